/-
  Texts of a proof, joined: SF, K10, K11, C1, K15, K16, K17, K19, K20, C2.
  Conditions: none.
-/
import Derived.Test.YtahbdamijngmmaaGreatProg
import Derived.Test.YtahbdamijngmmaaGreatJRW01
import Derived.MapFrom
set_option linter.unusedVariables false
set_option linter.unusedSimpArgs false
set_option linter.defProp false
set_option linter.unnecessarySimpa false
set_option maxHeartbeats 8000000
namespace Go.Proofs.YtahbdamijngmmaaGreat
open Go
set_option maxRecDepth 100000
theorem tyUs:(tyU Tryz.prog 3=some (.int (IntKind.i64)))∧
 (tyU Tryz.prog 4=some (.bool))∧
 (tyU Tryz.prog 5=some (.int (IntKind.u8)))∧
 (tyU Tryz.prog 9=some (.string))∧
 (tyU Tryz.prog 21=some (.int (IntKind.i32)))∧
 (tyU Tryz.prog 22=some (.slice 116))∧
 (tyU Tryz.prog 23=some (.slice 3))∧
 (tyU Tryz.prog 26=some (.slice 9))∧
 (tyU Tryz.prog 27=some (.slice 9))∧
 (tyU Tryz.prog 31=some (.slice 44))∧
 (tyU Tryz.prog 32=some (.int (IntKind.i64)))∧
 (tyU Tryz.prog 35=some (.slice 46))∧
 (tyU Tryz.prog 38=some (.slice 143))∧
 (tyU Tryz.prog 56=some (.int (IntKind.u16)))∧
 (tyU Tryz.prog 57=some (.slice 27))∧
 (tyU Tryz.prog 62=some (.slice 26))∧
 (tyU Tryz.prog 67=some (.slice 91))∧
 (tyU Tryz.prog 70=some (.slice 77))∧
 (tyU Tryz.prog 90=some (.slice 5))∧
 (tyU Tryz.prog 92=some (.slice 80))∧
 (tyU Tryz.prog 110=some (.slice 119))∧
 (tyU Tryz.prog 113=some (.array 4 5))∧
 (tyU Tryz.prog 114=some (.slice 122))∧
 (tyU Tryz.prog 117=some (.slice 131))∧
 (tyU Tryz.prog 120=some (.slice 201))∧
 (tyU Tryz.prog 125=some (.slice 210))∧
 (tyU Tryz.prog 135=some (.slice 217))∧
 (tyU Tryz.prog 141=some (.slice 128))∧
 (tyU Tryz.prog 147=some (.pointer 237))∧
 (tyU Tryz.prog 150=some (.slice 238))∧
 (tyU Tryz.prog 157=some (.pointer 161))∧
 (tyU Tryz.prog 158=some (.map 250 4))∧
 (tyU Tryz.prog 159=some (.slice 164))∧
 (tyU Tryz.prog 165=some (.map 3 91))∧
 (tyU Tryz.prog 167=some (.slice 172))∧
 (tyU Tryz.prog 168=some (.slice 84))∧
 (tyU Tryz.prog 181=some (.slice 197))∧
 (tyU Tryz.prog 182=some (.slice 382))∧
 (tyU Tryz.prog 195=some (.slice 199))∧
 (tyU Tryz.prog 199=some (.int (IntKind.u32)))∧
 (tyU Tryz.prog 202=some (.map 9 4))∧
 (tyU Tryz.prog 215=some (.slice 219))∧
 (tyU Tryz.prog 221=some (.slice 226))∧
 (tyU Tryz.prog 235=some (.pointer 303))∧
 (tyU Tryz.prog 238=some (.array 2 27))∧
 (tyU Tryz.prog 248=some (.array 4 3))∧
 (tyU Tryz.prog 252=some (.slice 208))∧
 (tyU Tryz.prog 253=some (.slice 312))∧
 (tyU Tryz.prog 262=some (.int (IntKind.u64)))∧
 (tyU Tryz.prog 276=some (.slice 279))∧
 (tyU Tryz.prog 280=some (.pointer 282))∧
 (tyU Tryz.prog 288=some (.array 10 9))∧
 (tyU Tryz.prog 291=some (.slice 21))∧
 (tyU Tryz.prog 301=some (.map 9 235))∧
 (tyU Tryz.prog 315=some (.int (IntKind.i64)))∧
 (tyU Tryz.prog 324=some (.int (IntKind.u64)))∧
 (tyU Tryz.prog 347=some (.pointer 5))∧
 (tyU Tryz.prog 368=some (.int (IntKind.u64)))∧
 (tyU Tryz.prog 372=some (.pointer 3))∧
 (tyU Tryz.prog 422=some (.slice 400)):=by
 and_intros
 all_goals rfl
theorem tySs:(tyS Tryz.prog 3=1)∧
 (tyS Tryz.prog 4=1)∧
 (tyS Tryz.prog 5=1)∧
 (tyS Tryz.prog 9=1)∧
 (tyS Tryz.prog 21=1)∧
 (tyS Tryz.prog 22=1)∧
 (tyS Tryz.prog 23=1)∧
 (tyS Tryz.prog 25=4)∧
 (tyS Tryz.prog 26=1)∧
 (tyS Tryz.prog 27=1)∧
 (tyS Tryz.prog 30=1)∧
 (tyS Tryz.prog 31=1)∧
 (tyS Tryz.prog 32=1)∧
 (tyS Tryz.prog 35=1)∧
 (tyS Tryz.prog 38=1)∧
 (tyS Tryz.prog 40=4)∧
 (tyS Tryz.prog 44=2)∧
 (tyS Tryz.prog 46=2)∧
 (tyS Tryz.prog 56=1)∧
 (tyS Tryz.prog 57=1)∧
 (tyS Tryz.prog 62=1)∧
 (tyS Tryz.prog 67=1)∧
 (tyS Tryz.prog 70=1)∧
 (tyS Tryz.prog 77=2)∧
 (tyS Tryz.prog 80=6)∧
 (tyS Tryz.prog 84=6)∧
 (tyS Tryz.prog 90=1)∧
 (tyS Tryz.prog 91=2)∧
 (tyS Tryz.prog 92=1)∧
 (tyS Tryz.prog 98=4)∧
 (tyS Tryz.prog 110=1)∧
 (tyS Tryz.prog 112=4)∧
 (tyS Tryz.prog 113=4)∧
 (tyS Tryz.prog 114=1)∧
 (tyS Tryz.prog 116=6)∧
 (tyS Tryz.prog 117=1)∧
 (tyS Tryz.prog 119=6)∧
 (tyS Tryz.prog 120=1)∧
 (tyS Tryz.prog 122=2)∧
 (tyS Tryz.prog 125=1)∧
 (tyS Tryz.prog 128=2)∧
 (tyS Tryz.prog 131=2)∧
 (tyS Tryz.prog 135=1)∧
 (tyS Tryz.prog 137=4)∧
 (tyS Tryz.prog 141=1)∧
 (tyS Tryz.prog 143=6)∧
 (tyS Tryz.prog 147=1)∧
 (tyS Tryz.prog 150=1)∧
 (tyS Tryz.prog 155=1)∧
 (tyS Tryz.prog 157=1)∧
 (tyS Tryz.prog 158=1)∧
 (tyS Tryz.prog 159=1)∧
 (tyS Tryz.prog 161=2)∧
 (tyS Tryz.prog 164=7)∧
 (tyS Tryz.prog 165=1)∧
 (tyS Tryz.prog 167=1)∧
 (tyS Tryz.prog 168=1)∧
 (tyS Tryz.prog 172=7)∧
 (tyS Tryz.prog 181=1)∧
 (tyS Tryz.prog 182=1)∧
 (tyS Tryz.prog 184=5)∧
 (tyS Tryz.prog 194=1)∧
 (tyS Tryz.prog 195=1)∧
 (tyS Tryz.prog 197=5)∧
 (tyS Tryz.prog 199=1)∧
 (tyS Tryz.prog 201=7)∧
 (tyS Tryz.prog 202=1)∧
 (tyS Tryz.prog 204=1)∧
 (tyS Tryz.prog 208=5)∧
 (tyS Tryz.prog 210=7)∧
 (tyS Tryz.prog 215=1)∧
 (tyS Tryz.prog 217=6)∧
 (tyS Tryz.prog 219=2)∧
 (tyS Tryz.prog 221=1)∧
 (tyS Tryz.prog 226=2)∧
 (tyS Tryz.prog 235=1)∧
 (tyS Tryz.prog 237=2)∧
 (tyS Tryz.prog 238=2)∧
 (tyS Tryz.prog 242=1)∧
 (tyS Tryz.prog 243=1)∧
 (tyS Tryz.prog 248=4)∧
 (tyS Tryz.prog 250=6)∧
 (tyS Tryz.prog 252=1)∧
 (tyS Tryz.prog 253=1)∧
 (tyS Tryz.prog 255=5)∧
 (tyS Tryz.prog 262=1)∧
 (tyS Tryz.prog 276=1)∧
 (tyS Tryz.prog 279=2)∧
 (tyS Tryz.prog 280=1)∧
 (tyS Tryz.prog 282=2)∧
 (tyS Tryz.prog 288=10)∧
 (tyS Tryz.prog 291=1)∧
 (tyS Tryz.prog 301=1)∧
 (tyS Tryz.prog 303=3)∧
 (tyS Tryz.prog 305=1)∧
 (tyS Tryz.prog 306=1)∧
 (tyS Tryz.prog 312=2)∧
 (tyS Tryz.prog 315=1)∧
 (tyS Tryz.prog 324=1)∧
 (tyS Tryz.prog 340=4)∧
 (tyS Tryz.prog 347=1)∧
 (tyS Tryz.prog 350=1)∧
 (tyS Tryz.prog 351=1)∧
 (tyS Tryz.prog 352=1)∧
 (tyS Tryz.prog 368=1)∧
 (tyS Tryz.prog 372=1)∧
 (tyS Tryz.prog 376=1)∧
 (tyS Tryz.prog 382=2)∧
 (tyS Tryz.prog 389=1)∧
 (tyS Tryz.prog 400=4)∧
 (tyS Tryz.prog 415=1)∧
 (tyS Tryz.prog 422=1):=by
 and_intros
 all_goals rfl
theorem tyAs:(tyA Tryz.prog 3=false)∧
 (tyA Tryz.prog 4=false)∧
 (tyA Tryz.prog 5=false)∧
 (tyA Tryz.prog 9=false)∧
 (tyA Tryz.prog 21=false)∧
 (tyA Tryz.prog 22=false)∧
 (tyA Tryz.prog 23=false)∧
 (tyA Tryz.prog 25=true)∧
 (tyA Tryz.prog 26=false)∧
 (tyA Tryz.prog 27=false)∧
 (tyA Tryz.prog 30=false)∧
 (tyA Tryz.prog 31=false)∧
 (tyA Tryz.prog 32=false)∧
 (tyA Tryz.prog 35=false)∧
 (tyA Tryz.prog 38=false)∧
 (tyA Tryz.prog 40=true)∧
 (tyA Tryz.prog 44=true)∧
 (tyA Tryz.prog 46=true)∧
 (tyA Tryz.prog 56=false)∧
 (tyA Tryz.prog 57=false)∧
 (tyA Tryz.prog 62=false)∧
 (tyA Tryz.prog 67=false)∧
 (tyA Tryz.prog 70=false)∧
 (tyA Tryz.prog 77=true)∧
 (tyA Tryz.prog 80=true)∧
 (tyA Tryz.prog 84=true)∧
 (tyA Tryz.prog 90=false)∧
 (tyA Tryz.prog 91=true)∧
 (tyA Tryz.prog 92=false)∧
 (tyA Tryz.prog 98=true)∧
 (tyA Tryz.prog 110=false)∧
 (tyA Tryz.prog 112=true)∧
 (tyA Tryz.prog 113=true)∧
 (tyA Tryz.prog 114=false)∧
 (tyA Tryz.prog 116=true)∧
 (tyA Tryz.prog 117=false)∧
 (tyA Tryz.prog 119=true)∧
 (tyA Tryz.prog 120=false)∧
 (tyA Tryz.prog 122=true)∧
 (tyA Tryz.prog 125=false)∧
 (tyA Tryz.prog 128=true)∧
 (tyA Tryz.prog 131=true)∧
 (tyA Tryz.prog 135=false)∧
 (tyA Tryz.prog 137=true)∧
 (tyA Tryz.prog 141=false)∧
 (tyA Tryz.prog 143=true)∧
 (tyA Tryz.prog 147=false)∧
 (tyA Tryz.prog 150=false)∧
 (tyA Tryz.prog 155=false)∧
 (tyA Tryz.prog 157=false)∧
 (tyA Tryz.prog 158=false)∧
 (tyA Tryz.prog 159=false)∧
 (tyA Tryz.prog 161=true)∧
 (tyA Tryz.prog 164=true)∧
 (tyA Tryz.prog 165=false)∧
 (tyA Tryz.prog 167=false)∧
 (tyA Tryz.prog 168=false)∧
 (tyA Tryz.prog 172=true)∧
 (tyA Tryz.prog 181=false)∧
 (tyA Tryz.prog 182=false)∧
 (tyA Tryz.prog 184=true)∧
 (tyA Tryz.prog 194=false)∧
 (tyA Tryz.prog 195=false)∧
 (tyA Tryz.prog 197=true)∧
 (tyA Tryz.prog 199=false)∧
 (tyA Tryz.prog 201=true)∧
 (tyA Tryz.prog 202=false)∧
 (tyA Tryz.prog 204=false)∧
 (tyA Tryz.prog 208=true)∧
 (tyA Tryz.prog 210=true)∧
 (tyA Tryz.prog 215=false)∧
 (tyA Tryz.prog 217=true)∧
 (tyA Tryz.prog 219=true)∧
 (tyA Tryz.prog 221=false)∧
 (tyA Tryz.prog 226=true)∧
 (tyA Tryz.prog 235=false)∧
 (tyA Tryz.prog 237=true)∧
 (tyA Tryz.prog 238=true)∧
 (tyA Tryz.prog 242=false)∧
 (tyA Tryz.prog 243=false)∧
 (tyA Tryz.prog 248=true)∧
 (tyA Tryz.prog 250=true)∧
 (tyA Tryz.prog 252=false)∧
 (tyA Tryz.prog 253=false)∧
 (tyA Tryz.prog 255=true)∧
 (tyA Tryz.prog 262=false)∧
 (tyA Tryz.prog 276=false)∧
 (tyA Tryz.prog 279=true)∧
 (tyA Tryz.prog 280=false)∧
 (tyA Tryz.prog 282=true)∧
 (tyA Tryz.prog 288=true)∧
 (tyA Tryz.prog 291=false)∧
 (tyA Tryz.prog 301=false)∧
 (tyA Tryz.prog 303=true)∧
 (tyA Tryz.prog 305=false)∧
 (tyA Tryz.prog 306=false)∧
 (tyA Tryz.prog 312=true)∧
 (tyA Tryz.prog 315=false)∧
 (tyA Tryz.prog 324=false)∧
 (tyA Tryz.prog 340=true)∧
 (tyA Tryz.prog 347=false)∧
 (tyA Tryz.prog 350=false)∧
 (tyA Tryz.prog 351=false)∧
 (tyA Tryz.prog 352=false)∧
 (tyA Tryz.prog 368=false)∧
 (tyA Tryz.prog 372=false)∧
 (tyA Tryz.prog 376=false)∧
 (tyA Tryz.prog 382=true)∧
 (tyA Tryz.prog 389=false)∧
 (tyA Tryz.prog 400=true)∧
 (tyA Tryz.prog 415=false)∧
 (tyA Tryz.prog 422=false):=by
 and_intros
 all_goals rfl
theorem tyNs:((tyU Tryz.prog 25).isSome=true)∧
 ((tyU Tryz.prog 30).isSome=true)∧
 ((tyU Tryz.prog 40).isSome=true)∧
 ((tyU Tryz.prog 44).isSome=true)∧
 ((tyU Tryz.prog 46).isSome=true)∧
 ((tyU Tryz.prog 77).isSome=true)∧
 ((tyU Tryz.prog 80).isSome=true)∧
 ((tyU Tryz.prog 84).isSome=true)∧
 ((tyU Tryz.prog 91).isSome=true)∧
 ((tyU Tryz.prog 98).isSome=true)∧
 ((tyU Tryz.prog 112).isSome=true)∧
 ((tyU Tryz.prog 116).isSome=true)∧
 ((tyU Tryz.prog 119).isSome=true)∧
 ((tyU Tryz.prog 122).isSome=true)∧
 ((tyU Tryz.prog 128).isSome=true)∧
 ((tyU Tryz.prog 131).isSome=true)∧
 ((tyU Tryz.prog 137).isSome=true)∧
 ((tyU Tryz.prog 143).isSome=true)∧
 ((tyU Tryz.prog 155).isSome=true)∧
 ((tyU Tryz.prog 161).isSome=true)∧
 ((tyU Tryz.prog 164).isSome=true)∧
 ((tyU Tryz.prog 172).isSome=true)∧
 ((tyU Tryz.prog 184).isSome=true)∧
 ((tyU Tryz.prog 194).isSome=true)∧
 ((tyU Tryz.prog 197).isSome=true)∧
 ((tyU Tryz.prog 201).isSome=true)∧
 ((tyU Tryz.prog 204).isSome=true)∧
 ((tyU Tryz.prog 208).isSome=true)∧
 ((tyU Tryz.prog 210).isSome=true)∧
 ((tyU Tryz.prog 217).isSome=true)∧
 ((tyU Tryz.prog 219).isSome=true)∧
 ((tyU Tryz.prog 226).isSome=true)∧
 ((tyU Tryz.prog 237).isSome=true)∧
 ((tyU Tryz.prog 242).isSome=true)∧
 ((tyU Tryz.prog 243).isSome=true)∧
 ((tyU Tryz.prog 250).isSome=true)∧
 ((tyU Tryz.prog 255).isSome=true)∧
 ((tyU Tryz.prog 279).isSome=true)∧
 ((tyU Tryz.prog 282).isSome=true)∧
 ((tyU Tryz.prog 303).isSome=true)∧
 ((tyU Tryz.prog 305).isSome=true)∧
 ((tyU Tryz.prog 306).isSome=true)∧
 ((tyU Tryz.prog 312).isSome=true)∧
 ((tyU Tryz.prog 340).isSome=true)∧
 ((tyU Tryz.prog 350).isSome=true)∧
 ((tyU Tryz.prog 351).isSome=true)∧
 ((tyU Tryz.prog 352).isSome=true)∧
 ((tyU Tryz.prog 376).isSome=true)∧
 ((tyU Tryz.prog 382).isSome=true)∧
 ((tyU Tryz.prog 389).isSome=true)∧
 ((tyU Tryz.prog 400).isSome=true)∧
 ((tyU Tryz.prog 415).isSome=true):=by
 and_intros
 all_goals rfl
theorem tyZs:(tyZ Tryz.prog 3=some (.int .i64 0))∧
 (tyZ Tryz.prog 4=some (.bool false))∧
 (tyZ Tryz.prog 5=some (.int .u8 0))∧
 (tyZ Tryz.prog 9=some (vs []))∧
 (tyZ Tryz.prog 21=some (.int .i32 0))∧
 (tyZ Tryz.prog 22=some (.slice Option.none 0 0))∧
 (tyZ Tryz.prog 23=some (.slice Option.none 0 0))∧
 (tyZ Tryz.prog 25=some (.agg #[.slice Option.none 0 0,.slice Option.none 0 0,.int .i64 0,.int .i64 0]))∧
 (tyZ Tryz.prog 26=some (.slice Option.none 0 0))∧
 (tyZ Tryz.prog 27=some (.slice Option.none 0 0))∧
 (tyZ Tryz.prog 30=some (.nilFunc))∧
 (tyZ Tryz.prog 31=some (.slice Option.none 0 0))∧
 (tyZ Tryz.prog 32=some (.int .i64 0))∧
 (tyZ Tryz.prog 35=some (.slice Option.none 0 0))∧
 (tyZ Tryz.prog 38=some (.slice Option.none 0 0))∧
 (tyZ Tryz.prog 40=some (.agg #[.slice Option.none 0 0,.slice Option.none 0 0,.int .i64 0,.int .i64 0]))∧
 (tyZ Tryz.prog 44=some (.agg #[.slice Option.none 0 0,.bool false]))∧
 (tyZ Tryz.prog 46=some (.agg #[.slice Option.none 0 0,.bool false]))∧
 (tyZ Tryz.prog 56=some (.int .u16 0))∧
 (tyZ Tryz.prog 57=some (.slice Option.none 0 0))∧
 (tyZ Tryz.prog 62=some (.slice Option.none 0 0))∧
 (tyZ Tryz.prog 67=some (.slice Option.none 0 0))∧
 (tyZ Tryz.prog 70=some (.slice Option.none 0 0))∧
 (tyZ Tryz.prog 77=some (.agg #[.int .i64 0,.slice Option.none 0 0]))∧
 (tyZ Tryz.prog 80=some (.agg #[.int .i64 0,.slice Option.none 0 0,.int .i64 0,.int .i64 0,.bool false,.int .i64 0]))∧
 (tyZ Tryz.prog 84=some (.agg #[.int .i64 0,.slice Option.none 0 0,.int .i64 0,.int .i64 0,.bool false,.int .i64 0]))∧
 (tyZ Tryz.prog 90=some (.slice Option.none 0 0))∧
 (tyZ Tryz.prog 91=some (.agg #[.int .i64 0,.slice Option.none 0 0]))∧
 (tyZ Tryz.prog 92=some (.slice Option.none 0 0))∧
 (tyZ Tryz.prog 98=some (.agg #[.int .i64 0,.slice Option.none 0 0,.int .i64 0,.slice Option.none 0 0]))∧
 (tyZ Tryz.prog 110=some (.slice Option.none 0 0))∧
 (tyZ Tryz.prog 112=some (.agg #[.slice Option.none 0 0,.slice Option.none 0 0,.int .i64 0,.int .i64 0]))∧
 (tyZ Tryz.prog 113=some (.agg #[.int .u8 0,.int .u8 0,.int .u8 0,.int .u8 0]))∧
 (tyZ Tryz.prog 114=some (.slice Option.none 0 0))∧
 (tyZ Tryz.prog 116=some (.agg #[.slice Option.none 0 0,.int .u8 0,.int .u8 0,.int .u8 0,.int .u8 0,.slice Option.none 0 0]))∧
 (tyZ Tryz.prog 117=some (.slice Option.none 0 0))∧
 (tyZ Tryz.prog 119=some (.agg #[.slice Option.none 0 0,.int .u8 0,.int .u8 0,.int .u8 0,.int .u8 0,.slice Option.none 0 0]))∧
 (tyZ Tryz.prog 120=some (.slice Option.none 0 0))∧
 (tyZ Tryz.prog 122=some (.agg #[.slice Option.none 0 0,.slice Option.none 0 0]))∧
 (tyZ Tryz.prog 125=some (.slice Option.none 0 0))∧
 (tyZ Tryz.prog 128=some (.agg #[.slice Option.none 0 0,.slice Option.none 0 0]))∧
 (tyZ Tryz.prog 131=some (.agg #[.slice Option.none 0 0,vs []]))∧
 (tyZ Tryz.prog 135=some (.slice Option.none 0 0))∧
 (tyZ Tryz.prog 137=some (.agg #[.slice Option.none 0 0,.slice Option.none 0 0,.int .i64 0,.int .i64 0]))∧
 (tyZ Tryz.prog 141=some (.slice Option.none 0 0))∧
 (tyZ Tryz.prog 143=some (.agg #[.slice Option.none 0 0,.int .u8 0,.int .u8 0,.int .u8 0,.int .u8 0,.slice Option.none 0 0]))∧
 (tyZ Tryz.prog 147=some (.pointer Option.none))∧
 (tyZ Tryz.prog 150=some (.slice Option.none 0 0))∧
 (tyZ Tryz.prog 155=some (.nilFunc))∧
 (tyZ Tryz.prog 157=some (.pointer Option.none))∧
 (tyZ Tryz.prog 158=some (.map Option.none))∧
 (tyZ Tryz.prog 159=some (.slice Option.none 0 0))∧
 (tyZ Tryz.prog 161=some (.agg #[.map Option.none,.slice Option.none 0 0]))∧
 (tyZ Tryz.prog 164=some (.agg #[.int .i64 0,.slice Option.none 0 0,.int .i64 0,.int .i64 0,.bool false,.int .i64 0,.slice Option.none 0 0]))∧
 (tyZ Tryz.prog 165=some (.map Option.none))∧
 (tyZ Tryz.prog 167=some (.slice Option.none 0 0))∧
 (tyZ Tryz.prog 168=some (.slice Option.none 0 0))∧
 (tyZ Tryz.prog 172=some (.agg #[.int .i64 0,.slice Option.none 0 0,.int .i64 0,.int .i64 0,.bool false,.int .i64 0,.slice Option.none 0 0]))∧
 (tyZ Tryz.prog 181=some (.slice Option.none 0 0))∧
 (tyZ Tryz.prog 182=some (.slice Option.none 0 0))∧
 (tyZ Tryz.prog 184=some (.agg #[.int .i64 0,.slice Option.none 0 0,.slice Option.none 0 0,.bool false,.slice Option.none 0 0]))∧
 (tyZ Tryz.prog 194=some (.nilFunc))∧
 (tyZ Tryz.prog 195=some (.slice Option.none 0 0))∧
 (tyZ Tryz.prog 197=some (.agg #[.int .i64 0,.slice Option.none 0 0,.slice Option.none 0 0,.slice Option.none 0 0,.slice Option.none 0 0]))∧
 (tyZ Tryz.prog 199=some (.int .u32 0))∧
 (tyZ Tryz.prog 201=some (.agg #[.slice Option.none 0 0,.int .u32 0,.int .i64 0,.slice Option.none 0 0,.slice Option.none 0 0,.slice Option.none 0 0,.slice Option.none 0 0]))∧
 (tyZ Tryz.prog 202=some (.map Option.none))∧
 (tyZ Tryz.prog 204=some (.nilFunc))∧
 (tyZ Tryz.prog 208=some (.agg #[.int .i64 0,.slice Option.none 0 0,.slice Option.none 0 0,.slice Option.none 0 0,.slice Option.none 0 0]))∧
 (tyZ Tryz.prog 210=some (.agg #[.slice Option.none 0 0,.int .u32 0,.int .i64 0,.slice Option.none 0 0,.slice Option.none 0 0,.slice Option.none 0 0,.slice Option.none 0 0]))∧
 (tyZ Tryz.prog 215=some (.slice Option.none 0 0))∧
 (tyZ Tryz.prog 217=some (.agg #[.slice Option.none 0 0,.int .u8 0,.int .u8 0,.int .u8 0,.int .u8 0,.slice Option.none 0 0]))∧
 (tyZ Tryz.prog 219=some (.agg #[.slice Option.none 0 0,vs []]))∧
 (tyZ Tryz.prog 221=some (.slice Option.none 0 0))∧
 (tyZ Tryz.prog 226=some (.agg #[.slice Option.none 0 0,.slice Option.none 0 0]))∧
 (tyZ Tryz.prog 235=some (.pointer Option.none))∧
 (tyZ Tryz.prog 237=some (.agg #[.pointer Option.none,.int .i64 0]))∧
 (tyZ Tryz.prog 238=some (.agg #[.slice Option.none 0 0,.slice Option.none 0 0]))∧
 (tyZ Tryz.prog 242=some (.nilFunc))∧
 (tyZ Tryz.prog 243=some (.nilFunc))∧
 (tyZ Tryz.prog 248=some (.agg #[.int .i64 0,.int .i64 0,.int .i64 0,.int .i64 0]))∧
 (tyZ Tryz.prog 250=some (.agg #[vs [],.int .i64 0,.int .i64 0,.int .i64 0,.int .i64 0,.bool false]))∧
 (tyZ Tryz.prog 252=some (.slice Option.none 0 0))∧
 (tyZ Tryz.prog 253=some (.slice Option.none 0 0))∧
 (tyZ Tryz.prog 255=some (.agg #[.int .i64 0,.slice Option.none 0 0,.slice Option.none 0 0,.bool false,.slice Option.none 0 0]))∧
 (tyZ Tryz.prog 262=some (.int .u64 0))∧
 (tyZ Tryz.prog 276=some (.slice Option.none 0 0))∧
 (tyZ Tryz.prog 279=some (.agg #[.int .i64 0,vs []]))∧
 (tyZ Tryz.prog 280=some (.pointer Option.none))∧
 (tyZ Tryz.prog 282=some (.agg #[.pointer Option.none,.slice Option.none 0 0]))∧
 (tyZ Tryz.prog 288=some (.agg #[vs [],vs [],vs [],vs [],vs [],vs [],vs [],vs [],vs [],vs []]))∧
 (tyZ Tryz.prog 291=some (.slice Option.none 0 0))∧
 (tyZ Tryz.prog 301=some (.map Option.none))∧
 (tyZ Tryz.prog 303=some (.agg #[.map Option.none,.bool false,.bool false]))∧
 (tyZ Tryz.prog 305=some (.nilFunc))∧
 (tyZ Tryz.prog 306=some (.nilFunc))∧
 (tyZ Tryz.prog 312=some (.agg #[.slice Option.none 0 0,.slice Option.none 0 0]))∧
 (tyZ Tryz.prog 315=some (.int .i64 0))∧
 (tyZ Tryz.prog 324=some (.int .u64 0))∧
 (tyZ Tryz.prog 340=some (.agg #[.slice Option.none 0 0,.int .i64 0,.int .u32 0,.slice Option.none 0 0]))∧
 (tyZ Tryz.prog 347=some (.pointer Option.none))∧
 (tyZ Tryz.prog 350=some (.nilFunc))∧
 (tyZ Tryz.prog 351=some (.nilFunc))∧
 (tyZ Tryz.prog 352=some (.nilFunc))∧
 (tyZ Tryz.prog 368=some (.int .u64 0))∧
 (tyZ Tryz.prog 372=some (.pointer Option.none))∧
 (tyZ Tryz.prog 376=some (.nilFunc))∧
 (tyZ Tryz.prog 382=some (.agg #[.slice Option.none 0 0,.slice Option.none 0 0]))∧
 (tyZ Tryz.prog 389=some (.pointer Option.none))∧
 (tyZ Tryz.prog 400=some (.agg #[.slice Option.none 0 0,.int .i64 0,.int .u32 0,.slice Option.none 0 0]))∧
 (tyZ Tryz.prog 415=some (.nilFunc))∧
 (tyZ Tryz.prog 422=some (.slice Option.none 0 0)):=by
 and_intros
 all_goals rfl
theorem fdAs:(∀a:Addr,fdA Tryz.prog 25 (.pointer (some a)) 0=some (.pointer (adr (some a) 0)))∧
 (∀a:Addr,fdA Tryz.prog 25 (.pointer (some a)) 1=some (.pointer (adr (some a) 1)))∧
 (∀a:Addr,fdA Tryz.prog 25 (.pointer (some a)) 2=some (.pointer (adr (some a) 2)))∧
 (∀a:Addr,fdA Tryz.prog 25 (.pointer (some a)) 3=some (.pointer (adr (some a) 3)))∧
 (∀a:Addr,fdA Tryz.prog 40 (.pointer (some a)) 0=some (.pointer (adr (some a) 0)))∧
 (∀a:Addr,fdA Tryz.prog 40 (.pointer (some a)) 1=some (.pointer (adr (some a) 1)))∧
 (∀a:Addr,fdA Tryz.prog 40 (.pointer (some a)) 2=some (.pointer (adr (some a) 2)))∧
 (∀a:Addr,fdA Tryz.prog 40 (.pointer (some a)) 3=some (.pointer (adr (some a) 3)))∧
 (∀a:Addr,fdA Tryz.prog 44 (.pointer (some a)) 0=some (.pointer (adr (some a) 0)))∧
 (∀a:Addr,fdA Tryz.prog 44 (.pointer (some a)) 1=some (.pointer (adr (some a) 1)))∧
 (∀a:Addr,fdA Tryz.prog 46 (.pointer (some a)) 0=some (.pointer (adr (some a) 0)))∧
 (∀a:Addr,fdA Tryz.prog 46 (.pointer (some a)) 1=some (.pointer (adr (some a) 1)))∧
 (∀a:Addr,fdA Tryz.prog 77 (.pointer (some a)) 0=some (.pointer (adr (some a) 0)))∧
 (∀a:Addr,fdA Tryz.prog 77 (.pointer (some a)) 1=some (.pointer (adr (some a) 1)))∧
 (∀a:Addr,fdA Tryz.prog 80 (.pointer (some a)) 0=some (.pointer (adr (some a) 0)))∧
 (∀a:Addr,fdA Tryz.prog 80 (.pointer (some a)) 1=some (.pointer (adr (some a) 1)))∧
 (∀a:Addr,fdA Tryz.prog 80 (.pointer (some a)) 2=some (.pointer (adr (some a) 2)))∧
 (∀a:Addr,fdA Tryz.prog 80 (.pointer (some a)) 3=some (.pointer (adr (some a) 3)))∧
 (∀a:Addr,fdA Tryz.prog 80 (.pointer (some a)) 4=some (.pointer (adr (some a) 4)))∧
 (∀a:Addr,fdA Tryz.prog 80 (.pointer (some a)) 5=some (.pointer (adr (some a) 5)))∧
 (∀a:Addr,fdA Tryz.prog 84 (.pointer (some a)) 0=some (.pointer (adr (some a) 0)))∧
 (∀a:Addr,fdA Tryz.prog 84 (.pointer (some a)) 1=some (.pointer (adr (some a) 1)))∧
 (∀a:Addr,fdA Tryz.prog 84 (.pointer (some a)) 2=some (.pointer (adr (some a) 2)))∧
 (∀a:Addr,fdA Tryz.prog 84 (.pointer (some a)) 3=some (.pointer (adr (some a) 3)))∧
 (∀a:Addr,fdA Tryz.prog 84 (.pointer (some a)) 4=some (.pointer (adr (some a) 4)))∧
 (∀a:Addr,fdA Tryz.prog 84 (.pointer (some a)) 5=some (.pointer (adr (some a) 5)))∧
 (∀a:Addr,fdA Tryz.prog 91 (.pointer (some a)) 0=some (.pointer (adr (some a) 0)))∧
 (∀a:Addr,fdA Tryz.prog 91 (.pointer (some a)) 1=some (.pointer (adr (some a) 1)))∧
 (∀a:Addr,fdA Tryz.prog 98 (.pointer (some a)) 0=some (.pointer (adr (some a) 0)))∧
 (∀a:Addr,fdA Tryz.prog 98 (.pointer (some a)) 1=some (.pointer (adr (some a) 1)))∧
 (∀a:Addr,fdA Tryz.prog 98 (.pointer (some a)) 2=some (.pointer (adr (some a) 2)))∧
 (∀a:Addr,fdA Tryz.prog 98 (.pointer (some a)) 3=some (.pointer (adr (some a) 3)))∧
 (∀a:Addr,fdA Tryz.prog 112 (.pointer (some a)) 0=some (.pointer (adr (some a) 0)))∧
 (∀a:Addr,fdA Tryz.prog 112 (.pointer (some a)) 1=some (.pointer (adr (some a) 1)))∧
 (∀a:Addr,fdA Tryz.prog 112 (.pointer (some a)) 2=some (.pointer (adr (some a) 2)))∧
 (∀a:Addr,fdA Tryz.prog 112 (.pointer (some a)) 3=some (.pointer (adr (some a) 3)))∧
 (∀a:Addr,fdA Tryz.prog 116 (.pointer (some a)) 0=some (.pointer (adr (some a) 0)))∧
 (∀a:Addr,fdA Tryz.prog 116 (.pointer (some a)) 1=some (.pointer (adr (some a) 1)))∧
 (∀a:Addr,fdA Tryz.prog 116 (.pointer (some a)) 2=some (.pointer (adr (some a) 5)))∧
 (∀a:Addr,fdA Tryz.prog 119 (.pointer (some a)) 0=some (.pointer (adr (some a) 0)))∧
 (∀a:Addr,fdA Tryz.prog 119 (.pointer (some a)) 1=some (.pointer (adr (some a) 1)))∧
 (∀a:Addr,fdA Tryz.prog 119 (.pointer (some a)) 2=some (.pointer (adr (some a) 5)))∧
 (∀a:Addr,fdA Tryz.prog 122 (.pointer (some a)) 0=some (.pointer (adr (some a) 0)))∧
 (∀a:Addr,fdA Tryz.prog 122 (.pointer (some a)) 1=some (.pointer (adr (some a) 1)))∧
 (∀a:Addr,fdA Tryz.prog 128 (.pointer (some a)) 0=some (.pointer (adr (some a) 0)))∧
 (∀a:Addr,fdA Tryz.prog 128 (.pointer (some a)) 1=some (.pointer (adr (some a) 1)))∧
 (∀a:Addr,fdA Tryz.prog 131 (.pointer (some a)) 0=some (.pointer (adr (some a) 0)))∧
 (∀a:Addr,fdA Tryz.prog 131 (.pointer (some a)) 1=some (.pointer (adr (some a) 1)))∧
 (∀a:Addr,fdA Tryz.prog 137 (.pointer (some a)) 0=some (.pointer (adr (some a) 0)))∧
 (∀a:Addr,fdA Tryz.prog 137 (.pointer (some a)) 1=some (.pointer (adr (some a) 1)))∧
 (∀a:Addr,fdA Tryz.prog 137 (.pointer (some a)) 2=some (.pointer (adr (some a) 2)))∧
 (∀a:Addr,fdA Tryz.prog 137 (.pointer (some a)) 3=some (.pointer (adr (some a) 3)))∧
 (∀a:Addr,fdA Tryz.prog 143 (.pointer (some a)) 0=some (.pointer (adr (some a) 0)))∧
 (∀a:Addr,fdA Tryz.prog 143 (.pointer (some a)) 1=some (.pointer (adr (some a) 1)))∧
 (∀a:Addr,fdA Tryz.prog 143 (.pointer (some a)) 2=some (.pointer (adr (some a) 5)))∧
 (∀a:Addr,fdA Tryz.prog 161 (.pointer (some a)) 0=some (.pointer (adr (some a) 0)))∧
 (∀a:Addr,fdA Tryz.prog 161 (.pointer (some a)) 1=some (.pointer (adr (some a) 1)))∧
 (∀a:Addr,fdA Tryz.prog 164 (.pointer (some a)) 0=some (.pointer (adr (some a) 0)))∧
 (∀a:Addr,fdA Tryz.prog 164 (.pointer (some a)) 1=some (.pointer (adr (some a) 6)))∧
 (∀a:Addr,fdA Tryz.prog 172 (.pointer (some a)) 0=some (.pointer (adr (some a) 0)))∧
 (∀a:Addr,fdA Tryz.prog 172 (.pointer (some a)) 1=some (.pointer (adr (some a) 6)))∧
 (∀a:Addr,fdA Tryz.prog 184 (.pointer (some a)) 0=some (.pointer (adr (some a) 0)))∧
 (∀a:Addr,fdA Tryz.prog 184 (.pointer (some a)) 1=some (.pointer (adr (some a) 1)))∧
 (∀a:Addr,fdA Tryz.prog 184 (.pointer (some a)) 2=some (.pointer (adr (some a) 2)))∧
 (∀a:Addr,fdA Tryz.prog 184 (.pointer (some a)) 3=some (.pointer (adr (some a) 3)))∧
 (∀a:Addr,fdA Tryz.prog 184 (.pointer (some a)) 4=some (.pointer (adr (some a) 4)))∧
 (∀a:Addr,fdA Tryz.prog 197 (.pointer (some a)) 0=some (.pointer (adr (some a) 0)))∧
 (∀a:Addr,fdA Tryz.prog 197 (.pointer (some a)) 1=some (.pointer (adr (some a) 1)))∧
 (∀a:Addr,fdA Tryz.prog 197 (.pointer (some a)) 2=some (.pointer (adr (some a) 2)))∧
 (∀a:Addr,fdA Tryz.prog 197 (.pointer (some a)) 3=some (.pointer (adr (some a) 3)))∧
 (∀a:Addr,fdA Tryz.prog 197 (.pointer (some a)) 4=some (.pointer (adr (some a) 4)))∧
 (∀a:Addr,fdA Tryz.prog 201 (.pointer (some a)) 0=some (.pointer (adr (some a) 0)))∧
 (∀a:Addr,fdA Tryz.prog 201 (.pointer (some a)) 1=some (.pointer (adr (some a) 1)))∧
 (∀a:Addr,fdA Tryz.prog 201 (.pointer (some a)) 2=some (.pointer (adr (some a) 2)))∧
 (∀a:Addr,fdA Tryz.prog 208 (.pointer (some a)) 0=some (.pointer (adr (some a) 0)))∧
 (∀a:Addr,fdA Tryz.prog 208 (.pointer (some a)) 1=some (.pointer (adr (some a) 1)))∧
 (∀a:Addr,fdA Tryz.prog 208 (.pointer (some a)) 2=some (.pointer (adr (some a) 2)))∧
 (∀a:Addr,fdA Tryz.prog 208 (.pointer (some a)) 3=some (.pointer (adr (some a) 3)))∧
 (∀a:Addr,fdA Tryz.prog 208 (.pointer (some a)) 4=some (.pointer (adr (some a) 4)))∧
 (∀a:Addr,fdA Tryz.prog 210 (.pointer (some a)) 0=some (.pointer (adr (some a) 0)))∧
 (∀a:Addr,fdA Tryz.prog 210 (.pointer (some a)) 1=some (.pointer (adr (some a) 1)))∧
 (∀a:Addr,fdA Tryz.prog 210 (.pointer (some a)) 2=some (.pointer (adr (some a) 2)))∧
 (∀a:Addr,fdA Tryz.prog 217 (.pointer (some a)) 0=some (.pointer (adr (some a) 0)))∧
 (∀a:Addr,fdA Tryz.prog 217 (.pointer (some a)) 1=some (.pointer (adr (some a) 1)))∧
 (∀a:Addr,fdA Tryz.prog 217 (.pointer (some a)) 2=some (.pointer (adr (some a) 5)))∧
 (∀a:Addr,fdA Tryz.prog 219 (.pointer (some a)) 0=some (.pointer (adr (some a) 0)))∧
 (∀a:Addr,fdA Tryz.prog 219 (.pointer (some a)) 1=some (.pointer (adr (some a) 1)))∧
 (∀a:Addr,fdA Tryz.prog 226 (.pointer (some a)) 0=some (.pointer (adr (some a) 0)))∧
 (∀a:Addr,fdA Tryz.prog 226 (.pointer (some a)) 1=some (.pointer (adr (some a) 1)))∧
 (∀a:Addr,fdA Tryz.prog 237 (.pointer (some a)) 0=some (.pointer (adr (some a) 0)))∧
 (∀a:Addr,fdA Tryz.prog 237 (.pointer (some a)) 1=some (.pointer (adr (some a) 1)))∧
 (∀a:Addr,fdA Tryz.prog 250 (.pointer (some a)) 0=some (.pointer (adr (some a) 0)))∧
 (∀a:Addr,fdA Tryz.prog 250 (.pointer (some a)) 1=some (.pointer (adr (some a) 1)))∧
 (∀a:Addr,fdA Tryz.prog 250 (.pointer (some a)) 2=some (.pointer (adr (some a) 5)))∧
 (∀a:Addr,fdA Tryz.prog 255 (.pointer (some a)) 0=some (.pointer (adr (some a) 0)))∧
 (∀a:Addr,fdA Tryz.prog 255 (.pointer (some a)) 1=some (.pointer (adr (some a) 1)))∧
 (∀a:Addr,fdA Tryz.prog 255 (.pointer (some a)) 2=some (.pointer (adr (some a) 2)))∧
 (∀a:Addr,fdA Tryz.prog 255 (.pointer (some a)) 3=some (.pointer (adr (some a) 3)))∧
 (∀a:Addr,fdA Tryz.prog 255 (.pointer (some a)) 4=some (.pointer (adr (some a) 4)))∧
 (∀a:Addr,fdA Tryz.prog 279 (.pointer (some a)) 0=some (.pointer (adr (some a) 0)))∧
 (∀a:Addr,fdA Tryz.prog 279 (.pointer (some a)) 1=some (.pointer (adr (some a) 1)))∧
 (∀a:Addr,fdA Tryz.prog 282 (.pointer (some a)) 0=some (.pointer (adr (some a) 0)))∧
 (∀a:Addr,fdA Tryz.prog 282 (.pointer (some a)) 1=some (.pointer (adr (some a) 1)))∧
 (∀a:Addr,fdA Tryz.prog 303 (.pointer (some a)) 0=some (.pointer (adr (some a) 0)))∧
 (∀a:Addr,fdA Tryz.prog 303 (.pointer (some a)) 1=some (.pointer (adr (some a) 1)))∧
 (∀a:Addr,fdA Tryz.prog 303 (.pointer (some a)) 2=some (.pointer (adr (some a) 2)))∧
 (∀a:Addr,fdA Tryz.prog 312 (.pointer (some a)) 0=some (.pointer (adr (some a) 0)))∧
 (∀a:Addr,fdA Tryz.prog 312 (.pointer (some a)) 1=some (.pointer (adr (some a) 1)))∧
 (∀a:Addr,fdA Tryz.prog 340 (.pointer (some a)) 0=some (.pointer (adr (some a) 0)))∧
 (∀a:Addr,fdA Tryz.prog 340 (.pointer (some a)) 1=some (.pointer (adr (some a) 1)))∧
 (∀a:Addr,fdA Tryz.prog 340 (.pointer (some a)) 2=some (.pointer (adr (some a) 2)))∧
 (∀a:Addr,fdA Tryz.prog 340 (.pointer (some a)) 3=some (.pointer (adr (some a) 3)))∧
 (∀a:Addr,fdA Tryz.prog 382 (.pointer (some a)) 0=some (.pointer (adr (some a) 0)))∧
 (∀a:Addr,fdA Tryz.prog 382 (.pointer (some a)) 1=some (.pointer (adr (some a) 1)))∧
 (∀a:Addr,fdA Tryz.prog 400 (.pointer (some a)) 0=some (.pointer (adr (some a) 0)))∧
 (∀a:Addr,fdA Tryz.prog 400 (.pointer (some a)) 1=some (.pointer (adr (some a) 1)))∧
 (∀a:Addr,fdA Tryz.prog 400 (.pointer (some a)) 2=some (.pointer (adr (some a) 2)))∧
 (∀a:Addr,fdA Tryz.prog 400 (.pointer (some a)) 3=some (.pointer (adr (some a) 3))):=by
 and_intros
 all_goals (intro a;kernel_rfl)
theorem fns1(f:Nat)(h:1<f)(k:f<258):zan Tryz.prog f=true:=(by decide+kernel:∀f,f<258→1<f→zan Tryz.prog f=true) f k h
theorem fns258(f:Nat)(h:258<f)(k:f<285):zan Tryz.prog f=true:=(by decide+kernel:∀f,f<285→258<f→zan Tryz.prog f=true) f k h
theorem fns285(f:Nat)(h:285<f)(k:f<294):zan Tryz.prog f=true:=(by decide+kernel:∀f,f<294→285<f→zan Tryz.prog f=true) f k h
theorem fns294(f:Nat)(h:294<f)(k:f<305):zan Tryz.prog f=true:=(by decide+kernel:∀f,f<305→294<f→zan Tryz.prog f=true) f k h
theorem fns305(f:Nat)(h:305<f)(k:f<322):zan Tryz.prog f=true:=(by decide+kernel:∀f,f<322→305<f→zan Tryz.prog f=true) f k h
theorem fnx:(zan Tryz.prog 258=false)∧
 (zan Tryz.prog 285=false)∧
 (zan Tryz.prog 294=false)∧
 (zan Tryz.prog 305=false)∧
 (zan Tryz.prog 322=false)∧
 (zan Tryz.prog 323=false)∧
 (zan Tryz.prog 324=false)∧
 (zan Tryz.prog 325=false)∧
 (zan Tryz.prog 326=false)∧
 (zan Tryz.prog 327=false)∧
 (zan Tryz.prog 328=false)∧
 (zan Tryz.prog 329=false)∧
 (zan Tryz.prog 330=false)∧
 (zan Tryz.prog 331=false)∧
 (zan Tryz.prog 332=false)∧
 (zan Tryz.prog 333=false)∧
 (zan Tryz.prog 334=false)∧
 (zan Tryz.prog 335=false)∧
 (zan Tryz.prog 336=false)∧
 (zan Tryz.prog 337=false)∧
 (zan Tryz.prog 338=false)∧
 (zan Tryz.prog 339=false)∧
 (zan Tryz.prog 340=false)∧
 (zan Tryz.prog 341=false)∧
 (zan Tryz.prog 342=false):=by
 refine⟨?_,?_,?_,?_,?_,?_,?_,?_,?_,?_,?_,?_,?_,?_,?_,?_,?_,?_,?_,?_,?_,?_,?_,?_,?_⟩
 all_goals rfl
theorem tyIs(t:Nat)(h:t<423):(Tryz.prog.info? t).isSome=true:=(by decide+kernel:∀t,t<423→(Tryz.prog.info? t).isSome=true) t h
attribute [go_sem] tyUs tySs tyAs tyIs tyNs fns1 fns258 fns285 fns294 fns305 fnx tyZs fdAs
theorem mixed:Tryz.prog.follows .mixedOrders=true:=by rfl
abbrev Lab:=List UInt8
def MapAt(w:World)(r:Nat)(l:List (Lab×Value)):Prop:=
 ∃es clk,w.heap[r]? =some (.map es clk)∧es.toList.map (fun e=>(e.key,e.val))=l.map (fun p=>(vs p.1,p.2))∧(es.toList.map (·.born)).Pairwise (·≠·)∧(∀e∈es.toList,e.born<clk)
theorem MapAt.block{w x:World}{r:Nat}{l:List (Lab×Value)}(h:MapAt w r l)(hb:x.heap[r]? =w.heap[r]?):MapAt x r l:=by
 obtain⟨es,clk,h1,h2⟩:=h
 exact⟨es,clk,hb.trans h1,h2⟩
theorem zct(a b:Lab):Instr.sameNow .string (vs a) (vs b)=some (a==b):=by
 simp only[vs,Instr.sameNow,Option.some.injEq]
 rw[Bool.eq_iff_iff,MapKept.bytes_beq,beq_iff_eq]
 constructor
 ·intro h
  have:=congrArg (fun x:ByteArray=>x.data.toList) h
  simpa using this
 ·rintro rfl;rfl
theorem zfw{key:Lab}:∀(es:List MapEntry) (l:List (Lab×Value)) (i:Nat),es.map (fun e=>(e.key,e.val))=l.map (fun p=>(vs p.1,p.2))→l.lookup key=Option.none→Instr.findNow .string (vs key) es i=some Option.none
 | [],[],_,_,_=>rfl
 | [],_::_,_,h,_=>by simp at h
 |_::_,[],_,h,_=>by simp at h
 |e::es,(k,v)::l,i,h,hl=>by
  simp only[List.map_cons,List.cons.injEq,Prod.mk.injEq]at h
  obtain⟨⟨h1,h2⟩,h3⟩:=h
  simp only[List.lookup_cons]at hl
  split at hl
  ·cases hl
  ·rename_i hne
   simp only[Instr.findNow,h1,zct,hne]
   exact zfw es l (i+1) h3 hl
theorem zhW{key:Lab}{v:Value}:∀(es:List MapEntry) (l:List (Lab×Value)) (i:Nat),es.map (fun e=>(e.key,e.val))=l.map (fun p=>(vs p.1,p.2))→l.lookup key=some v→∃j,Instr.findNow .string (vs key) es i=some (some (j,v))
 | [],[],_,_,h=>by simp at h
 | [],_::_,_,h,_=>by simp at h
 |_::_,[],_,h,_=>by simp at h
 |e::es,(k,u)::l,i,h,hl=>by
  simp only[List.map_cons,List.cons.injEq,Prod.mk.injEq]at h
  obtain⟨⟨h1,h2⟩,h3⟩:=h
  simp only[List.lookup_cons]at hl
  split at hl
  ·rename_i heq
   cases hl
   exact⟨i,by simp only[Instr.findNow,h1,zct,heq,h2]⟩
  ·rename_i hne
   simp only[Instr.findNow,h1,zct,hne]
   exact zhW es l (i+1) h3 hl
section
variable {P : Program} {d : Option Tmp} {ty : TypeId} {ps : String} {af : Array Edge} {g : Option (Nat × Bool)} {ρ : Operand → Value} {w : World} {K : Value → World → Prop}
theorem MapAt.lk{r:Nat}{l:List (Lab×Value)}(h:MapAt w r l){t kt et:TypeId}{z:Value}(ht:tyU P t=some (.map kt et))(hk:tyU P kt=some .string)(hz:tyZ P et=some z)(key:Lab):
  lkV P w t (.map (some r)) (vs key) false=some ((l.lookup key).getD z):=by
 obtain⟨es,clk,h1,h2,_⟩:=h
 unfold lkV
 rw[ht];simp only[hk,hz,h1]
 cases hl:l.lookup key with
 |none=>rw[zfw _ _ 0 h2 hl];rfl
 |some v=>obtain⟨j,hj⟩:=zhW _ _ 0 h2 hl;rw[hj];rfl
theorem zhC{t kt et:TypeId}{m k x:Operand}{r:Nat}{l:List (Lab×Value)}{key:Lab}{v:Value}(ht:tyU P t=some (.map kt et))(hk:tyU P kt=some .string)
  (hm:ρ m= .map (some r)) (hkey:ρ k=vs key) (hx:ρ x=v) (hat:MapAt w r l) (hno:l.lookup key=Option.none)
  (h:∀w',MapAt w' r (l++ [(key,v)])→Keep (fun i=>i=r) w w'→w'.heap.size=w.heap.size→K undef w'):
  opW P ⟨d,.mapUpdate t m k x,ty,ps,af,g⟩ ρ w K:=by
 obtain⟨es,clk,h1,h2,h3,h4⟩:=hat
 have hf:=zfw es.toList l 0 h2 hno
 have hrun:(Instr.mapUpdate t (.map (some r)) (vs key) v).run P w= .ok () (w.putObj r (.map (es.push {key:=vs key,val:=v,born:=clk}) (clk+1))):=by
  have hck:∀e,(Instr.checkKey e 10000 kt (vs key)).run P w= .ok () w:=fun e=>zch hk 9999
  simp[Instr.mapUpdate,run_underlying (show P.underlying t=_ from ht),MapKept.run_getObj_map h1,hck,Instr.findKey,run_underlying (show P.underlying kt=_ from hk),hf,MapKept.run_setObj_map _ h1,Result.andThen]
  rfl
 have hlt:r<w.heap.size:=(Array.getElem?_eq_some_iff.1 h1).1
 have hat':MapAt (w.putObj r (.map (es.push {key:=vs key,val:=v,born:=clk}) (clk+1))) r (l++ [(key,v)]):=by
  refine⟨_,_,World.putObj_heap_same hlt,by simp[h2],?_,?_⟩
  ·simp only[Array.toList_push,List.map_append,List.map_cons,List.map_nil,List.pairwise_append]
   refine⟨h3,by simp,fun a ha b hb=>?_⟩
   simp at hb;subst hb
   obtain⟨e,he,rfl⟩:=List.mem_map.1 ha
   exact Nat.ne_of_lt (h4 e he)
  ·intro e he
   simp only[Array.toList_push,List.mem_append,List.mem_singleton]at he
   rcases he with he|rfl
   ·exact Nat.lt_succ_of_lt (h4 e he)
   ·exact Nat.lt_succ_self _
 have hfin:=h _ hat' (zaF rfl) (by simp)
 show opR P K ((do Instr.mapUpdate t (ρ m) (ρ k) (ρ x);pure .skip:Sem Next).run P w)
 rw[hm,hkey,hx]
 simp only[Sem.run_bind,hrun,Result.andThen_ok,Sem.run_pure]
 exact hfin
theorem new_map(w:World):MapAt (w.alloc (.map #[] 0)) w.heap.size []:=⟨_,_,zao w _,rfl,by simp,by simp⟩
end
inductive Pln
 |fin
 |run (pl:List (Nat×Bool)) (p:Pln)
 |fork (m:Nat) (is:List Nat) (p:Nat→Pln)
def Pln.len:Pln→Nat
 | .fin=>0
 | .run pl p=>pl.length+p.len
 | .fork m _ _=>m+1
def zeo(ops:Array Oper)(isB:Nat→Bool):List (Nat×Bool)→Array Bool→Option (Array Bool)
 | [],l=>some l
 | (i,true)::pl,l=>if (rdy ops l).contains i && Region.free .any ops l i && !isB i then zeo ops isB pl (l.setIfInBounds i true) else Option.none
 | (i,false)::pl,l=>if rdy ops l==[i] then zeo ops isB pl (l.setIfInBounds i true) else Option.none
def ziy(ops:Array Oper)(isB:Nat→Bool):Pln→Array Bool→Bool
 | .fin,l=>(rdy ops l).isEmpty
 | .run pl p,l=>match zeo ops isB pl l with|some l'=>ziy ops isB p l'|Option.none=>false
 | .fork m is p,l=>(rdy ops l==is) && !is.isEmpty && is.all fun i=>(p i).len==m && ziy ops isB (p i) (l.setIfInBounds i true)
section
variable {P : Program} {ops : Array Oper} {n : Nat} {isB : Nat → Bool} {K : Sto → World → Prop} {S : Nat → Prop}
theorem zg4(hsel:Region.noSelect ops=true)(hB:zdw ops isB=true){f:Nat}{l':Array Bool}:∀(pl:List (Nat×Bool)) (l:Array Bool) (σ:Sto) (w:World),zcg ops l→
  zeo ops isB pl l=some l'→zfy P ops n S isB pl σ w (fun σ' w'=>zcg ops l'→anyK P ops n isB K (Keep S w') f l' σ' w')→anyK P ops n isB K (Keep S w) (pl.length+f) l σ w
 | [],l,σ,w,hcl,hp,h=>by
  cases hp
  rw[List.length_nil,Nat.zero_add]
  exact h hcl
 | (i,true)::pl,l,σ,w,hcl,hp,h=>by
  unfold zeo at hp
  split at hp
  ·rename_i hc
   simp only[Bool.and_eq_true,Bool.not_eq_true',List.contains_iff_mem]at hc
   obtain⟨⟨hr,hfree⟩,hni⟩:=hc
   obtain⟨v,hq,h⟩:=h
   obtain⟨_,oi,hoi,_⟩:=mem_ready.1 hr
   have hd:ziG ops i=oi.dst:=by simp[ziG,hoi]
   rw[hd]at h
   have:=zgp hoi hsel hB hni (pl.length+f) (Keep S w) l σ w hcl (Region.free_spec hoi hfree) hr hq (Keep.refl S w)
    (zg4 hsel hB pl _ _ w (zbv hcl hr) hp h)
   rwa [show ((i,true)::pl).length+f=(pl.length+f)+1 from by simp;omega]
  ·cases hp
 | (i,false)::pl,l,σ,w,hcl,hp,h=>by
  unfold zeo at hp
  split at hp
  ·rename_i hr
   rw[beq_iff_eq]at hr
   have hmem:i∈rdy ops l:=by rw[hr];exact List.mem_singleton.2 rfl
   rw[show ((i,false)::pl).length+f=(pl.length+f)+1 from by simp;omega]
   refine⟨fun h0=>(by rw[hr]at h0;cases h0),fun j hj=>?_⟩
   rw[hr]at hj
   obtain rfl:=List.mem_singleton.1 hj
   refine zbV (fun σ' w' ⟨hor,hk⟩=>?_) h
   have hrec:=zg4 hsel hB pl _ σ' w' (zbv hcl hmem) hp hk
   cases hb:isB j with
   |true=>exact .inl ⟨rfl,zcy _ _ _ _ _ hrec⟩
   |false=>
    rw[hb]at hor
    have hkeep:=hor.resolve_left (by simp)
    exact .inr ⟨rfl,Keep S w',fun x hx=>hkeep.trans hx,Keep.refl S w',hrec⟩
  ·cases hp
def zjn(P:Program)(ops:Array Oper)(n:Nat)(S:Nat→Prop)(isB:Nat→Bool)(K:Sto→World→Prop):Pln→Sto→World→Prop
 | .fin,σ,w=>K σ w
 | .run pl p,σ,w=>zfy P ops n S isB pl σ w (fun σ' w'=>zjn P ops n S isB K p σ' w')
 | .fork _ is p,σ,w=>∀i∈is,opAt P ops n i σ w (fun σ' w'=>(isB i=true∨Keep S w w')∧zjn P ops n S isB K (p i) σ' w')
theorem zdm{K K':Sto→World→Prop}(hk:∀σ w,K σ w→K' σ w):∀(pl:List (Nat×Bool)) (σ:Sto) (w:World),zfy P ops n S isB pl σ w K→zfy P ops n S isB pl σ w K'
 | [],σ,w,h=>hk σ w h
 | (i,true)::pl,σ,w,⟨v,h1,h2⟩=>⟨v,h1,zdm hk pl _ _ h2⟩
 | (i,false)::pl,σ,w,h=>zbV (fun σ' w' ⟨h1,h2⟩=>⟨h1,zdm hk pl _ _ h2⟩) h
theorem zc8(hsel:Region.noSelect ops=true)(hB:zdw ops isB=true):∀(p:Pln) (l:Array Bool) (σ:Sto) (w:World),zcg ops l→
  ziy ops isB p l=true→zjn P ops n S isB K p σ w→anyK P ops n isB K (Keep S w) p.len l σ w
 | .fin,l,σ,w,_,hp,h=>⟨by simpa [ziy] using hp,h⟩
 | .run pl p,l,σ,w,hcl,hp,h=>by
  unfold ziy at hp
  split at hp
  ·rename_i l' hl'
   exact zg4 hsel hB pl l σ w hcl hl' (zdm (fun σ' w' hk hcl'=>zc8 hsel hB p l' σ' w' hcl' hp hk) pl σ w h)
  ·cases hp
 | .fork m is p,l,σ,w,hcl,hp,h=>by
  simp only[ziy,Bool.and_eq_true,beq_iff_eq,List.all_eq_true,Bool.not_eq_true']at hp
  obtain⟨⟨hr,hne⟩,hall⟩:=hp
  refine⟨fun h0=>(by rw[hr]at h0;subst h0;cases hne),fun j hj=>?_⟩
  have hj':=hj
  rw[hr]at hj'
  obtain⟨hlen,hpj⟩:=hall j hj'
  refine zbV (fun σ' w' ⟨hor,hk⟩=>?_) (h j hj')
  have hrec:=zc8 hsel hB (p j) _ σ' w' (zbv hcl hj) hpj hk
  rw[hlen]at hrec
  cases hb:isB j with
  |true=>exact .inl ⟨rfl,zcy _ _ _ _ _ hrec⟩
  |false=>
   rw[hb]at hor
   have hkeep:=hor.resolve_left (by simp)
   exact .inr ⟨rfl,Keep S w',fun x hx=>hkeep.trans hx,Keep.refl S w',hrec⟩
end
def treeOk(ops:Array Oper)(isB:Nat→Bool)(p:Pln):Bool:=
 Region.noSelect ops && zaW ops && zdw ops isB && decide (p.len=ops.size) && ziy ops isB p (Array.replicate ops.size false)
def allL{α:Type}:List α→(α→Prop)→Prop
 | [],_=>True
 | [a],f=>f a
 |a::l,f=>f a∧allL l f
theorem zjv{α:Type}{f:α→Prop}:∀{l:List α},allL l f→∀a∈l,f a
 | [],_,a,h=>by cases h
 | [b],h,a,ha=>by rw[List.mem_singleton.1 ha];exact h
 |b::c::l,h,a,ha=>by
  rcases List.mem_cons.1 ha with rfl|ha
  ·exact h.1
  ·exact zjv h.2 a ha
def zgZ(P:Program)(gd:Nat→Option Tmp)(ops:List Oper)(n:Nat)(S:Nat→Prop)(isB:Nat→Bool):Pln→Sto→World→(Sto→World→Prop)→Prop
 | .fin,σ,w,K=>K σ w
 | .run pl p,σ,w,K=>zbO P gd ops n S isB pl σ w (fun σ' w'=>zgZ P gd ops n S isB p σ' w' K)
 | .fork _ is p,σ,w,K=>allL is fun i=>zbO P gd ops n S isB [(i,false)] σ w (fun σ' w'=>zgZ P gd ops n S isB (p i) σ' w' K)
section
variable {P : Program} {n : Nat} {S : Nat → Prop} {isB : Nat → Bool} {K : Sto → World → Prop}
theorem zdJ{ops:Array Oper}:∀(p:Pln) (σ:Sto) (w:World),zgZ P (dstL ops.toList) ops.toList n S isB p σ w K→zjn P ops n S isB K p σ w
 | .fin,_,_,h=>h
 | .run pl p,σ,w,h=>zdm (fun σ' w' hk=>zdJ p σ' w' hk) pl σ w (zbr pl σ w h)
 | .fork m is p,σ,w,h=>fun i hi=>by
  have:=zbr _ σ w (zjv h i hi)
  exact zbV (fun σ' w' ⟨h1,h2⟩=>⟨h1,zdJ (p i) σ' w' h2⟩) this
variable {r : Option Nat} {Q : Post} {σ : Sto} {ds : List Deferred} {w : World}
theorem zic{id:Nat}{ops:Array Oper}(isB:Nat→Bool)(p:Pln)(S:Nat→Prop)
  (hm:P.follows .mixedOrders=true) (hok:treeOk ops isB p=true)
  (h:∀(gd:Nat→Option Tmp) (K:Sto→World→Prop) (x:World),gd=dstL ops.toList→Keep S w x→x=w.drew→(∀σ' w',Q .normal σ' ds w'→K σ' w')→zgZ P gd ops.toList n S isB p σ x K):
  W P r n (.region id ops true) Q σ ds w:=by
 simp only[treeOk,Bool.and_eq_true,decide_eq_true_eq]at hok
 obtain⟨⟨⟨⟨h1,h2⟩,h3⟩,h4⟩,h5⟩:=hok
 refine wpIn_region_any hm ?_
 have:=zc8 (K:=fun σ w=>Q .normal σ ds w) h1 h3 p _ σ w.drew (zeI ops) h5 (zdJ p σ w.drew (h _ _ _ rfl (Keep.drew S w) rfl (fun _ _ h=>h)))
 rw[h4]at this
 exact zbw h2 (fun σ w hk=>⟨σ,ds,rfl,hk⟩) _ _ _ _ (zcy _ _ _ _ _ this)
variable {gd : Nat → Option Tmp} {ops : List Oper}
theorem zlJ:zgZ P gd ops n S isB .fin σ w K=K σ w:=nr rfl
theorem zlI(pl:List (Nat×Bool))(p:Pln):zgZ P gd ops n S isB (.run pl p) σ w K=zbO P gd ops n S isB pl σ w (fun σ' w'=>zgZ P gd ops n S isB p σ' w' K):=nr rfl
theorem zj2(m:Nat)(is:List Nat)(p:Nat→Pln):zgZ P gd ops n S isB (.fork m is p) σ w K=allL is fun i=>zbO P gd ops n S isB [(i,false)] σ w (fun σ' w'=>zgZ P gd ops n S isB (p i) σ' w' K):=nr rfl
end
section
variable {α : Type} {f : α → Prop} {a b : α} {l : List α}
theorem zb4:allL [a] f=f a:=nr rfl
theorem zbF:allL (a::b::l) f=(f a∧allL (b::l) f):=nr rfl
end
def zev(n:Nat):Nat→Prop:=fun b=>n≤b
theorem Ext.keep{S:Nat→Prop}{w x:World}(h:Ext w x):Keep S w x:=h.mono (fun _ _ h=>h.elim)
attribute [go_sem ↓] zlJ zlI zj2
set_option maxRecDepth 10000
theorem zdo{n0:Nat}{C:Nat→Prop}{w x:World}(hk:KeepB n0 C w x){a:Addr}(hn:a.block<n0)(hC:¬C a.block){v:Value}(h:w.cell? a=some v):x.cell? a=some v:=by
 rw[←h];exact World.cell?_of_block (w:=w) (hk.block a.block hn hC)
theorem zjs{w x:World}(hk:Ext w x){a:Addr}{v:Value}(h:w.cell? a=some v):x.cell? a=some v:=zc6 hk (fun h=>h) h
theorem zap{α:Type}{l:List α}{i:Nat}(h:i<l.length):l.take (i+1)=l.take i++ [l[i]]:=by
 rw[List.take_succ_eq_append_getElem h]
theorem zde{α:Type}{l:List α}{i:Nat}(h:i<l.length):l=l.take i++l[i]::l.drop (i+1):=by
 rw[←List.drop_eq_getElem_cons h,List.take_append_drop]
theorem zez{α:Type}{l:List α}{pre suf:List (α×Nat)}{x:α×Nat}(h:l.zipIdx=pre++x::suf):∃hk:pre.length<l.length,x=(l[pre.length],pre.length):=by
 have hk:pre.length<l.length:=by have:=congrArg List.length h;simp at this;omega
 refine⟨hk,?_⟩
 have h1:l.zipIdx[pre.length]? =some x:=by rw[h];simp
 rw[List.getElem?_zipIdx]at h1
 simp[hk]at h1
 exact h1.symm
def zlG(p:UInt8×Nat)(_:World)(args:Array Value):Prop:=args=#[vi p.2,zaf p.1]
theorem zjP{W0:World}{n0:Nat}{C:Nat→Prop}{b:Nat}{l:List UInt8}(hb:W0.cell? ⟨b,0,Option.none⟩=some (vs l))(hbn:b<n0)(hbC:¬C b)(hl:l.length≤9000000000000000000):
  Iter Tryz.prog 207 #[.pointer (some ⟨b,0,Option.none⟩)] W0 n0 C l.zipIdx zlG:=by
 intro lp J Jx W hW hnW hJ hJx hY h0
 refine enter Tryz.func207 Tryz.ntmps207 rfl rfl ?_
 repeat (first|refine c_r ?_|refine rg0 ?_)
 refine zam (fun m σ ds v=>ds=[]∧∃i,i+m=l.length∧σ 3=vi i∧σ 0= .func (.yield lp) #[] #[]∧σ 1= .pointer (some ⟨b,0,Option.none⟩)∧J (l.zipIdx.take i) v∧KeepB n0 C W v) l.length ?_ ?_
 ·refine⟨rfl,0,by omega,?_,?_,?_,by simpa using h0,KeepB.refl _ _ _⟩<;>simp only[go_sem]<;>rfl
 ·rintro m σ ds v ⟨rfl,i,him,h3,hf0,hf1,hj,hK0⟩
  have hcell:zae v (some ⟨b,0,Option.none⟩)=some (vs l):=zdo hK0 hbn hbC (zjs hW hb)
  repeat refine c_r ?_
  refine rg4 h3 hf0 hf1 hcell ?_
  refine wc0 ?_ ?_
  ·intro hlt
   simp only[decide_eq_true_eq]at hlt
   have hi:i<l.zipIdx.length:=by simp;omega
   repeat refine c_r ?_
   refine rq ?_;intro gd K hgd hK
   try simp (disch:=first|omega|assumption|rfl) only[go_sem,h3,hf0,hf1,hcell]
   refine Yld.mono (hY (l.zipIdx.take i) l.zipIdx[i] (l.zipIdx.drop (i+1)) v _ (zde hi) hj hK0 (by simp[zlG,zaf])) ?_
   rintro u x (⟨rfl,hj',hk'⟩| ⟨rfl,hjx⟩)
   ·try simp only[go_sem]
    refine hK _ _ ?_;clear hK hgd;clear K;try clear gd
    repeat refine c_r ?_
    refine wc0 ?_ ?_
    ·intro h;simp at h
    ·intro _
     repeat refine c_r ?_
     refine rg1 h3 ?_
     refine zau ?_
     refine⟨m - 1,by omega,rfl,i+1,by omega,?_,?_,?_,?_,hK0.trans hk'⟩
     ·simp only[go_sem];rfl
     ·simp only[go_sem,hf0]
     ·simp only[go_sem,hf1]
     ·rw[zap hi];exact hj'
   ·try simp only[go_sem]
    refine hK _ _ ?_;clear hK hgd;clear K;try clear gd
    repeat refine c_r ?_
    refine wc0 ?_ ?_
    ·intro _
     repeat refine c_r ?_
     refine zar (by simp) rfl (.inr ⟨_,_,_,zde hi,hjx⟩)
    ·intro h;simp at h
  ·intro hge
   simp only[decide_eq_false_iff_not]at hge
   repeat refine c_r ?_
   refine zar (by simp) rfl (.inl ?_)
   have:l.zipIdx.take i=l.zipIdx:=List.take_of_length_le (by simp;omega)
   rw[this]at hj;exact hj
theorem zhI(w:World)(l:List UInt8)(hl:l.length≤9000000000000000000):Fn Tryz.prog 152 #[vs l] w (fun v w'=>Ext w w'∧∃cap,v= .func (.func 207) #[] cap∧
  ∀C:Nat→Prop,(∀b,C b→b<w.heap.size)→Iter Tryz.prog 207 cap w' w'.heap.size C l.zipIdx zlG):=by
 refine enter Tryz.func152 Tryz.ntmps152 rfl rfl ?_
 repeat refine c_r ?_
 refine rg0 ?_
 repeat refine c_r ?_
 refine rg0 ?_
 repeat refine c_r ?_
 refine rt0 Tryz.ntmps152 ?_
 refine⟨Ext.alloc _ _,_,rfl,fun C hC=>zjP ?_ (by simp) (fun h=>by have:=hC _ h;omega) hl⟩
 rw[za0 (zao _ _)];rfl
def zfV(c:UInt8):UInt8:=if 65≤c∧c≤90 then c+32 else c
def zaS(l:List UInt8):List UInt8:=l.map zfV
def za4(l:List UInt8)(k:Nat):List UInt8:=zaS (l.take k)++l.drop k
theorem zdG{l:List UInt8}{k:Nat}(hk:k<l.length):(za4 l k).set k (zfV l[k])=za4 l (k+1):=by
 unfold za4 zaS
 have e:(List.map zfV (l.take k)).length=k:=by simp;omega
 rw[zap hk,List.map_append,List.set_append_right _ _ (by omega),e,Nat.sub_self,List.drop_eq_getElem_cons hk,List.set_cons_zero]
 simp
theorem zjZ(l:List UInt8)(k:Nat):(za4 l k).length=l.length:=by simp[za4,zaS];omega
theorem zgU{c:UInt8}(h:65≤c∧c≤90):zfV c=c+32:=if_pos h
theorem zeZ{c:UInt8}(h:¬(65≤c∧c≤90)):zfV c=c:=if_neg h
theorem zfu{l:List UInt8}{k:Nat}(hk:k<l.length)(h:¬(65≤l[k]∧l[k]≤90)):za4 l k=za4 l (k+1):=by
 rw[←zdG hk,zeZ h]
 apply List.ext_getElem?
 intro j
 rw[List.getElem?_set]
 split
 ·rename_i hj;subst hj
  rw[if_pos (by rw[zjZ];exact hk)]
  unfold za4 zaS
  have e:(List.map zfV (l.take k)).length=k:=by simp;omega
  rw[List.getElem?_append_right (by omega),e]
  simp[hk]
 ·rfl
theorem zeg(w:World)(l:List UInt8)(hl:l.length≤9000000000000000000):Fn Tryz.prog 97 #[vs l] w (fun v w'=>v=vs (zaS l)∧Ext w w'):=by
 refine enter Tryz.func97 Tryz.ntmps97 rfl rfl ?_
 repeat (first|refine c_r ?_|refine rg0 ?_)
 repeat refine c_r ?_
 refine rq ?_;intro gd K hgd hK
 try simp only[go_sem]
 refine zjo rfl rfl rfl (vq0) ?_
 intro c cur w1 hlc hcur htake hE1 hsz1 hb1
 try simp only[go_sem]
 refine zdy rfl rfl rfl (zao _ _) (by simp) (by simp) ?_
 intro w2 hsz2 hb2 hk2
 simp only[World.size_alloc]at hsz2 hb2 hk2
 have hE2:Ext w w2:=hE1.trans (Keep.to_ext (Ext.alloc w1 _) rfl (fun b hb=>by omega) hk2)
 have hgb:w2.heap[w.heap.size]? =some (.cells cur 5 (c,c+1)):=(hk2.block _ (by simp;omega) (by omega)).trans ((RowKit.Below.heap_alloc _ _ _ (by omega)).trans hb1)
 rw[hsz1]at hsz2 hb2 ⊢
 simp at hb2
 clear hk2 hb1
 refine hK _ _ ?_;clear hK hgd;clear K;try clear gd
 repeat refine c_r ?_
 refine rq ?_;intro gd K hgd hK
 try simp only[go_sem]
 refine Fn.mono (zhI _ _ hl) ?_
 rintro _ w3 ⟨hE3,cap,rfl,hit⟩
 try simp only[go_sem]
 refine hK _ _ ?_;clear hK hgd;clear K;try clear gd
 repeat refine c_r ?_
 have hE3':=hE2.trans hE3
 have hsz3:=hE3.size
 refine zdN (g:=207) (cap:=cap) (vq0) rfl (hit (fun b=>b=w.heap.size) (fun b hb=>by omega)) (Keep.refl _ _) (Nat.le_refl _) (fun b hb=>by omega)
  (fun x A args h=>by rw[h];rfl)
  (fun pre A=>Ext w A∧A.heap[w.heap.size+1]? =some (.cells #[.slice (some ⟨w.heap.size,0,Option.none⟩) l.length c] 90 (0,0))∧
   ∃cur:Array Value,cur.size=c∧cur.toList.take l.length=(za4 l pre.length).map zaf∧A.heap[w.heap.size]? =some (.cells cur 5 (c,c+1)))
  (fun _ _ _=>False) ?_ (fun _ _ _ _ h _=>h.elim) ?_ ?_ ?_ (fun _ _ _ _ _ _ _ h _=>h.elim)
 ·rintro pre A B ⟨h1,h2,cu,h3,h4,h5⟩ hk
  have ne1:¬two w3.heap.size (w.heap.size+1):=by unfold two;omega
  have ne2:¬two w3.heap.size w.heap.size:=by unfold two;omega
  exact⟨Keep.to_ext h1 rfl (fun b hb=>by unfold two at hb;omega) hk,(hk.block _ (Array.getElem?_eq_some_iff.1 h2).1 ne1).trans h2,cu,h3,h4,
   (hk.block _ (Array.getElem?_eq_some_iff.1 h5).1 ne2).trans h5⟩
 ·refine⟨hE3',(hE3.block _ (by omega) (fun h=>h)).trans hb2,cur,hcur,?_,(hE3.block _ (by omega) (fun h=>h)).trans hgb⟩
  simpa [za4,zaS] using htake
 ·rintro lp pre x suf A args hxs hszA ⟨hEA,hbox,cu,hcu,hpre,hrow⟩ rfl
  obtain⟨hk,rfl⟩:=zez hxs
  dsimp only
  repeat (first|refine c_r ?_| (refine zcS (by rfl) ?_;intro gd K hgd hK;simp (disch:=first|omega|assumption|rfl) only[go_sem,zaf];refine hK _ _ ?_;clear hK hgd;clear K gd))
  refine⟨rfl,KeepB.refl _ _ _,fun A2 hA2=>?_⟩
  have ne1:¬two w3.heap.size (w.heap.size+1):=by unfold two;omega
  have ne2:¬two w3.heap.size w.heap.size:=by unfold two;omega
  have hbox2:=(hA2.block _ (Array.getElem?_eq_some_iff.1 hbox).1 ne1).trans hbox
  have hrow2:=(hA2.block _ (Array.getElem?_eq_some_iff.1 hrow).1 ne2).trans hrow
  have hE2':Ext w A2:=Keep.to_ext hEA rfl (fun b hb=>by unfold two at hb;omega) hA2
  have hs2:=hA2.size
  clear hbox hrow hA2 hit hb2 hgb
  have hcu':cu[pre.length]? =some (zaf (l[pre.length])):=by
   have:(cu.toList.take l.length)[pre.length]? =some (zaf (l[pre.length])):=by
    rw[hpre,List.getElem?_map]
    unfold za4
    rw[List.getElem?_append_right (by simp[zaS];omega)]
    have e:(zaS (l.take pre.length)).length=pre.length:=by simp[zaS];omega
    rw[e];simp[hk]
   rw[List.getElem?_take,if_pos hk]at this
   simpa using this
  have hbit:∀u:UInt8,(65≤u↔(65:Int)≤u.toNat)∧(u≤90↔(u.toNat:Int)≤90):=fun u=>by
   rw[UInt8.le_iff_toNat_le,UInt8.le_iff_toNat_le]
   constructor
   ·show 65≤u.toNat↔_;omega
   ·show u.toNat≤90↔_;omega
  have hkeep:∀B,A2=B→¬(65≤l[pre.length]∧l[pre.length]≤90)→(Ext w B∧B.heap[w.heap.size+1]? =some (.cells #[.slice (some ⟨w.heap.size,0,Option.none⟩) l.length c] 90 (0,0))∧
   ∃cur:Array Value,cur.size=c∧cur.toList.take l.length=(za4 l (pre++ [(l[pre.length],pre.length)]).length).map zaf∧B.heap[w.heap.size]? =some (.cells cur 5 (c,c+1)))∧
    KeepB (w3.heap.size+2) (fun b=>b=w.heap.size) A2 B:=by
   rintro B rfl hno
   refine⟨⟨hE2',hbox2,cu,hcu,?_,hrow2⟩,KeepB.refl _ _ _⟩
   rw[hpre,zfu hk hno];simp
  generalize hcc:l[pre.length]=cc at*
  repeat refine c_r ?_
  refine rq ?_;intro gd K hgd hK
  have hg2:∀n σ b,zav gd n σ (some (2,b))=zal (ev n σ (.tmp 14)) b:=(fun n σ b=>by rw[zac,show gd 2=some 14 from(by rw[hgd];rfl)];rfl)
  by_cases h65:(65:Int)≤cc.toNat
  ·try simp (disch:=first|omega|assumption|rfl) only[go_sem,hg2,zac,zb5,zfI,decide_eq_true h65,beq_self_eq_true]
   refine hK _ _ ?_;clear hK hgd;clear K;try clear gd
   repeat refine c_r ?_
   refine wc0 ?_ ?_
   ·intro h90
    simp only[decide_eq_true_eq]at h90
    have hc1:zae A2 (some ⟨w.heap.size+1,0,Option.none⟩)=some (.slice (some ⟨w.heap.size,0,Option.none⟩) l.length c):=by
     show A2.cell? _=_
     rw[za0 hbox2];rfl
    repeat refine c_r ?_
    refine rq ?_;intro gd K hgd hK
    try simp (disch:=first|omega|assumption|rfl) only[go_sem,hc1]
    refine zdy rfl rfl rfl hrow2 (by omega) (by simp;omega) ?_
    intro w5 hsz5 hb5 hk5
    refine hK _ _ ?_;clear hK hgd;clear K;try clear gd
    repeat refine c_r ?_
    have hset:((za4 l pre.length).map zaf).set pre.length (.int .u8 (↑cc.toNat+97 - 65))=(za4 l (pre.length+1)).map zaf:=by
     rw[←zdG hk,hcc,List.map_set]
     congr 1
     rw[zgU ⟨(hbit cc).1.2 h65,(hbit cc).2.2 h90⟩]
     unfold zaf
     congr 1
     have:(cc+32).toNat=cc.toNat+32:=by
      rw[UInt8.toNat_add];show(cc.toNat+32) % 256=_;omega
     rw[this];push_cast;omega
    refine⟨⟨Keep.to_ext hE2' rfl (fun b hb=>by omega) hk5,?_,cu.setIfInBounds pre.length (.int .u8 (↑cc.toNat+97 - 65)),by simpa using hcu,?_,hb5⟩,hk5.toB (by omega) (fun i _ h=>h)⟩
    ·exact(hk5.block _ (by omega) (by omega)).trans hbox2
    ·rw[Array.toList_setIfInBounds,List.take_set,hpre,hset];simp
   ·intro h90
    simp only[decide_eq_false_iff_not]at h90
    repeat refine c_r ?_
    exact hkeep _ rfl (fun h=>h90 ((hbit cc).2.1 h.2))
  ·try simp (disch:=first|omega|assumption|rfl) only[go_sem,hg2,zac,zb5,zfI,decide_eq_false h65,beq_self_eq_true]
   refine hK _ _ ?_;clear hK hgd;clear K;try clear gd
   repeat refine c_r ?_
   refine wc0 ?_ ?_
   ·intro h;simp at h
   ·intro _
    repeat refine c_r ?_
    exact hkeep _ rfl (fun h=>h65 ((hbit cc).1.1 h.1))
 ·rintro w4 hsz4 ⟨hE4,hbox,cu,hcu,hpre,hrow⟩ hD
  have hc1:zae w4 (some ⟨w.heap.size+1,0,Option.none⟩)=some (.slice (some ⟨w.heap.size,0,Option.none⟩) l.length c):=by
   show w4.cell? _=_
   rw[za0 hbox];rfl
  have hfull:za4 l l.zipIdx.length=zaS l:=by simp[za4]
  rw[hfull]at hpre
  have hlen:(zaS l).length=l.length:=by simp[zaS]
  repeat refine c_r ?_
  refine rq ?_;intro gd K hgd hK
  try simp (disch:=first|omega|assumption|rfl) only[go_sem,hc1]
  rw[←hlen]
  refine zb3 rfl rfl rfl (vq0) ?_ ?_
  ·intro j hj
   rw[hlen]at hj
   rw[zaU]
   show w4.cell? _=_
   rw[za0 hrow]
   have:(cu.toList.take l.length)[j]? =some (zaf ((zaS l)[j]'(by omega))):=by
    rw[hpre,List.getElem?_map,List.getElem?_eq_getElem (by omega)];rfl
   rw[List.getElem?_take,if_pos hj]at this
   simpa using this
  try simp only[go_sem]
  refine hK _ _ ?_;clear hK hgd;clear K;try clear gd
  repeat refine c_r ?_
  refine zdh (by simp) rfl Tryz.ntmps97 (by simp only[go_sem];rfl) hD ?_
  intro w5 hk5 _
  exact⟨rfl,Keep.to_ext hE4 rfl (fun b hb=>by omega) hk5⟩
def zas(w:World)(p:Option Addr)(k:Nat):Option (List Value):=p.bind fun a=>zaN w a 0 k
theorem zlh{P:Program}{w:World}{t:TypeId}{p:Option Addr}(hA:tyA P t=true):ldA P w t p=(zas w p (tyS P t)).map fun l=> .agg l.toArray:=by
 cases p with
 |none=>rfl
 |some a=>simp[ldA,ldP,ldV,hA,zas]
theorem zeJ{w:World}{b o:Nat}{cur:Array Value}{e:TypeId}{fr:Nat×Nat}(h:w.heap[b]? =some (.cells cur e fr)):∀(k i:Nat),o+i+k≤cur.size→
  zaN w ⟨b,o,Option.none⟩ i k=some ((cur.toList.drop (o+i)).take k)
 |0,_,_=>by simp[zaN]
 |k+1,i,hk=>by
  unfold zaN
  rw[ze2,za0 h,zeJ h k (i+1) (by omega)]
  have hlt:o+i<cur.size:=by omega
  have hd:=List.drop_eq_getElem_cons (l:=cur.toList) (i:=o+i) (by simpa using hlt)
  rw[Array.getElem?_eq_getElem hlt,hd,List.take_succ_cons]
  rfl
theorem zaL{w:World}{b o k:Nat}{cur:Array Value}{e:TypeId}{fr:Nat×Nat}(h:w.heap[b]? =some (.cells cur e fr))(hk:o+k≤cur.size):
  zas w (some ⟨b,o,Option.none⟩) k=some ((cur.toList.drop o).take k):=by
 have:=zeJ (o:=o) h k 0 (by omega)
 simpa [zas] using this
theorem ziM{S:Nat→Prop}{w x:World}(hk:Keep S w x){p:Option Addr}(hS:offS S p){k:Nat}{l:List Value}(h:zas w p k=some l):zas x p k=some l:=by
 cases p with
 |none=>cases h
 |some a=>exact zdK hk (hS a rfl) k 0 l h
theorem zad{w x:World}(hk:Ext w x){p:Option Addr}{k:Nat}{l:List Value}(h:zas w p k=some l):zas x p k=some l:=
 ziM hk (by simp[offS,NoS]) h
theorem zaq{w:World}{a:Option Addr}{j k:Nat}{l:List Value}(h:zas w (adr a j) k=some l):a.isSome=true:=by
 cases a with
 |none=>simp[zas,adr]at h
 |some a=>rfl
theorem zgo{w:World}{a:Addr}:∀{k i:Nat} {l:List Value},zaN w a i k=some l→l.length=k
 |0,_,l,h=>by simp[zaN]at h;subst h;rfl
 |k+1,i,l,h=>by
  unfold zaN at h
  split at h
  ·rename_i v l' h1 h2
   cases h
   simp[zgo h2]
  ·cases h
theorem zj7{w:World}{p:Option Addr}{k:Nat}{l:List Value}(h:zas w p k=some l):l.length=k:=by
 cases p with
 |none=>cases h
 |some a=>exact zgo h
theorem zeu{w:World}{a:Addr}:∀{k i:Nat} {l:List Value},zaN w a i k=some l→∀(j:Nat) (h:j<l.length),w.cell? (a.add (i+j))=some l[j]
 |0,_,l,h,j,hj=>by simp[zaN]at h;subst h;simp at hj
 |k+1,i,l,h,j,hj=>by
  unfold zaN at h
  split at h
  ·rename_i v l' h1 h2
   cases h
   cases j with
   |zero=>exact h1
   |succ j=>
    have:=zeu h2 j (by simpa using hj)
    rw[show i+(j+1)=i+1+j from by omega]
    exact this
  ·cases h
theorem zb8{w:World}{p:Option Addr}{k:Nat}{l:List Value}(h:zas w p k=some l){j:Nat}(hj:j<l.length):zae w (adr p j)=some l[j]:=by
 cases p with
 |none=>cases h
 |some a=>
  have:=zeu (i:=0) h j hj
  rw[Nat.zero_add]at this
  exact this
def RowK(k:Nat)(w:World)(v:Value)(L:List (List Value)):Prop:=
 ∃a c,v= .slice a L.length c∧L.length≤c∧∀j (h:j<L.length),zas w (adr a (j*k)) k=some L[j]
theorem RowK.ext{k:Nat}{w x:World}{v:Value}{L:List (List Value)}(h:RowK k w v L)(hE:Ext w x):RowK k x v L:=by
 obtain⟨a,c,rfl,hc,hl⟩:=h
 exact⟨a,c,rfl,hc,fun j hj=>zad hE (hl j hj)⟩
/-! ### a block of elements -/
structure SD(k:Nat)(w:World)(b:Nat)(e:TypeId)(cap:Nat)(D:List (List Value)):Prop where
 lies:∃cur:Array Value,∃R:List Value,w.heap[b]? =some (.cells cur e (0,0))∧cur.toList=D.flatten++R∧cur.size=cap*k
 len:∀x∈D,x.length=k
 ones:∀x∈D,∀v∈x,one v=true
theorem zbu{k:Nat}:∀{D:List (List Value)},(∀x∈D,x.length=k)→D.flatten.length=D.length*k
 | [],_=>by simp
 |x::D,h=>by
  have h1:=h x (List.mem_cons_self ..)
  have h2:=zbu (D:=D) (fun y hy=>h y (List.mem_cons_of_mem _ hy))
  rw[List.flatten_cons,List.length_append,h1,h2,List.length_cons,Nat.succ_mul];omega
theorem zgW{k:Nat}{D:List (List Value)}(h:∀x∈D,x.length=k){j:Nat}(hj:j<D.length):D.flatten=(D.take j).flatten++D[j]++(D.drop (j+1)).flatten∧(D.take j).flatten.length=j*k:=by
 constructor
 ·refine(congrArg List.flatten (zde hj)).trans ?_
  rw[List.flatten_append,List.flatten_cons,List.append_assoc]
 ·rw[zbu (fun x hx=>h x (List.mem_of_mem_take hx)),List.length_take,Nat.min_eq_left (by omega)]
theorem SD.get{k:Nat}{w:World}{b:Nat}{e:TypeId}{cap:Nat}{D:List (List Value)}(h:SD k w b e cap D){j:Nat}(hj:j<D.length):zas w (some ⟨b,j*k,Option.none⟩) k=some D[j]:=by
 obtain⟨cur,R,hb,hc,hs⟩:=h.lies
 obtain⟨e1,e2⟩:=zgW h.len hj
 have hk:=h.len D[j] (List.getElem_mem hj)
 have hlen:cur.toList.length=D.flatten.length+R.length:=by rw[hc];simp
 have e3:=congrArg List.length e1
 simp only[List.length_append]at e3
 have hsz:cur.toList.length=cur.size:=by simp
 rw[zaL hb (by omega),hc,e1,List.append_assoc,List.append_assoc,List.drop_left' e2,List.take_left' hk]
theorem zff{b o:Nat}{e:TypeId}:∀(l:List Value) (i:Nat) (w:World) (A V B:List Value) (cur:Array Value),w.heap[b]? =some (.cells cur e (0,0))→cur.toList=A++V++B→A.length=o+i→V.length=l.length→(∀v∈l,one v=true)→
  ∃w',stC w ⟨b,o,Option.none⟩ i l=some w'∧w'.heap.size=w.heap.size∧Keep (fun x=>x=b) w w'∧∃cur':Array Value,w'.heap[b]? =some (.cells cur' e (0,0))∧cur'.toList=A++l++B
 | [],i,w,A,V,B,cur,hb,hc,hA,hV,_=>by
  have:V=[]:=List.length_eq_zero_iff.1 hV
  subst this
  exact⟨w,rfl,rfl,Keep.refl _ _,cur,hb,by simpa using hc⟩
 |v::l,i,w,A,V,B,cur,hb,hc,hA,hV,h1=>by
  cases V with
  |nil=>simp at hV
  |cons u V=>
   have hcl:=congrArg List.length hc
   simp only[List.length_append,List.length_cons,Array.length_toList]at hcl
   have hlt:o+i<cur.size:=by omega
   have hset:(cur.setIfInBounds (o+i) v).toList=(A++ [v])++V++B:=by
    rw[Array.toList_setIfInBounds,hc,←hA,List.append_assoc,List.set_append_right _ _ (Nat.le_refl _),Nat.sub_self]
    simp
   obtain⟨w',k1,k2,k3,cur',k4,k5⟩:=zff l (i+1) (w.setCell ⟨b,o+i,Option.none⟩ v) (A++ [v]) V B _ (zhq hb) hset (by rw[List.length_append,hA];rfl) (by simpa using hV) (fun x hx=>h1 x (List.mem_cons_of_mem _ hx))
   refine⟨w',?_,by rw[k2];simp,(zi1 w b (o+i) v).trans k3,cur',k4,by simpa using k5⟩
   unfold stC
   rw[ze2,za0 hb,zfs hb,Array.getElem?_eq_getElem hlt,h1 v (List.mem_cons_self ..)]
   simpa using k1
theorem SD.set{k:Nat}{w:World}{b:Nat}{e:TypeId}{cap:Nat}{D:List (List Value)}(h:SD k w b e cap D){P:Program}{t:TypeId}{K:Value→World→Prop}{j:Nat}(hj:j<D.length){x:List Value}(hx:x.length=k)(h1:∀v∈x,one v=true)
  (hs:tyS P t=k) (hi:(P.info? t).isSome=true) (hK:∀w',w'.heap.size=w.heap.size→SD k w' b e cap (D.set j x)→Keep (fun i=>i=b) w w'→K undef w'):
  stK P t (.pointer (some ⟨b,j*k,Option.none⟩)) (.agg x.toArray) w K:=by
 obtain⟨cur,R,hb,hc,hsz⟩:=h.lies
 obtain⟨e1,e2⟩:=zgW h.len hj
 have hk:=h.len D[j] (List.getElem_mem hj)
 rw[e1,List.append_assoc,List.append_assoc]at hc
 obtain⟨w',k1,k2,k3,cur',k4,k5⟩:=zff (o:=j*k) x 0 w (D.take j).flatten D[j] ((D.drop (j+1)).flatten++R) cur hb (by rw[hc];simp) (by simpa using e2) (by rw[hk,hx]) h1
 refine⟨by simp[Value.cells,hx,hs],hi,w',by simpa [Value.cells] using k1,hK w' k2 ⟨⟨cur',R,k4,?_,?_⟩,?_,?_⟩ k3⟩
 ·have e3:(D.set j x).flatten=(D.take j).flatten++x++(D.drop (j+1)).flatten:=by
   rw[List.set_eq_take_append_cons_drop,if_pos hj];simp
  rw[k5,e3];simp
 ·have l1:=congrArg List.length k5
  have l2:=congrArg List.length hc
  simp only[List.length_append,Array.length_toList]at l1 l2
  omega
 ·intro y hy
  rcases List.mem_or_eq_of_mem_set hy with hy|rfl
  ·exact h.len y hy
  ·exact hx
 ·intro y hy
  rcases List.mem_or_eq_of_mem_set hy with hy|rfl
  ·exact h.ones y hy
  ·exact h1
theorem SD.keep{k:Nat}{w x:World}{b:Nat}{e:TypeId}{cap:Nat}{D:List (List Value)}{S:Nat→Prop}(h:SD k w b e cap D)(hk:Keep S w x)(hS:¬S b):SD k x b e cap D:=by
 obtain⟨⟨cur,R,hb,hr⟩,h1,h2⟩:=h
 exact⟨⟨cur,R,(hk.block _ (Array.getElem?_eq_some_iff.1 hb).1 hS).trans hb,hr⟩,h1,h2⟩
theorem SD.ext{k:Nat}{w x:World}{b:Nat}{e:TypeId}{cap:Nat}{D:List (List Value)}(h:SD k w b e cap D)(hE:Ext w x):SD k x b e cap D:=h.keep hE (fun h=>h)
theorem SD.lt{k:Nat}{w:World}{b:Nat}{e:TypeId}{cap:Nat}{D:List (List Value)}(h:SD k w b e cap D):b<w.heap.size:=by
 obtain⟨cur,R,hb,_⟩:=h.lies
 exact(Array.getElem?_eq_some_iff.1 hb).1
def ldAX(P:Program)(w:World)(t:TypeId)(p:Option Addr):Bool→Nat→Option Value
 |true,k=>(zas w p k).map fun l=> .agg l.toArray
 |false,_=>ldP P w t p
theorem ldA_X{P:Program}{w:World}{t:TypeId}(p:Option Addr):ldA P w t p=ldAX P w t p (tyA P t) (tyS P t):=by
 cases hA:tyA P t with
 |true=>exact zlh hA
 |false=>rfl
theorem zli{P:Program}{w:World}{t:TypeId}(p:Option Addr)(k:Nat):ldAX P w t p true k=(zas w p k).map fun l=> .agg l.toArray:=nr rfl
attribute [go_sem] ldA_X zli
def zfn(k:Nat):List Value→List (Nat×Value)
 | []=>[]
 |v::l=>(k,v)::zfn (k+1) l
theorem zhX:∀(l:List Value) (k:Nat) (cells:Array Value),(∀v∈l,v.cells=#[v])→k+l.length≤cells.size→
  ∃r,Instr.fill (fun i=>some (i*1,1)) cells (zfn k l)=some r∧r.toList=cells.toList.take k++l++cells.toList.drop (k+l.length)
 | [],k,cells,_,_=>⟨cells,rfl,by simp⟩
 |v::l,k,cells,h,hk=>by
  simp only[List.length_cons]at hk
  have hv:=h v (List.mem_cons_self ..)
  obtain⟨r,h1,h2⟩:=zhX l (k+1) (cells.setIfInBounds k v) (fun u hu=>h u (List.mem_cons_of_mem _ hu)) (by simp;omega)
  refine⟨r,?_,?_⟩
  ·unfold zfn Instr.fill
   simp only[hv,Nat.mul_one]
   have:¬((#[v]:Array Value).size≠1∨k+(#[v]:Array Value).size>cells.size):=by simp;omega
   rw[if_neg (by simpa using this)]
   simpa using h1
  ·rw[h2,Array.toList_setIfInBounds,List.take_set,List.drop_set_of_lt (by omega)]
   have hlt:k<cells.toList.length:=by simp;omega
   rw[zap hlt]
   have e1:(cells.toList.take k).length=k:=by rw[List.length_take];omega
   rw[List.set_append_right _ _ (by omega),e1,Nat.sub_self,List.set_cons_zero]
   simp[Nat.add_assoc,Nat.add_comm 1]
section
variable {P : Program} {w : World} {K : Value → World → Prop}
theorem zbC{t e:TypeId}{z:Value}{l:List Value}{n:Nat}{parts:List (Nat×Value)}(hn:n=l.length)(hp:parts=zfn 0 l)(hu:tyU P t=some (.slice e))(hz:tyZ P e=some z)(hs:tyS P e=1)(hz1:z.cells=#[z])(hv:∀v∈l,v.cells=#[v])(hl:l.length≤1000000)
  (h:∀w1,Ext w w1→w1.heap.size=w.heap.size+1→Own w.heap.size w1 e (.slice (some ⟨w.heap.size,0,Option.none⟩) n n) l→K (.slice (some ⟨w.heap.size,0,Option.none⟩) n n) w1):bsL P t n parts w K .mk:=by
 subst hn hp
 unfold bsL bsK
 have hsz:((Array.range (l.length*1)).map fun x=>z.cells[x % z.cells.size]!).size=l.length:=by simp
 obtain⟨r,h1,h2⟩:=zhX l 0 ((Array.range (l.length*1)).map fun x=>z.cells[x % z.cells.size]!) hv (by rw[hsz];omega)
 have hr:r.toList=l:=by
  rw[h2,List.take_zero,List.nil_append,Nat.zero_add,List.drop_of_length_le (by rw[Array.length_toList,hsz];exact Nat.le_refl _),List.append_nil]
 have:bsC P t l.length (zfn 0 l)=some (e,r):=by
  unfold bsC
  rw[hu]
  simp only[hz,hs]
  have c1:(decide (l.length*1≤2 ^ 24) && decide (z.cells.size=1))=true:=by rw[hz1];simp;omega
  rw[c1,cond_true,h1];rfl
 rw[this]
 have hrs:r.size=l.length:=by rw[←hr];simp
 exact h _ (Ext.alloc w _) (zai w _) ⟨by simp,.inr ⟨w.heap.size,l.length,r,rfl,Nat.le_refl _,zao w _,Nat.le_refl _,by simp[maxLen];omega,by simpa using hrs,by rw[hr];simp⟩⟩
end
structure OwnK(k B:Nat)(w:World)(e:TypeId)(v:Value)(L:List (List Value)):Prop where
 own:w.ownsRow B e k v L.length L.flatten
 len:∀x∈L,x.length=k
 ones:∀x∈L,∀v∈x,one v=true
section
variable {P : Program} {d : Option Tmp} {ty : TypeId} {ps : String} {af : Array Edge} {g : Option (Nat × Bool)} {ρ : Operand → Value} {w : World} {K : Value → World → Prop}
theorem OwnK.nil(k B:Nat)(w:World)(e:TypeId):OwnK k B w e (.slice Option.none 0 0) []:=⟨⟨by simp,.inl ⟨rfl,rfl⟩⟩,fun x h=>(by cases h),fun x h=>(by cases h)⟩
theorem OwnK.ge{k B:Nat}{e:TypeId}{v:Value}{L:List (List Value)}(h:OwnK k B w e v L){b:Nat}(hb:some b=v.ownBlock):B≤b∧b<w.heap.size:=by
 rcases h.own.2 with ⟨rfl,_⟩| ⟨g,cap,cur,rfl,hg,hc,_⟩
 ·cases hb
 ·cases hb;exact⟨hg,(Array.getElem?_eq_some_iff.1 hc).1⟩
theorem OwnK.keep{k B:Nat}{e:TypeId}{v:Value}{L:List (List Value)}{x:World}{S:Nat→Prop}(h:OwnK k B w e v L)(hk:Keep S w x)(hS:∀b,some b=v.ownBlock→¬S b):OwnK k B x e v L:=by
 obtain⟨⟨h1,h2⟩,h3,h4⟩:=h
 refine⟨⟨h1,?_⟩,h3,h4⟩
 rcases h2 with h2| ⟨g,cap,cur,hv,hb,hg,rest⟩
 ·exact .inl h2
 ·exact .inr ⟨g,cap,cur,hv,hb,(hk.block _ (Array.getElem?_eq_some_iff.1 hg).1 (hS _ (by rw[hv];rfl))).trans hg,rest⟩
theorem OwnK.ext{k B:Nat}{e:TypeId}{v:Value}{L:List (List Value)}{x:World}(h:OwnK k B w e v L)(hk:Ext w x):OwnK k B x e v L:=h.keep hk (fun _ _ h=>h)
theorem OwnK.mono{k B B':Nat}{e:TypeId}{v:Value}{L:List (List Value)}(h:OwnK k B w e v L)(hB:B'≤B):OwnK k B' w e v L:=by
 obtain⟨⟨h1,h2⟩,h3,h4⟩:=h
 refine⟨⟨h1,?_⟩,h3,h4⟩
 rcases h2 with h2| ⟨g,cap,cur,hv,hb,rest⟩
 ·exact .inl h2
 ·exact .inr ⟨g,cap,cur,hv,by omega,rest⟩
theorem OwnK.cases{k B:Nat}{e:TypeId}{v:Value}{L:List (List Value)}(h:OwnK k B w e v L):
  (v= .slice Option.none 0 0∧L=[])∨∃b cap,v= .slice (some ⟨b,0,Option.none⟩) L.length cap∧B≤b∧L.length≤cap∧cap≤maxLen∧SD k w b e cap L:=by
 obtain⟨⟨h1,h2⟩,h3,h4⟩:=h
 rcases h2 with ⟨rfl,h0⟩| ⟨g,cap,cur,rfl,hg,hb,hn,hm,hcs,hx⟩
 ·exact .inl ⟨rfl,List.length_eq_zero_iff.1 h0⟩
 ·refine .inr ⟨g,cap,rfl,hg,hn,hm,⟨cur,cur.toList.drop (L.length*k),hb,?_,hcs⟩,h3,h4⟩
  rw[←hx,List.take_append_drop]
theorem OwnK.of_sd{k B b cap:Nat}{e:TypeId}{L:List (List Value)}(h:SD k w b e cap L)(hB:B≤b)(hc:L.length≤cap)(hm:cap≤maxLen):OwnK k B w e (.slice (some ⟨b,0,Option.none⟩) L.length cap) L:=by
 obtain⟨cur,R,hb,e1,e2⟩:=h.lies
 refine⟨⟨zbu h.len,.inr ⟨b,cap,cur,rfl,hB,hb,hc,hm,e2,?_⟩⟩,h.len,h.ones⟩
 rw[e1,List.take_left' (zbu h.len)]
theorem OwnK.rowK{k B:Nat}{e:TypeId}{v:Value}{L:List (List Value)}(h:OwnK k B w e v L):RowK k w v L:=by
 rcases h.cases with ⟨rfl,rfl⟩| ⟨b,cap,rfl,_,hc,_,hD⟩
 ·exact⟨Option.none,0,rfl,Nat.le_refl _,fun j h=>by simp at h⟩
 ·exact⟨_,cap,rfl,hc,fun j hj=>by rw[zaU,Nat.zero_add];exact hD.get hj⟩
theorem Src1.of_rowK{k:Nat}{u:Value}{L:List (List Value)}(h:RowK k w u L)(hk:∀x∈L,x.length=k):Src1 w u L.length k L.flatten:=by
 obtain⟨a,c,rfl,hc,hl⟩:=h
 refine⟨a,c,rfl,zbu hk,fun j hj=>?_⟩
 rw[zbu hk]at hj
 have hk0:0<k:=Nat.pos_of_ne_zero (fun h=>by subst h;simp at hj)
 have hq:j / k<L.length:=Nat.div_lt_of_lt_mul (by rw[Nat.mul_comm];exact hj)
 obtain⟨e1,e2⟩:=zgW hk hq
 have hlen:=hk L[j / k] (List.getElem_mem hq)
 have hr:j % k<L[j / k].length:=by rw[hlen];exact Nat.mod_lt _ hk0
 have hg:=zb8 (hl (j / k) hq) hr
 have hj2:j / k*k+j % k=j:=by rw[Nat.mul_comm];exact Nat.div_add_mod j k
 rw[zg5,hj2]at hg
 rw[hg]
 have:L.flatten[j]? =some L[j / k][j % k]:=by
  rw[e1,List.append_assoc,List.getElem?_append_right (by rw[e2];omega),List.getElem?_append_left (by rw[e2];omega),e2]
  rw[show j - j / k*k=j % k from by omega]
  exact List.getElem?_eq_getElem hr
 rw[List.getElem?_eq_getElem (by rw[zbu hk];exact hj)]at this
 exact this.symm
theorem zgF{k B:Nat}{s x:Operand}{t e:TypeId}{inf:TypeInfo}{z:Value}{bytes:Nat}{v u:Value}{L N:List (List Value)}(hown:OwnK k B w e v L)(hrow:RowK k w u N)
  (ht:tyU P t=some (.slice e)) (hi:P.info? e=some inf) (hz:inf.zero=some z)
  (hsize:inf.size=k) (hby:inf.bytes=bytes) (hzs:z.cells.size=k) (hk0:0<k) (hv:ρ s=v) (hu:ρ x=u)
  (hl:∀x∈N,x.length=k) (h1:∀x∈N,∀q∈x,one q=true) (hlen:L.length+N.length≤100000000000) (hbytes:bytes≤1000) (hB:B≤w.heap.size)
  (h:∀v' w',OwnK k B w' e v' (L++N)→(∀w0,Ext w0 w→w0.heap.size≤B→Ext w0 w')→Keep (fun b=>some b=v.ownBlock) w w'→(∀b,some b=v'.ownBlock→some b=v.ownBlock∨w.heap.size≤b)→(v'= .slice Option.none 0 0→v= .slice Option.none 0 0)→K v' w'):
  opW P ⟨d,.call ⟨.builtin .append,#[s,x],#[t,t]⟩,ty,ps,af,g⟩ ρ w K:=by
 refine zdZ (B:=B) (m:=N.length) (xs:=L.flatten) (news:=N.flatten) (n:=L.length) ht hi hz hsize hby hzs hk0 hv hu hown.own (Src1.of_rowK hrow hl) ?_ (by simp[maxLen];omega) ?_ hB ?_
 ·intro q hq
  obtain⟨y,hy,hq⟩:=List.mem_flatten.1 hq
  exact h1 y hy q hq
 ·have:(L.length+N.length)*bytes≤100000000000*1000:=Nat.mul_le_mul hlen hbytes
  omega
 ·intro v' w' ho hk hw
  refine h v' w' ⟨by simpa using ho,?_,?_⟩ (fun w0 hE hB0=>?_) hk hw.2 (fun hv'=>(hw.1.1 hv').1)
  ·intro y hy
   rcases List.mem_append.1 hy with hy|hy
   ·exact hown.len y hy
   ·exact hl y hy
  ·intro y hy
   rcases List.mem_append.1 hy with hy|hy
   ·exact hown.ones y hy
   ·exact h1 y hy
  ·exact Keep.to_ext hE rfl (fun b hb=>by have:=(hown.ge hb).1;omega) hk
theorem ziN{k:Nat}{t e:TypeId}{z:Value}(hu:tyU P t=some (.slice e))(hz:tyZ P e=some z)(hs:tyS P e=k)(hz1:z.cells.size=k)
  (h:∀w1,Ext w w1→w1.heap.size=w.heap.size+1→OwnK k w.heap.size w1 e (.slice (some ⟨w.heap.size,0,Option.none⟩) 0 0) []→K (.slice (some ⟨w.heap.size,0,Option.none⟩) 0 0) w1):bsL P t 0 [] w K .mk:=by
 unfold bsL bsK
 have:bsC P t 0 []=some (e,#[]):=by simp[bsC,hu,hz,hs,hz1,Instr.fill]
 rw[this]
 exact h _ (Ext.alloc w _) (zai w _) ⟨⟨by simp,.inr ⟨w.heap.size,0,#[],rfl,Nat.le_refl _,zao w _,Nat.le_refl _,by decide,by simp,by simp⟩⟩,fun x h=>(by cases h),fun x h=>(by cases h)⟩
theorem zhp:∀(l:List Value) (n:Nat) (cells:Array Value),n+l.length≤cells.size→((l.zipIdx n).foldl (fun cs (x:Value×Nat)=>cs.setIfInBounds (0+x.2) x.1) cells).toList=cells.toList.take n++l++cells.toList.drop (n+l.length)
 | [],n,cells,_=>by simp
 |v::l,n,cells,h=>by
  simp only[List.length_cons]at h
  rw[List.zipIdx_cons,List.foldl_cons,zhp l (n+1) _ (by simp;omega)]
  rw[Nat.zero_add,Array.toList_setIfInBounds,List.take_set,List.drop_set_of_lt (by omega)]
  have hlt:n<cells.toList.length:=by simp;omega
  rw[zap hlt]
  have e1:(cells.toList.take n).length=n:=by rw[List.length_take];omega
  rw[List.set_append_right _ _ (by omega),e1,Nat.sub_self,List.set_cons_zero]
  simp[Nat.add_assoc,Nat.add_comm 1]
theorem fill_agg{l:List Value}{k:Nat}{cells:Array Value}(hl:l.length=k)(hc:cells.size=k):
  ∃r,Instr.fill (fun i=>some (i*k,k)) cells [(0,.agg l.toArray)]=some r∧r.toList=l:=by
 refine⟨(l.zipIdx 0).foldl (fun cs (x:Value×Nat)=>cs.setIfInBounds (0+x.2) x.1) cells,?_,?_⟩
 ·unfold Instr.fill
  have hcl:(Value.agg l.toArray).cells=l.toArray:=rfl
  have c1:(decide (l.toArray.size≠k)||decide (0*k+l.toArray.size>cells.size))=false:=by simp[hl,hc]
  simp only[hcl]
  rw[if_neg (by rw[c1];exact Bool.false_ne_true)]
  show some _=some _
  congr 1
  rw[Nat.zero_mul]
  simp[Array.foldl_toList,←Array.foldl_toList]
 ·rw[zhp l 0 cells (by omega)]
  simp[hl,hc]
theorem zlS{k:Nat}{t e:TypeId}{z:Value}{l:List Value}(hu:tyU P t=some (.slice e))(hz:tyZ P e=some z)(hs:tyS P e=k)(hz1:z.cells.size=k)(hl:l.length=k)(hk:k≤1000)(h1:∀q∈l,one q=true)
  (h:∀w1,Ext w w1→w1.heap.size=w.heap.size+1→OwnK k w.heap.size w1 e (.slice (some ⟨w.heap.size,0,Option.none⟩) 1 1) [l]→K (.slice (some ⟨w.heap.size,0,Option.none⟩) 1 1) w1):bsL P t 1 [(0,.agg l.toArray)] w K .mk:=by
 unfold bsL bsK
 obtain⟨r,hr1,hr2⟩:=fill_agg (cells:=(Array.range (1*k)).map (z.cells[· % z.cells.size]!)) hl (by simp)
 have:bsC P t 1 [(0,.agg l.toArray)]=some (e,r):=by
  unfold bsC
  rw[hu]
  simp only[hz,hs]
  have c1:(decide (1*k≤2 ^ 24) && decide (z.cells.size=k))=true:=by rw[hz1];simp;omega
  rw[c1,cond_true,hr1];rfl
 rw[this]
 have hsz:r.size=k:=by rw[←hl,←hr2];simp
 exact h _ (Ext.alloc w _) (zai w _) ⟨⟨by simp[hl],.inr ⟨w.heap.size,1,r,rfl,Nat.le_refl _,zao w _,Nat.le_refl _,by decide,by simpa using hsz,by rw[hr2];simp[←hl]⟩⟩,fun x h=>(by rw[List.mem_singleton.1 h];exact hl),fun x h=>(by rw[List.mem_singleton.1 h];exact h1)⟩
theorem ret_cell{fn:Func}{n:Nat}{σ:Sto}{R:Value→World→Prop}{e:Exit}(he:e= .normal∨e= .ret){t:Tmp}{tt:TypeId}{x:Addr}{l:List Value}(hl:fn.results.toList=[.cell t tt])(hm:fn.ntmps=n)(hv:ev n σ (.tmp t)= .pointer (some x))
  (hA:tyA P tt=true) {k:Nat} (hk:tyS P tt=k) (hc:zas w (some x) k=some l) (h:R (.agg l.toArray) w):retQ P fn R e σ [] w:=by
 subst hm hk
 refine zfj he hl (rs:=[.agg l.toArray]) ?_ h
 unfold resV
 rw[show (if t<fn.ntmps then σ t else undef)= .pointer (some x) from hv]
 have:ldV P w tt x=some (.agg l.toArray):=by
  unfold ldV
  rw[hA,cond_true,show zaN w x 0 (tyS P tt)=some l from hc];rfl
 simp only[this,resV]
theorem zda(w:World)(A B:Obj):Ext w ((w.alloc A).alloc B)∧((w.alloc A).alloc B).heap.size=w.heap.size+2∧((w.alloc A).alloc B).heap[w.heap.size]? =some A∧((w.alloc A).alloc B).heap[w.heap.size+1]? =some B:=by
 have s1:=zai w A
 have s2:=zai (w.alloc A) B
 have b1:=zao w A
 have b2:=zao (w.alloc A) B
 rw[s1]at s2 b2
 exact⟨(Ext.alloc w A).trans (Ext.alloc _ B),s2,(RowKit.Below.heap_alloc _ B _ (by rw[s1];omega)).trans b1,b2⟩
theorem zdM(w:World)(A B C:Obj):Ext w (((w.alloc A).alloc B).alloc C)∧(((w.alloc A).alloc B).alloc C).heap.size=w.heap.size+3∧(((w.alloc A).alloc B).alloc C).heap[w.heap.size]? =some A∧(((w.alloc A).alloc B).alloc C).heap[w.heap.size+1]? =some B∧(((w.alloc A).alloc B).alloc C).heap[w.heap.size+2]? =some C:=by
 obtain⟨h1,h2,h3,h4⟩:=zda w A B
 have s3:=zai ((w.alloc A).alloc B) C
 have b3:=zao ((w.alloc A).alloc B) C
 rw[h2]at s3 b3
 exact⟨h1.trans (Ext.alloc _ C),s3,(RowKit.Below.heap_alloc _ C _ (by rw[h2];omega)).trans h3,(RowKit.Below.heap_alloc _ C _ (by rw[h2];omega)).trans h4,b3⟩
theorem eqIn_sl{t e:TypeId}(h:P.underlying t=some (.slice e))(n:Nat)(a:Option Addr)(l c:Nat):
  (Op.equalIn (n+1) t (.slice a l c) (.slice Option.none 0 0)).run P w= .ok a.isNone w:=by
 cases a<;>simp[Op.equalIn,underlying,program,Sem.run,h]
theorem zgX{t e yt:TypeId}{x y:Operand}{a:Option Addr}{n c:Nat}(ht:tyU P t=some (.slice e))(hx:ρ x= .slice a n c)(hy:ρ y= .slice Option.none 0 0)(h:K (.bool a.isNone) w):
  opW P ⟨d,.binOp .eql t x y yt,ty,ps,af,g⟩ ρ w K:=by
 have h2:(Op.equal t (.slice a n c) (.slice Option.none 0 0)).run P w= .ok a.isNone w:=eqIn_sl (show P.underlying t=_ from ht) 9999 a n c
 have hr:(do eqGuard .eql t x y (.slice a n c) (.slice Option.none 0 0);binOp .eql t (.slice a n c) (.slice Option.none 0 0):Sem Value).run P w= .ok (.bool a.isNone) w:=by
  simp[eqGuard,binOp,h2]
 have:=zaI (P:=P) (K:=K) hr h
 rw[←hx,←hy]at this
 exact this
end
section
variable {α : Type}
def Rows(k:Nat)(C:List Value→α→Prop)(w:World)(v:Value)(xs:List α):Prop:=∃L,RowK k w v L∧L.length=xs.length∧∀i (h:i<L.length) (h':i<xs.length),C L[i] xs[i]
def Owns(k:Nat)(C:List Value→α→Prop)(B:Nat)(w:World)(e:TypeId)(v:Value)(xs:List α):Prop:=∃L,OwnK k B w e v L∧L.length=xs.length∧∀i (h:i<L.length) (h':i<xs.length),C L[i] xs[i]
structure zeQ(k:Nat)(C:List Value→α→Prop):Prop where
 len:∀{cs:List Value} {a:α},C cs a→cs.length=k
 ones:∀{cs:List Value} {a:α},C cs a→∀q∈cs,one q=true
variable {k B : Nat} {C C' : List Value → α → Prop} {w x : World} {v : Value} {xs : List α} {e : TypeId}
theorem Rows.ext(h:Rows k C w v xs)(hE:Ext w x):Rows k C x v xs:=by
 obtain⟨L,h1,h2,h3⟩:=h
 exact⟨L,h1.ext hE,h2,h3⟩
theorem Rows.to(h:Rows k C w v xs)(hC:∀cs a,C cs a→C' cs a):Rows k C' w v xs:=by
 obtain⟨L,h1,h2,h3⟩:=h
 exact⟨L,h1,h2,fun i h h'=>hC _ _ (h3 i h h')⟩
theorem Owns.ext(h:Owns k C B w e v xs)(hE:Ext w x):Owns k C B x e v xs:=by
 obtain⟨L,h1,h2,h3⟩:=h
 exact⟨L,h1.ext hE,h2,h3⟩
theorem Owns.keep{S:Nat→Prop}(h:Owns k C B w e v xs)(hk:Keep S w x)(hS:∀b,some b=v.ownBlock→¬S b):Owns k C B x e v xs:=by
 obtain⟨L,h1,h2,h3⟩:=h
 exact⟨L,h1.keep hk hS,h2,h3⟩
theorem Owns.to(h:Owns k C B w e v xs)(hC:∀cs a,C cs a→C' cs a):Owns k C' B w e v xs:=by
 obtain⟨L,h1,h2,h3⟩:=h
 exact⟨L,h1,h2,fun i h h'=>hC _ _ (h3 i h h')⟩
theorem Owns.rows(h:Owns k C B w e v xs):Rows k C w v xs:=by
 obtain⟨L,h1,h2,h3⟩:=h
 exact⟨L,h1.rowK,h2,h3⟩
theorem Owns.nil(k:Nat)(C:List Value→α→Prop)(B:Nat)(w:World)(e:TypeId):Owns k C B w e (.slice Option.none 0 0) []:=⟨[],OwnK.nil _ _ _ _,rfl,fun i h=>absurd h (by simp)⟩
theorem Rows.nil(k:Nat)(C:List Value→α→Prop)(w:World):Rows k C w (.slice Option.none 0 0) []:=(Owns.nil k C 0 w 0).rows
theorem Owns.mono{B':Nat}(h:Owns k C B w e v xs)(hB:B'≤B):Owns k C B' w e v xs:=by
 obtain⟨L,h1,h2,h3⟩:=h
 exact⟨L,h1.mono hB,h2,h3⟩
theorem Owns.ge(h:Owns k C B w e v xs){b:Nat}(hb:some b=v.ownBlock):B≤b∧b<w.heap.size:=by
 obtain⟨L,h1,_⟩:=h
 exact h1.ge hb
theorem Rows.open(h:Rows k C w v xs):∃a c,v= .slice a xs.length c∧xs.length≤c∧∀i (h:i<xs.length),∃cs,zas w (adr a (i*k)) k=some cs∧C cs xs[i]:=by
 obtain⟨L,⟨a,c,rfl,hc,hg⟩,h2,h3⟩:=h
 refine⟨a,c,by rw[h2],by omega,fun i hi=>⟨L[i]'(by omega),hg i (by omega),h3 i (by omega) hi⟩⟩
theorem zjb{D:Nat→List Value→Prop}:∀(m:Nat),(∀i,i<m→∃cs,D i cs)→∃L:List (List Value),L.length=m∧∀i (h:i<L.length),D i L[i]
 |0,_=>⟨[],rfl,fun i h=>absurd h (by simp)⟩
 |m+1,h=>by
  obtain⟨L,hl,hL⟩:=zjb m (fun i hi=>h i (by omega))
  obtain⟨cs,h1⟩:=h m (by omega)
  refine⟨L++ [cs],by simp[hl],fun i hi=>?_⟩
  by_cases he:i<L.length
  ·rw[List.getElem_append_left he];exact hL i he
  ·have hi0:i=L.length:=by simp at hi;omega
   have e1:(L++ [cs])[i]=cs:=by simp[hi0]
   rw[e1,hi0,hl];exact h1
theorem Rows.close{a:Option Addr}{c:Nat}(hc:xs.length≤c)(h:∀i (h:i<xs.length),∃cs,zas w (adr a (i*k)) k=some cs∧C cs xs[i]):Rows k C w (.slice a xs.length c) xs:=by
 obtain⟨L,hl,hL⟩:=zjb (D:=fun i cs=>∀h:i<xs.length,zas w (adr a (i*k)) k=some cs∧C cs xs[i]) xs.length (fun i hi=>by
  obtain⟨cs,h1⟩:=h i hi
  exact⟨cs,fun _=>h1⟩)
 exact⟨L,⟨a,c,by rw[hl],by omega,fun i hi=>(hL i hi (by omega)).1⟩,hl,fun i h h'=>(hL i h h').2⟩
theorem all_app{L M:List (List Value)}{ys:List α}(hl:L.length=xs.length)(hm:M.length=ys.length)(h:∀q (h:q<L.length) (h':q<xs.length),C L[q] xs[q])(hM:∀q (h:q<M.length) (h':q<ys.length),C M[q] ys[q]):
  ∀q (h:q<(L++M).length) (h':q<(xs++ys).length),C (L++M)[q] (xs++ys)[q]:=by
 intro q h1 h2
 by_cases hq:q<L.length
 ·rw[List.getElem_append_left hq,List.getElem_append_left (by omega)];exact h q hq (by omega)
 ·have e1:(L++M)[q]=M[q - L.length]'(by simp at h1;omega):=List.getElem_append_right (by omega)
  have e2:(xs++ys)[q]=ys[q - L.length]'(by simp at h2;omega):=by rw[List.getElem_append_right (by omega)];simp[hl]
  rw[e1,e2];exact hM _ _ _
theorem Rows.drop{a:Option Addr}{c n:Nat}(h:Rows k C w (.slice a n c) xs){m:Nat}(hm:m≤n):Rows k C w (.slice (if c=m then a else adr a (m*k)) (n - m) (c - m)) (xs.drop m):=by
 obtain⟨a',c',hv',hc,hg⟩:=h.open
 have e1:a=a':=by injection hv'
 have e2:n=xs.length:=by injection hv'
 have e3:c=c':=by injection hv'
 subst e1 e2 e3
 rw[show xs.length - m=(xs.drop m).length from(List.length_drop ..).symm]
 refine Rows.close (by rw[List.length_drop];omega) (fun i hi=>?_)
 rw[List.length_drop]at hi
 obtain⟨cs,h1,h2⟩:=hg (m+i) (by omega)
 refine⟨cs,?_,by rw[List.getElem_drop];exact h2⟩
 rw[if_neg (by omega),zg5,←Nat.add_mul];exact h1
theorem Rows.take{a:Option Addr}{c n:Nat}(h:Rows k C w (.slice a n c) xs){m c2:Nat}(hm:m≤n)(hc2:m≤c2):Rows k C w (.slice a m c2) (xs.take m):=by
 obtain⟨a',c',hv',hc,hg⟩:=h.open
 have e1:a=a':=by injection hv'
 have e2:n=xs.length:=by injection hv'
 subst e1 e2
 have hl:(xs.take m).length=m:=by rw[List.length_take];omega
 have:=Rows.close (k:=k) (C:=C) (w:=w) (a:=a) (c:=c2) (xs:=xs.take m) (by omega) (fun i hi=>by
  rw[hl]at hi
  obtain⟨cs,h1,h2⟩:=hg i (by omega)
  exact⟨cs,h1,by rw[List.getElem_take];exact h2⟩)
 rwa [hl]at this
theorem Rows.len{a:Option Addr}{c n:Nat}(h:Rows k C w (.slice a n c) xs):n=xs.length∧xs.length≤c:=by
 obtain⟨a',c',hv',hc,hg⟩:=h.open
 have e2:n=xs.length:=by injection hv'
 have e3:c=c':=by injection hv'
 exact⟨e2,by omega⟩
theorem Rows.get{a:Option Addr}{c n:Nat}(h:Rows k C w (.slice a n c) xs){i:Nat}(hi:i<xs.length):∃cs,zas w (adr a (i*k)) k=some cs∧C cs xs[i]:=by
 obtain⟨a',c',hv',hc,hg⟩:=h.open
 have e1:a=a':=by injection hv'
 subst e1
 exact hg i hi
theorem all_set{L:List (List Value)}{X:List Value}{m:α}{j:Nat}(hl:L.length=xs.length)(h:∀q (h:q<L.length) (h':q<xs.length),C L[q] xs[q])(hX:C X m):
  ∀q (h:q<(L.set j X).length) (h':q<(xs.set j m).length),C (L.set j X)[q] (xs.set j m)[q]:=by
 intro q h1 h2
 by_cases hq:j=q
 ·subst hq;rw[List.getElem_set_self,List.getElem_set_self];exact hX
 ·rw[List.getElem_set_ne hq,List.getElem_set_ne hq];exact h q (by simpa using h1) (by simpa using h2)
theorem Owns.cases(h:Owns k C B w e v xs):
  (v= .slice Option.none 0 0∧xs=[])∨∃b cap L,v= .slice (some ⟨b,0,Option.none⟩) xs.length cap∧B≤b∧xs.length≤cap∧cap≤maxLen∧SD k w b e cap L∧L.length=xs.length∧∀i (h:i<L.length) (h':i<xs.length),C L[i] xs[i]:=by
 obtain⟨L,h1,h2,h3⟩:=h
 rcases h1.cases with ⟨hv,h0⟩| ⟨b,cap,hv,hb,hc,hm,hD⟩
 ·refine .inl ⟨hv,?_⟩
  rw[h0]at h2
  exact List.length_eq_zero_iff.1 h2.symm
 ·exact .inr ⟨b,cap,L,by rw[hv,h2],hb,by omega,hm,hD,h2,h3⟩
theorem Owns.of_sd{b cap:Nat}{L:List (List Value)}(h:SD k w b e cap L)(hB:B≤b)(hc:xs.length≤cap)(hm:cap≤maxLen)(hl:L.length=xs.length)(h3:∀i (h:i<L.length) (h':i<xs.length),C L[i] xs[i]):
  Owns k C B w e (.slice (some ⟨b,0,Option.none⟩) xs.length cap) xs:=by
 have:=OwnK.of_sd h hB (by omega) hm
 rw[hl]at this
 exact⟨L,this,hl,h3⟩
end
section
variable {P : Program} {d : Option Tmp} {ty : TypeId} {ps : String} {af : Array Edge} {g : Option (Nat × Bool)} {ρ : Operand → Value} {w : World} {K : Value → World → Prop} {α : Type} {k : Nat} {C : List Value → α → Prop}
theorem Ext.at{w x:World}(h:Ext w x){b:Nat}{O:Obj}(hb:w.heap[b]? =some O):x.heap[b]? =some O:=(h.block _ (Array.getElem?_eq_some_iff.1 hb).1 (fun h=>h)).trans hb
theorem zaB{f:Option Nat}{n:Nat}{c:Code}{Q:Post}{σ:Sto}{ds:List Deferred}{O:Obj}(h:∀w1,Ext w w1→w1.heap.size=w.heap.size+1→w1.heap[w.heap.size]? =some O→W P f n c Q σ ds w1):W P f n c Q σ ds (w.alloc O):=
 h _ (Ext.alloc w O) (zai w O) (zao w O)
theorem zaO{f:Option Nat}{n:Nat}{c:Code}{Q:Post}{σ:Sto}{ds:List Deferred}{A B:Obj}(h:∀w1,Ext w w1→w1.heap.size=w.heap.size+2→w1.heap[w.heap.size]? =some A→w1.heap[w.heap.size+1]? =some B→W P f n c Q σ ds w1):W P f n c Q σ ds ((w.alloc A).alloc B):=by
 obtain⟨h1,h2,h3,h4⟩:=zda w A B
 exact h _ h1 h2 h3 h4
theorem zaV(hC:zeQ k C){B:Nat}{s x:Operand}{t e:TypeId}{inf:TypeInfo}{z:Value}{bytes:Nat}{v u:Value}{xs ys:List α}(hown:Owns k C B w e v xs)(hrow:Rows k C w u ys)
  (ht:tyU P t=some (.slice e)) (hi:P.info? e=some inf) (hz:inf.zero=some z)
  (hsize:inf.size=k) (hby:inf.bytes=bytes) (hzs:z.cells.size=k) (hk0:0<k) (hv:ρ s=v) (hu:ρ x=u)
  (hlen:xs.length+ys.length≤100000000000) (hbytes:bytes≤1000) (hB:B≤w.heap.size)
  (h:∀v' w',Owns k C B w' e v' (xs++ys)→(∀w0,Ext w0 w→w0.heap.size≤B→Ext w0 w')→Keep (fun b=>some b=v.ownBlock) w w'→(∀b,some b=v'.ownBlock→some b=v.ownBlock∨w.heap.size≤b)→K v' w'):
  opW P ⟨d,.call ⟨.builtin .append,#[s,x],#[t,t]⟩,ty,ps,af,g⟩ ρ w K:=by
 obtain⟨L,h1,h2,h3⟩:=hown
 obtain⟨M,m1,m2,m3⟩:=hrow
 have hMl:∀x∈M,x.length=k:=fun x hx=>by
  obtain⟨i,hi,rfl⟩:=List.getElem_of_mem hx
  exact hC.len (m3 i hi (by omega))
 have hM1:∀x∈M,∀q∈x,one q=true:=fun x hx=>by
  obtain⟨i,hi,rfl⟩:=List.getElem_of_mem hx
  exact hC.ones (m3 i hi (by omega))
 refine zgF h1 m1 ht hi hz hsize hby hzs hk0 hv hu hMl hM1 (by omega) hbytes hB ?_
 intro v' w' ho hE hk hb _
 exact h v' w' ⟨L++M,ho,by simp[h2,m2],all_app h2 m2 h3 m3⟩ hE hk hb
theorem zbg(hC:zeQ k C){t e:TypeId}{z:Value}{l:List Value}{a:α}(hu:tyU P t=some (.slice e))(hz:tyZ P e=some z)(hs:tyS P e=k)(hz1:z.cells.size=k)(hl:C l a)(hk:k≤1000)
  (h:∀w1,Ext w w1→w1.heap.size=w.heap.size+1→Owns k C w.heap.size w1 e (.slice (some ⟨w.heap.size,0,Option.none⟩) 1 1) [a]→K (.slice (some ⟨w.heap.size,0,Option.none⟩) 1 1) w1):bsL P t 1 [(0,.agg l.toArray)] w K .mk:=by
 refine zlS hu hz hs hz1 (hC.len hl) hk (hC.ones hl) ?_
 intro w1 hE hsz ho
 refine h w1 hE hsz ⟨[l],ho,rfl,fun i h h'=>?_⟩
 have:i=0:=by simp at h;omega
 subst this
 exact hl
end
theorem flat_set{k:Nat}{D:List (List Value)}(h:∀x∈D,x.length=k){j i:Nat}(hj:j<D.length)(hi:i<k)(v:Value):(D.set j (D[j].set i v)).flatten=D.flatten.set (j*k+i) v:=by
 obtain⟨e1,e2⟩:=zgW h hj
 have hk:=h D[j] (List.getElem_mem hj)
 have e3:(D.set j (D[j].set i v)).flatten=(D.take j).flatten++D[j].set i v++(D.drop (j+1)).flatten:=by
  rw[List.set_eq_take_append_cons_drop,if_pos hj];simp
 rw[e3,e1,List.append_assoc,List.append_assoc,List.set_append_right _ _ (by omega),e2,show j*k+i - j*k=i from by omega,List.set_append_left _ _ (by omega)]
theorem SD.setAt{k:Nat}{w:World}{b:Nat}{e:TypeId}{cap:Nat}{D:List (List Value)}(h:SD k w b e cap D){P:Program}{t:TypeId}{K:Value→World→Prop}{j i:Nat}(hj:j<D.length)(hi:i<k){v:Value}(hv:one v=true)
  (hs:tyS P t=1) (hin:(P.info? t).isSome=true) (hK:∀w',w'.heap.size=w.heap.size→SD k w' b e cap (D.set j (D[j].set i v))→Keep (fun i=>i=b) w w'→K undef w'):
  stK P t (.pointer (some ⟨b,j*k+i,Option.none⟩)) v w K:=by
 obtain⟨cur,R,hb,hc,hsz⟩:=h.lies
 have hfl:=zbu h.len
 have hlt:j*k+i<D.flatten.length:=by
  rw[hfl]
  have:(j+1)*k≤D.length*k:=Nat.mul_le_mul_right k hj
  rw[Nat.succ_mul]at this;omega
 have hcl:cur.size=D.flatten.length+R.length:=by
  have:=congrArg List.length hc
  simpa using this
 refine zdy hs hin hv hb (by omega) (by simp) ?_
 intro w' hs' hb' hk'
 refine hK w' hs' ⟨⟨_,R,hb',?_,by simpa using hsz⟩,?_,?_⟩ hk'
 ·rw[Array.toList_setIfInBounds,hc,flat_set h.len hj hi,List.set_append_left _ _ hlt]
 ·intro y hy
  rcases List.mem_or_eq_of_mem_set hy with hy|rfl
  ·exact h.len y hy
  ·rw[List.length_set];exact h.len _ (List.getElem_mem hj)
 ·intro y hy
  rcases List.mem_or_eq_of_mem_set hy with hy|rfl
  ·exact h.ones y hy
  ·intro q hq
   rcases List.mem_or_eq_of_mem_set hq with hq|rfl
   ·exact h.ones _ (List.getElem_mem hj) q hq
   ·exact hv
theorem zdL{w:World}{a:Addr}{v:Value}(h:w.cell? a=some v):a.block<w.heap.size:=by
 apply Classical.byContradiction
 intro hn
 unfold World.cell? at h
 rw[Array.getElem?_eq_none (by omega)]at h
 cases h
theorem zjr{w:World}{p:Option Addr}{k:Nat}{l:List Value}(h:zas w p k=some l)(hk:0<k){a:Addr}(ha:p=some a):a.block<w.heap.size:=by
 subst ha
 have hl:=zj7 h
 have h1:zaN w a 0 k=some l:=h
 have:=zdL (zeu h1 0 (by omega))
 have e:(a.add (0+0)).block=a.block:=by unfold Addr.add;split<;>rfl
 rwa [e]at this
theorem Rows.cut{α:Type}{k:Nat}{C:List Value→α→Prop}{w:World}{xs:List α}{a:Option Addr}{c n:Nat}(h:Rows k C w (.slice a n c) xs){lo hi:Nat}(h1:lo≤hi)(h2:hi≤n):
  Rows k C w (.slice (if c=lo then a else adr a (lo*k)) (hi - lo) (c - lo)) ((xs.drop lo).take (hi - lo)):=by
 have hl:=h.len
 exact(h.drop (m:=lo) (by omega)).take (by omega) (by omega)
section
variable {P : Program} {w : World} {K : Value → World → Prop} {α : Type} {k : Nat} {C : List Value → α → Prop}
theorem zlT{t e:TypeId}{z:Value}(hu:tyU P t=some (.slice e))(hz:tyZ P e=some z)(hs:tyS P e=k)(hz1:z.cells.size=k)
  (h:∀w1,Ext w w1→w1.heap.size=w.heap.size+1→Owns k C w.heap.size w1 e (.slice (some ⟨w.heap.size,0,Option.none⟩) 0 0) ([]:List α)→K (.slice (some ⟨w.heap.size,0,Option.none⟩) 0 0) w1):bsL P t 0 [] w K .mk:=
 ziN hu hz hs hz1 fun w1 h1 h2 h3=>h w1 h1 h2 ⟨[],h3,rfl,fun i h=>absurd h (by simp)⟩
theorem zfC{b n:Nat}{cur:Array Value}{e:TypeId}{fr:Nat×Nat}(h:w.heap[b]? =some (.cells cur e fr))(hn:n=cur.size):zas w (some ⟨b,0,Option.none⟩) n=some cur.toList:=by
 rw[zaL h (by omega),List.drop_zero,List.take_of_length_le (by simp[hn])]
end
theorem u8_le(u:UInt8):(65≤u↔(65:Int)≤u.toNat)∧(u≤90↔(u.toNat:Int)≤90):=by
 rw[UInt8.le_iff_toNat_le,UInt8.le_iff_toNat_le]
 constructor
 ·show 65≤u.toNat↔_;omega
 ·show u.toNat≤90↔_;omega
theorem byteV_up{cc:UInt8}(h65:(65:Int)≤cc.toNat)(h90:(cc.toNat:Int)≤90):zaf (zfV cc)= .int .u8 (cc.toNat+32):=by
 rw[zgU ⟨(u8_le cc).1.2 h65,(u8_le cc).2.2 h90⟩]
 unfold zaf
 congr 1
 have:(cc+32).toNat=cc.toNat+32:=by
  rw[UInt8.toNat_add];show(cc.toNat+32) % 256=_;omega
 rw[this];push_cast;omega
theorem zj0{l:List UInt8}{k:Nat}(hk:k<l.length):(za4 l k)[k]? =some l[k]:=by
 unfold za4
 have e:(zaS (l.take k)).length=k:=by simp[zaS];omega
 rw[List.getElem?_append_right (by omega),e];simp[hk]
theorem zbG(w:World)(l:List UInt8)(hl:l.length≤9000000000000000000):Fn Tryz.prog 54 #[vs l] w (fun v w'=>v=vs (zaS l)∧Ext w w'):=by
 refine enter Tryz.func54 Tryz.ntmps54 rfl rfl ?_
 repeat (first|refine c_r ?_|refine rg0 ?_)
 repeat refine c_r ?_
 refine rq ?_;intro gd K hgd hK
 try simp only[go_sem]
 refine zjo rfl rfl rfl (vq0) ?_
 intro c cur w1 hlc hcur htake hE1 hsz1 hb1
 try simp only[go_sem]
 refine hK _ _ ?_;clear hK hgd;clear K;try clear gd
 repeat (first|refine c_r ?_|refine rg0 ?_)
 refine zam (fun m σ ds A=>ds=[]∧∃i,i+m=l.length∧σ 4=vi i∧σ 3= .slice (some ⟨w.heap.size,0,Option.none⟩) l.length c∧Ext w A∧
  ∃cur:Array Value,cur.size=c∧cur.toList.take l.length=(za4 l i).map zaf∧A.heap[w.heap.size]? =some (.cells cur 5 (c,c+1))) l.length ?_ ?_
 ·refine⟨rfl,0,by omega,?_,?_,hE1,cur,hcur,by simpa [za4,zaS] using htake,hb1⟩<;>simp only[go_sem]<;>rfl
 ·rintro m σ ds A ⟨rfl,i,him,h4,h3,hE,cu,hcu,hpre,hrow⟩
  repeat refine c_r ?_
  refine rg2 h4 h3 ?_
  refine wc0 ?_ ?_
  ·intro hlt
   simp only[decide_eq_true_eq]at hlt
   have hk:i<l.length:=by omega
   generalize hcc:l[i]=cc
   have hcell:zae A (some ⟨w.heap.size,i,Option.none⟩)=some (.int .u8 cc.toNat):=by
    show A.cell? _=_
    rw[za0 hrow]
    have:(cu.toList.take l.length)[i]? =some (zaf cc):=by rw[hpre,List.getElem?_map,zj0 hk,hcc];rfl
    rw[List.getElem?_take,if_pos hk]at this
    simpa [zaf] using this
   repeat (with_reducible first|refine zid ?_|refine zkg ?_|refine zfL ?_|refine zau ?_|refine zdd ?_|refine zdS ?_|refine zbD ?_|refine zdr ?_|refine zbR ?_|refine zbY rfl ?_)
   refine W_mid (fun σ ds B=>ds=[]∧σ 4=vi i∧σ 3= .slice (some ⟨w.heap.size,0,Option.none⟩) l.length c∧Ext w B∧
    ∃cur:Array Value,cur.size=c∧cur.toList.take l.length=(za4 l (i+1)).map zaf∧B.heap[w.heap.size]? =some (.cells cur 5 (c,c+1))) ?_ ?_
   ·repeat refine c_r ?_
    refine rq ?_;intro gd K hgd hK
    have hg5:∀n σ b,zav gd n σ (some (5,b))=zal (ev n σ (.tmp 18)) b:=(fun n σ b=>by rw[zac,show gd 5=some 18 from(by rw[hgd];rfl)];rfl)
    have hno:¬(65≤cc∧cc≤90)→cu.toList.take l.length=(za4 l (i+1)).map zaf:=fun h=>by rw[hpre,zfu hk (by rw[hcc];exact h)]
    by_cases h65:(65:Int)≤cc.toNat
    ·try simp (disch:=first|omega|assumption|rfl) only[go_sem,h4,h3,hcell,decide_eq_true h65,↓hg5]
     refine hK _ _ ?_;clear hK hgd;clear K;try clear gd
     repeat refine c_r ?_
     refine wc0 ?_ ?_
     ·intro h90
      simp only[decide_eq_true_eq]at h90
      repeat refine c_r ?_
      refine rq ?_;intro gd K hgd hK
      try simp (disch:=first|omega|assumption|rfl) only[go_sem,h4,h3,hcell]
      refine zdy rfl rfl rfl hrow (by omega) (by simp;omega) ?_
      intro w5 hsz5 hb5 hk5
      refine hK _ _ ?_;clear hK hgd;clear K;try clear gd
      repeat (with_reducible first|refine zid ?_|refine zkg ?_|refine zfL ?_|refine zau ?_|refine zdd ?_|refine zdS ?_|refine zbD ?_|refine zdr ?_|refine zbR ?_|refine zbY rfl ?_)
      have hset:((za4 l i).map zaf).set i (.int .u8 (↑cc.toNat+32))=(za4 l (i+1)).map zaf:=by
       rw[←zdG hk,hcc,List.map_set,byteV_up h65 h90]
      refine⟨rfl,?_,?_,Keep.to_ext hE rfl (fun b hb=>by omega) hk5,cu.setIfInBounds i (.int .u8 (↑cc.toNat+32)),by simpa using hcu,?_,hb5⟩
      ·simp only[go_sem,h4]
      ·simp only[go_sem,h3]
      ·rw[Array.toList_setIfInBounds,List.take_set,hpre,hset]
     ·intro h90
      simp only[decide_eq_false_iff_not]at h90
      repeat (with_reducible first|refine zid ?_|refine zkg ?_|refine zfL ?_|refine zau ?_|refine zdd ?_|refine zdS ?_|refine zbD ?_|refine zdr ?_|refine zbR ?_|refine zbY rfl ?_)
      exact⟨rfl,(vq1 h4),(vq1 h3),hE,cu,hcu,hno (fun h=>h90 ((u8_le cc).2.1 h.2)),hrow⟩
    ·try simp (disch:=first|omega|assumption|rfl) only[go_sem,h4,h3,hcell,decide_eq_false h65,↓hg5]
     refine hK _ _ ?_;clear hK hgd;clear K;try clear gd
     repeat refine c_r ?_
     refine wc0 ?_ ?_
     ·intro h;simp at h
     ·intro _
      repeat (with_reducible first|refine zid ?_|refine zkg ?_|refine zfL ?_|refine zau ?_|refine zdd ?_|refine zdS ?_|refine zbD ?_|refine zdr ?_|refine zbR ?_|refine zbY rfl ?_)
      exact⟨rfl,(vq1 h4),(vq1 h3),hE,cu,hcu,hno (fun h=>h65 ((u8_le cc).1.1 h.1)),hrow⟩
   ·rintro σ' ds B ⟨rfl,h4',h3',hE',hex⟩
    refine rg1 h4' ?_
    refine zau ?_
    exact⟨m - 1,by omega,rfl,i+1,by omega,by simp only[go_sem];rfl,(vq1 h3'),hE',hex⟩
  ·intro hge
   simp only[decide_eq_false_iff_not]at hge
   have hfull:za4 l i=zaS l:=by unfold za4;rw[List.take_of_length_le (by omega),List.drop_of_length_le (by omega)];simp
   rw[hfull]at hpre
   have hlen:(zaS l).length=l.length:=by simp[zaS]
   repeat refine c_r ?_
   refine rq ?_;intro gd K hgd hK
   try simp (disch:=first|omega|assumption|rfl) only[go_sem,h3]
   rw[←hlen]
   refine zb3 rfl rfl rfl ((vq2 h3 hlen)) ?_ ?_
   ·intro j hj
    rw[hlen]at hj
    rw[zaU]
    show A.cell? _=_
    rw[za0 hrow]
    have:(cu.toList.take l.length)[j]? =some (zaf ((zaS l)[j]'(by omega))):=by
     rw[hpre,List.getElem?_map,List.getElem?_eq_getElem (by omega)];rfl
    rw[List.getElem?_take,if_pos hj]at this
    simpa using this
   try simp only[go_sem]
   refine hK _ _ ?_;clear hK hgd;clear K;try clear gd
   repeat refine c_r ?_
   refine rt0 Tryz.ntmps54 ?_
   exact⟨rfl,hE⟩
end Go.Proofs.YtahbdamijngmmaaGreat
