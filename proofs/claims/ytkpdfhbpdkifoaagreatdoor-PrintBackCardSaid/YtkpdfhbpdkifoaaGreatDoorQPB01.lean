/-
  Texts of a proof, joined: K6, SF, K7, KD, K8, K9, K10, K11, C1, CP, Q0int, K12, C2.
  Conditions: none.
-/
import Derived.KernelRfl
import Derived.Attr
import Derived.Test.YtkpdfhbpdkifoaaGreatDoorQPB00
import Derived.Test.YtkpdfhbpdkifoaaGreatDoorProg
import Derived.Laws.OwnMore
import Derived.Laws.MakeOwn
import Derived.MapFrom
import Derived.Maps.RangeRun
import Derived.Maps.Range
set_option linter.unusedVariables false
set_option linter.unusedSimpArgs false
set_option linter.defProp false
set_option linter.unnecessarySimpa false
set_option maxHeartbeats 8000000
namespace Go.Proofs.YtkpdfhbpdkifoaaGreatDoor
open Go
universe u
theorem nr{α:Sort u}{a b:α}(h:a=b):a=b:=h
/-! what comes behind an operation is left as it is till the operation is known -/
inductive Lck{α β:Type}(a:α)(b:β):Type|mk
def optL(o:Option Value)(w:World)(K:Value→World→Prop)(F:Prop)(_:Lck K F):Prop:=optK o w K F
def okL(o:Option Value)(k:Value→Prop)(_:Lck k k):Prop:=okV o k
def callL(P:Program)(f:Value)(args:Array Value)(w:World)(K:Value→World→Prop)(_:Lck K K):Prop:=ziF P f args w K
def FnL(P:Program)(f:FuncId)(args:Array Value)(w:World)(K:Value→World→Prop)(_:Lck K K):Prop:=Fn P f args w K
def extL(P:Program)(f:FuncId)(args:Array Value)(w:World)(K:Value→World→Prop)(_:Lck K K):Prop:=extC P f args w K
def callQ(P:Program)(f:FuncId)(args:Array Value)(w:World)(K:Value→World→Prop)(m:Lck K K):Bool→Prop
 |true=>FnL P f args w K m
 |false=>extL P f args w K m
theorem callQ_t(P:Program)(f:FuncId)(args:Array Value)(w:World)(K:Value→World→Prop)(m:Lck K K):callQ P f args w K m true=FnL P f args w K m:=nr rfl
theorem callQ_f(P:Program)(f:FuncId)(args:Array Value)(w:World)(K:Value→World→Prop)(m:Lck K K):callQ P f args w K m false=extL P f args w K m:=nr rfl
theorem zds{P:Program}{f:FuncId}{args:Array Value}{w:World}{K:Value→World→Prop}{m:Lck K K}(h:zaj P f=true)(hF:Fn P f args w K):callQ P f args w K m (zaj P f):=by
 rw[h];exact hF
def stL(P:Program)(t:TypeId)(p v:Value)(w:World)(K:Value→World→Prop)(_:Lck K K):Prop:=stK P t p v w K
def bsL(P:Program)(t:TypeId)(n:Nat)(l:List (Nat×Value))(w:World)(K:Value→World→Prop)(_:Lck K K):Prop:=bsK P t n l w K
def opL(P:Program)(o:Oper)(ρ:Operand→Value)(w:World)(K:Value→World→Prop)(_:Lck K K):Prop:=opW P o ρ w K
def iteL(c:Bool)(a b:Prop)(_:Lck a b):Prop:=if c=true then a else b
theorem iteL_t(a b:Prop)(m:Lck a b):iteL true a b m=a:=nr (by simp[iteL])
theorem iteL_f(a b:Prop)(m:Lck a b):iteL false a b m=b:=nr (by simp[iteL])
section
variable {P : Program} {gd : Nat → Option Tmp} {n : Nat} {σ : Sto} {w : World}
def getL:List Value→Nat→Value
 | [],_=>undef
 |v::_,0=>v
 |_::l,i+1=>getL l i
theorem zlD(l:List Value)(i:Nat):sto0 l.toArray i=getL l i:=by
 unfold sto0
 induction l generalizing i with
 |nil=>simp[getL]
 |cons v l ih=>
  cases i with
  |zero=>simp[getL]
  |succ i=>simp only[getL,←ih i];simp
theorem opsV_nil{K:Sto→World→Prop}:opsV P gd n [] σ w K=K σ w:=nr rfl
theorem zl3{K:Sto→World→Prop}{d:Option Tmp}{op:Op}{ty:TypeId}{ps:String}{af:Array Edge}{l:List Oper}:
  opsV P gd n (⟨d,op,ty,ps,af,Option.none⟩::l) σ w K=opV P ⟨d,op,ty,ps,af,Option.none⟩ (ev n σ) w (fun v w'=>opsV P gd n l (putS σ d v) w' K):=nr rfl
theorem zkF{K:Sto→World→Prop}{d:Option Tmp}{op:Op}{ty:TypeId}{ps:String}{af:Array Edge}{j:Nat}{b:Bool}{l:List Oper}:
  opsV P gd n (⟨d,op,ty,ps,af,some (j,b)⟩::l) σ w K=
   iteL (zaE gd n σ (some (j,b))) (opV P ⟨d,op,ty,ps,af,some (j,b)⟩ (ev n σ) w (fun v w'=>opsV P gd n l (putS σ d v) w' K))
   (opsV P gd n l (putS σ d undef) w K) .mk:=nr rfl
def zap(v:Value)(b:Bool):Bool:=match v with| .bool c=>c==b|_=>false
def wantO(o:Option Tmp)(n:Nat)(σ:Sto)(b:Bool):Bool:=match o with|some d=>zap (ev n σ (.tmp d)) b|Option.none=>false
theorem zag{j:Nat}{b:Bool}:zaE gd n σ (some (j,b))=wantO (gd j) n σ b:=by
 unfold zaE ylV wantO
 dsimp only
 cases gd j with
 |none=>rfl
 |some d=>
  dsimp only
  unfold ev zap
  by_cases h:d<n
  ·simp only[h,if_true];cases σ d<;>rfl
  ·simp[h,undef]
theorem zb8{b:Bool}(d:Tmp):wantO (some d) n σ b=zap (ev n σ (.tmp d)) b:=nr rfl
theorem bi1:zap (.bool true) true=true:=nr rfl
theorem bi2:zap (.bool false) true=false:=nr rfl
theorem bi3:zap (.bool true) false=false:=nr rfl
theorem bi4:zap (.bool false) false=true:=nr rfl
theorem bq1:(false==true)=false:=nr rfl
theorem bq2:(true==true)=true:=nr rfl
theorem bq3:(true==false)=false:=nr rfl
theorem bq4:(false==false)=true:=nr rfl
theorem m16:(false=true)=False:=by simp
theorem zga(c b:Bool):zap (.bool c) b=(c==b):=nr rfl
theorem zmS{ops:List Oper}{S:Nat→Prop}{isB:Nat→Bool}{K:Sto→World→Prop}:zbW P gd ops n S isB [] σ w K=K σ w:=nr rfl
theorem ev_tmp(t:Tmp):ev n σ (.tmp t)=if t<n then σ t else undef:=nr rfl
theorem ev_const(v:Value):ev n σ (.const v)=v:=nr rfl
theorem ev_func(f:FuncId):ev n σ (.func f)= .func (.func f) #[] #[]:=nr rfl
theorem upd_at(d:Nat)(v:Value)(i:Nat):upd σ d v i=if i=d then v else σ i:=nr rfl
theorem putS_at(d:Nat)(v:Value)(i:Nat):putS σ (some d) v i=if i=d then v else σ i:=nr rfl
theorem putS_no(v:Value)(i:Nat):putS σ Option.none v i=σ i:=nr rfl
theorem zlX(d:Nat)(v:Value):putS σ (some d) v=upd σ d v:=nr rfl
theorem zlY(v:Value):putS σ Option.none v=σ:=nr rfl
variable {ρ : Operand → Value} {K : Value → World → Prop} {k : Value → Prop} {S : Nat → Prop} {d : Option Tmp} {ty : TypeId} {ps : String} {af : Array Edge} {g : Option (Nat × Bool)}
theorem zl2(v:Value)(alt:Prop):optK (some v) w K alt=K v w:=nr rfl
theorem zh1(v:Value)(alt:Prop)(m:Lck K alt):optL (some v) w K alt m=K v w:=nr rfl
theorem okL_some(v:Value)(m:Lck k k):okL (some v) k m=k v:=nr rfl
theorem okV_some(v:Value):okV (some v) k=k v:=nr rfl
theorem v_move(x:Operand):opV P ⟨d,.move x,ty,ps,af,g⟩ ρ w K=optL (some (ρ x)) w K False .mk:=nr rfl
theorem v_assign(x:Operand):opV P ⟨d,.assign x,ty,ps,af,g⟩ ρ w K=optL (some (ρ x)) w K False .mk:=nr rfl
def pickV:Value→Value→Value→Option Value
 | .bool t,a,b=>some (bif t then a else b)
 |_,_,_=>Option.none
theorem v_pick(c a b:Operand):opV P ⟨d,.pick c a b,ty,ps,af,g⟩ ρ w K=optL (pickV (ρ c) (ρ a) (ρ b)) w K False .mk:=by
 unfold opV;dsimp only;cases ρ c<;>rfl
theorem v_bin(op:BinOp)(t:TypeId)(x y:Operand)(yt:TypeId):
  opV P ⟨d,.binOp op t x y yt,ty,ps,af,g⟩ ρ w K=optL (binV P op t (ρ x) (ρ y)) w K (opW P ⟨d,.binOp op t x y yt,ty,ps,af,g⟩ ρ w K) .mk:=nr rfl
theorem v_un(op:UnOp)(t:TypeId)(x:Operand):opV P ⟨d,.unOp op t x,ty,ps,af,g⟩ ρ w K=optL (unV op (ρ x)) w K (opW P ⟨d,.unOp op t x,ty,ps,af,g⟩ ρ w K) .mk:=nr rfl
def ldVal(P:Program)(w:World)(t:TypeId):Value→Option Value
 | .pointer p=>ldP P w t p
 |_=>Option.none
theorem v_load(t:TypeId)(x:Operand):opV P ⟨d,.load t x,ty,ps,af,g⟩ ρ w K=optL (ldVal P w t (ρ x)) w K False .mk:=by
 unfold opV;dsimp only;cases ρ x<;>rfl
theorem v_store(t:TypeId)(a x:Operand):opV P ⟨d,.store t a x,ty,ps,af,g⟩ ρ w K=stL P t (ρ a) (ρ x) w K .mk:=nr rfl
theorem v_ixA(t:TypeId)(x i:Operand):opV P ⟨d,.indexAddr t x i,ty,ps,af,g⟩ ρ w K=optL (ixA P t (ρ x) (ρ i)) w K (opW P ⟨d,.indexAddr t x i,ty,ps,af,g⟩ ρ w K) .mk:=nr rfl
theorem v_ix(t:TypeId)(x i:Operand):opV P ⟨d,.index t x i,ty,ps,af,g⟩ ρ w K=optL (ixS P t (ρ x) (ρ i)) w K (opW P ⟨d,.index t x i,ty,ps,af,g⟩ ρ w K) .mk:=nr rfl
theorem v_slice(t:TypeId)(x:Operand)(lo hi mx:Option Operand):
  opV P ⟨d,.slice t x lo hi mx,ty,ps,af,g⟩ ρ w K=optL (slV P t (ρ x) (lo.map ρ) (hi.map ρ) (mx.map ρ)) w K (opW P ⟨d,.slice t x lo hi mx,ty,ps,af,g⟩ ρ w K) .mk:=nr rfl
theorem v_ext(x:Operand)(i:Nat):opV P ⟨d,.extract x i,ty,ps,af,g⟩ ρ w K=optL (exV i (ρ x)) w K False .mk:=nr rfl
theorem v_conv(s t:TypeId)(x:Operand):opV P ⟨d,.convert s t x,ty,ps,af,g⟩ ρ w K=optL (cvV P s t (ρ x)) w K (opW P ⟨d,.convert s t x,ty,ps,af,g⟩ ρ w K) .mk:=nr rfl
theorem v_field(s:TypeId)(x:Operand)(f:Nat):opV P ⟨d,.fieldAddr s x f,ty,ps,af,g⟩ ρ w K=optL (fdA P s (ρ x) f) w K (opW P ⟨d,.fieldAddr s x f,ty,ps,af,g⟩ ρ w K) .mk:=nr rfl
def ncV:Value→Option Value
 | .pointer (some a)=>some (.pointer (some a))
 |_=>Option.none
theorem ncV_some{p:Option Addr}(h:p.isSome=true):ncV (.pointer p)=some (.pointer p):=by cases p<;>first|rfl|cases h
theorem ncV_pt(a:Addr):ncV (.pointer (some a))=some (.pointer (some a)):=nr rfl
theorem v_nc(x:Operand):opV P ⟨d,.nilCheck x,ty,ps,af,g⟩ ρ w K↔
  optL (ncV (ρ x)) w K (match ρ x with| .pointer Option.none=>False| .pointer (some _)=>False|_=>opW P ⟨d,.nilCheck x,ty,ps,af,g⟩ ρ w K) .mk:=by
 unfold opV optL optK ncV;dsimp only
 cases ρ x<;>first|exact Iff.rfl| (rename_i p;cases p<;>simp)
theorem v_func(fn:Go.Fn)(f c:Array Operand):opV P ⟨d,.makeFunc fn f c,ty,ps,af,g⟩ ρ w K=optL (some (.func fn (f.map ρ) (c.map ρ))) w K False .mk:=nr rfl
theorem v_box(e:TypeId)(x:Operand):opV P ⟨d,.box e x,ty,ps,af,g⟩ ρ w K=K (.pointer (some ⟨w.heap.size,0,Option.none⟩)) (w.alloc (.cells (ρ x).cells e)):=nr rfl
theorem v_alloc(e:TypeId):opV P ⟨d,.alloc e,ty,ps,af,g⟩ ρ w K=(match tyZ P e with|some z=>K (.pointer (some ⟨w.heap.size,0,Option.none⟩)) (w.alloc (.cells z.cells e))|Option.none=>False):=nr rfl
theorem v_map(t:TypeId):opV P ⟨d,.makeMap t Option.none,ty,ps,af,g⟩ ρ w K=K (.map (some w.heap.size)) (w.alloc (.map #[] 0)):=nr rfl
theorem v_build(t:TypeId)(parts:Array (Nat×Operand)):opV P ⟨d,.build t parts,ty,ps,af,g⟩ ρ w K=
  (zbD P t=true∧optL (bdV P t (parts.toList.map fun p=>(p.1,ρ p.2))) w K False .mk):=nr rfl
theorem v_bs(t:TypeId)(m:Nat)(parts:Array (Nat×Operand)):opV P ⟨d,.buildSlice t m parts,ty,ps,af,g⟩ ρ w K=bsL P t m (parts.toList.map fun p=>(p.1,ρ p.2)) w K .mk:=nr rfl
theorem v_call(f:Operand)(args:Array Operand)(ts:Array TypeId):opV P ⟨d,.call ⟨.value f,args,ts⟩,ty,ps,af,g⟩ ρ w K=callL P (ρ f) (args.map ρ) w K .mk:=nr rfl
theorem v_len(x:Operand)(t:TypeId):opV P ⟨d,.call ⟨.builtin .len,#[x],#[t]⟩,ty,ps,af,g⟩ ρ w K=optL (lenV P t (ρ x)) w K (opW P ⟨d,.call ⟨.builtin .len,#[x],#[t]⟩,ty,ps,af,g⟩ ρ w K) .mk:=nr rfl
theorem v_append(a:Array Operand)(t:Array TypeId):opV P ⟨d,.call ⟨.builtin .append,a,t⟩,ty,ps,af,g⟩ ρ w K=opL P ⟨d,.call ⟨.builtin .append,a,t⟩,ty,ps,af,g⟩ ρ w K .mk:=nr rfl
theorem v_copy(a:Array Operand)(t:Array TypeId):opV P ⟨d,.call ⟨.builtin .copy,a,t⟩,ty,ps,af,g⟩ ρ w K=opL P ⟨d,.call ⟨.builtin .copy,a,t⟩,ty,ps,af,g⟩ ρ w K .mk:=nr rfl
theorem v_mkS(t:TypeId)(x y:Operand):opV P ⟨d,.makeSlice t x y,ty,ps,af,g⟩ ρ w K=opL P ⟨d,.makeSlice t x y,ty,ps,af,g⟩ ρ w K .mk:=nr rfl
theorem v_mapU(t:TypeId)(m x y:Operand):opV P ⟨d,.mapUpdate t m x y,ty,ps,af,g⟩ ρ w K=opL P ⟨d,.mapUpdate t m x y,ty,ps,af,g⟩ ρ w K .mk:=nr rfl
theorem v_look(t:TypeId)(x y:Operand)(b:Bool):opV P ⟨d,.lookup t x y b,ty,ps,af,g⟩ ρ w K=opL P ⟨d,.lookup t x y b,ty,ps,af,g⟩ ρ w K .mk:=nr rfl
theorem v_range(t:TypeId)(x:Operand):opV P ⟨d,.range t x,ty,ps,af,g⟩ ρ w K=opL P ⟨d,.range t x,ty,ps,af,g⟩ ρ w K .mk:=nr rfl
theorem v_next(x:Operand)(b:Bool):opV P ⟨d,.next x b,ty,ps,af,g⟩ ρ w K=opL P ⟨d,.next x b,ty,ps,af,g⟩ ρ w K .mk:=nr rfl
theorem zk5(f:FuncId)(first captured args:Array Value):callL P (.func (.func f) first captured) args w K .mk=callQ P f (first++args++captured) w K .mk (zaj P f):=by
 unfold callL ziF
 dsimp only
 cases zaj P f<;>rfl
end
section
variable {P : Program} {t e : TypeId} {k : IntKind} {a b : Int}
theorem b_add:binV P .add t (.int k a) (.int k b)=some (.int k (k.wrap (a+b))):=by simp[binV]
theorem b_sub:binV P .sub t (.int k a) (.int k b)=some (.int k (k.wrap (a - b))):=by simp[binV]
theorem b_mul:binV P .mul t (.int k a) (.int k b)=some (.int k (k.wrap (a*b))):=by simp[binV]
theorem b_lss:binV P .lss t (.int k a) (.int k b)=some (.bool (decide (a<b))):=by simp[binV]
theorem b_leq:binV P .leq t (.int k a) (.int k b)=some (.bool (decide (a≤b))):=by simp[binV]
theorem b_gtr:binV P .gtr t (.int k a) (.int k b)=some (.bool (decide (b<a))):=by simp[binV]
theorem b_geq:binV P .geq t (.int k a) (.int k b)=some (.bool (decide (b≤a))):=by simp[binV]
theorem b_eql:binV P .eql t (.int k a) (.int k b)=some (.bool (decide (a=b))):=by simp[binV]
theorem b_neq:binV P .neq t (.int k a) (.int k b)=some (.bool (!decide (a=b))):=by simp[binV]
theorem b_quo(h:¬b=0):binV P .quo t (.int k a) (.int k b)=some (.int k (k.wrap (a.tdiv b))):=by simp[binV,h]
theorem b_rem(h:¬b=0):binV P .rem t (.int k a) (.int k b)=some (.int k (a.tmod b)):=by simp[binV,h]
theorem b_shr1:binV P .shr t (.int .u64 a) (.int .u64 1)=some (.int .u64 (a.fdiv 2)):=by simp[binV,IntKind.bits]
theorem zfd{x:Int}(h1:0≤x)(h2:x≤18446744073709551615):IntKind.u64.wrap x=x:=by
 simp[IntKind.wrap,IntKind.bits,IntKind.signed];omega
theorem wrap_u32{x:Int}(h1:0≤x)(h2:x≤4294967295):IntKind.u32.wrap x=x:=by
 simp[IntKind.wrap,IntKind.bits,IntKind.signed];omega
theorem fdiv_two(n:Nat):((n:Int)).fdiv 2=((n / 2:Nat):Int):=by
 rw[Int.fdiv_eq_ediv_of_nonneg _ (by omega)];rfl
variable {s u : List UInt8}
theorem zfP:((⟨s.toArray⟩:ByteArray)=⟨u.toArray⟩)↔s=u:=by
 constructor
 ·intro h
  have:=congrArg (fun x:ByteArray=>x.data.toList) h
  simpa using this
 ·intro h;rw[h]
theorem b_seql:binV P .eql t (vs s) (vs u)=some (.bool (decide (s=u))):=by simp[binV,zfP]
theorem b_sneq:binV P .neq t (vs s) (vs u)=some (.bool (!decide (s=u))):=by simp[binV,zfP]
theorem b_slss:binV P .lss t (vs s) (vs u)=some (.bool (zdt s u)):=by simp[binV]
theorem b_sgtr:binV P .gtr t (vs s) (vs u)=some (.bool (!(zdt s u||decide (s=u)))):=by simp[binV,zfP]
theorem b_sadd(h:s.length+u.length≤9223372036854775807):binV P .add t (vs s) (vs u)=some (vs (s++u)):=by
 have h1:(⟨s.toArray⟩:ByteArray).size=s.length:=rfl
 have h2:(⟨u.toArray⟩:ByteArray).size=u.length:=rfl
 have h3:IntKind.i64.max=9223372036854775807:=by decide
 have h4:¬(((s.length+u.length:Nat):Int)>9223372036854775807):=by omega
 simp only[binV,h1,h2,h3,if_neg h4,Option.some.injEq,Value.string.injEq]
 apply ByteArray.ext
 simp
variable {p q : Bool} {x : Option Addr}
def binB(P:Program)(op:BinOp)(t:Option TypeDesc)(p q:Bool):Option Value:=
 match op,t with
 | .eql,some .bool=>some (.bool (p==q))
 | .neq,some .bool=>some (.bool (!(p==q)))
 |_,_=>Option.none
theorem b_bool(op:BinOp):binV P op t (.bool p) (.bool q)=binB P op (tyU P t) p q:=by
 simp only[binV,binB];cases op<;>try rfl
theorem b_beql:binB P .eql (some .bool) p q=some (.bool (p==q)):=nr rfl
theorem b_bneq:binB P .neq (some .bool) p q=some (.bool (!(p==q))):=nr rfl
def binP(op:BinOp)(t:Option TypeDesc)(x:Option Addr):Option Value:=
 match op,t with
 | .eql,some (.pointer _)=>some (.bool x.isNone)
 | .neq,some (.pointer _)=>some (.bool (!x.isNone))
 |_,_=>Option.none
theorem b_ptr(op:BinOp):binV P op t (.pointer x) (.pointer Option.none)=binP op (tyU P t) x:=by
 simp only[binV,binP];cases x<;>cases op<;>try rfl
theorem b_peql:binP .eql (some (.pointer e)) x=some (.bool x.isNone):=nr rfl
theorem b_pneq:binP .neq (some (.pointer e)) x=some (.bool (!x.isNone)):=nr rfl
theorem u_not:unV .not (.bool p)=some (.bool (!p)):=by simp[unV]
theorem u_neg:unV .neg (.int k a)=some (.int k (k.wrap (0 - a))):=by simp[unV]
variable {ad : Option Addr} {n c : Nat} {w : World}
def lenD(o:Option TypeDesc)(v:Value):Option Value:=
 match o,v with
 |some .string,.string s=>some (vi s.size)
 |some (.slice _),.slice _ n _=>some (vi n)
 |some (.array n _),_=>some (vi n)
 |_,_=>Option.none
theorem l_D(v:Value):lenV P t v=lenD (tyU P t) v:=by unfold lenV lenD;rfl
theorem l_slice:lenD (some (.slice e)) (.slice ad n c)=some (.int .i64 n):=nr rfl
theorem l_str:lenD (some .string) (vs s)=some (.int .i64 s.length):=nr rfl
def ixD(P:Program)(o:Option TypeDesc)(x i:Value):Option Value:=
 match o,x,i with
 |some (.slice e),.slice a n _,.int _ j=>if 0≤j∧j<n∧a.isSome=true then(bif (P.info? e).isSome then some (.pointer (adr a (j.toNat*tyS P e))) else Option.none) else Option.none
 |some (.array n e),.pointer a,.int _ j=>if 0≤j∧j<n∧a.isSome=true then(bif (P.info? e).isSome then some (.pointer (adr a (j.toNat*tyS P e))) else Option.none) else Option.none
 |_,_,_=>Option.none
theorem i_D(x i:Value):ixA P t x i=ixD P (tyU P t) x i:=by unfold ixA ixD;rfl
theorem zmA{j:Int}(h0:0≤j)(h1:j<n)(h2:ad.isSome=true):
  ixD P (some (.slice e)) (.slice ad n c) (.int k j)=(bif (P.info? e).isSome then some (.pointer (adr ad (j.toNat*tyS P e))) else Option.none):=by simp[ixD,h0,h1,h2]
theorem i_slice1{x:Addr}{j:Int}(h0:0≤j)(h1:j<n):
  ixD P (some (.slice e)) (.slice (some x) n c) (.int k j)=(bif (P.info? e).isSome then some (.pointer (adr (some x) (j.toNat*tyS P e))) else Option.none):=zmA h0 h1 rfl
theorem i_array1{x:Addr}{m:Nat}{j:Int}(h0:0≤j)(h1:j<m):
  ixD P (some (.array m e)) (.pointer (some x)) (.int k j)=(bif (P.info? e).isSome then some (.pointer (adr (some x) (j.toNat*tyS P e))) else Option.none):=by simp[ixD,h0,h1]
theorem i_array{m:Nat}{j:Int}(h0:0≤j)(h1:j<m)(h2:ad.isSome=true):
  ixD P (some (.array m e)) (.pointer ad) (.int k j)=(bif (P.info? e).isSome then some (.pointer (adr ad (j.toNat*tyS P e))) else Option.none):=by simp[ixD,h0,h1,h2]
def ixSD(o:Option TypeDesc)(x i:Value):Option Value:=
 match o,x,i with
 |some .string,.string s,.int _ j=>if 0≤j then(s.data.toList[j.toNat]?).map (fun c=> .int .u8 c.toNat) else Option.none
 |_,_,_=>Option.none
theorem i_SD(x i:Value):ixS P t x i=ixSD (tyU P t) x i:=by unfold ixS ixSD;rfl
theorem zkN{j:Int}(h0:0≤j)(h1:j.toNat<s.length):ixSD (some .string) (vs s) (.int k j)=some (.int .u8 (s[j.toNat]'h1).toNat):=by
 simp[ixSD,h0,h1]
def slD(P:Program)(o:Option TypeDesc)(x:Value)(lo hi mx:Option Value):Option Value:=
 match o,x,mx with
 |some .string,.string s,Option.none=>match slB lo,slH hi s.size with
  |some l,some h=>if l≤h∧h≤s.size then some (.string (s.extract l h)) else Option.none
  |_,_=>Option.none
 |some (.slice e),.slice a n c,_=>match slB lo,slH hi n,slH mx c with
  |some l,some h,some m=>if l≤h∧h≤m∧m≤c∧(mx.isSome=true→hi.isSome=true) then
    (bif (P.info? e).isSome then some (.slice (if m=l then a else adr a (l*tyS P e)) (h - l) (m - l)) else Option.none)
   else Option.none
  |_,_,_=>Option.none
 |_,_,_=>Option.none
theorem s_D(x:Value)(lo hi mx:Option Value):slV P t x lo hi mx=slD P (tyU P t) x lo hi mx:=by unfold slV slD;rfl
def bdN(o:Option Value)(d:Nat):Nat:=match o with|some (.int _ i)=>i.toNat|_=>d
def bdOk(o:Option Value):Prop:=match o with|some (.int _ i)=>0≤i|some _=>False|Option.none=>True
theorem slB_eq{o:Option Value}(h:bdOk o):slB o=some (bdN o 0):=by
 cases o with
 |none=>rfl
 |some v=>cases v<;>first|exact h.elim| (simp only[bdOk]at h;simp[slB,bdN,h])
theorem slH_eq{o:Option Value}{m:Nat}(h:bdOk o):slH o m=some (bdN o m):=by
 cases o with
 |none=>rfl
 |some v=>cases v<;>first|exact h.elim| (simp only[bdOk]at h;simp[slH,bdN,h])
theorem zbR{i:Int}{m:Nat}:bdN (some (.int k i)) m=i.toNat:=nr rfl
theorem zdK{m:Nat}:bdN Option.none m=m:=nr rfl
theorem zlL{lo hi:Option Value}(h1:bdOk lo)(h2:bdOk hi)(h3:bdN lo 0≤bdN hi s.length)(h4:bdN hi s.length≤s.length):
  slD P (some .string) (vs s) lo hi Option.none=some (vs ((s.drop (bdN lo 0)).take (bdN hi s.length - bdN lo 0))):=by
 have e3:(⟨s.toArray⟩:ByteArray).size=s.length:=rfl
 have e4:∀l m,(⟨s.toArray⟩:ByteArray).extract l m=⟨((s.drop l).take (m - l)).toArray⟩:=fun l m=>by
  apply ByteArray.ext
  rw[ByteArray.data_extract]
  simp[List.take_drop]
 simp[slD,slB_eq h1,e3,slH_eq h2,h3,h4,e4]
theorem s_str{l m:Int}{k':IntKind}(h1:0≤l)(h3:l≤m)(h4:m≤s.length):
  slD P (some .string) (vs s) (some (.int k l)) (some (.int k' m)) Option.none=some (vs ((s.drop l.toNat).take (m.toNat - l.toNat))):=
 zlL h1 (show 0≤m by omega) (by simp only[zbR];omega) (by simp only[zbR];omega)
theorem s_strl{l:Int}(h1:0≤l)(h4:l≤s.length):
  slD P (some .string) (vs s) (some (.int k l)) Option.none Option.none=some (vs (s.drop l.toNat)):=by
 rw[zlL (lo:=some (.int k l)) (hi:=Option.none) h1 trivial (by simp only[zbR,zdK];omega) (Nat.le_refl _)]
 simp only[zbR,zdK]
 rw[List.take_of_length_le (by simp)]
theorem s_strh{m:Int}{k':IntKind}(h1:0≤m)(h4:m≤s.length):
  slD P (some .string) (vs s) Option.none (some (.int k' m)) Option.none=some (vs (s.take m.toNat)):=by
 rw[zlL (lo:=Option.none) (hi:=some (.int k' m)) trivial h1 (by simp only[zbR,zdK];omega) (by simp only[zbR];omega)]
 simp[zbR,zdK]
theorem s_sl0{lo hi:Option Value}(h1:bdOk lo)(h2:bdOk hi)(h3:bdN lo 0≤bdN hi n)(h4:bdN hi n≤c):
  slD P (some (.slice e)) (.slice ad n c) lo hi Option.none=
   (bif (P.info? e).isSome then some (.slice (if c=bdN lo 0 then ad else adr ad (bdN lo 0*tyS P e)) (bdN hi n - bdN lo 0) (c - bdN lo 0)) else Option.none):=by
 have hm:slH Option.none c=some c:=rfl
 simp[slD,slB_eq h1,slH_eq h2,h3,h4,hm]
theorem s_sl{l m:Int}{k':IntKind}(h1:0≤l)(h3:l≤m)(h4:m≤c):
  slD P (some (.slice e)) (.slice ad n c) (some (.int k l)) (some (.int k' m)) Option.none=
   (bif (P.info? e).isSome then some (.slice (if c=l.toNat then ad else adr ad (l.toNat*tyS P e)) (m.toNat - l.toNat) (c - l.toNat)) else Option.none):=
 s_sl0 h1 (show 0≤m by omega) (by simp only[zbR];omega) (by simp only[zbR];omega)
theorem s_sll{l:Int}(h1:0≤l)(h3:l≤n)(h4:n≤c):
  slD P (some (.slice e)) (.slice ad n c) (some (.int k l)) Option.none Option.none=
   (bif (P.info? e).isSome then some (.slice (if c=l.toNat then ad else adr ad (l.toNat*tyS P e)) (n - l.toNat) (c - l.toNat)) else Option.none):=
 s_sl0 h1 trivial (by simp only[zbR,zdK];omega) h4
theorem s_slh{m:Int}{k':IntKind}(h1:0≤m)(h4:m≤c):
  slD P (some (.slice e)) (.slice ad n c) Option.none (some (.int k' m)) Option.none=
   (bif (P.info? e).isSome then some (.slice (if c=0 then ad else adr ad (0*tyS P e)) (m.toNat - 0) (c - 0)) else Option.none):=
 s_sl0 trivial h1 (by simp only[zdK];omega) (by simp only[zbR];omega)
theorem zmp(p:Option Addr):ldVal P w t (.pointer p)=ldP P w t p:=by rfl
theorem ex_tuple(l:List Value)(i:Nat):exV i (.tuple l.toArray)=l[i]?:=by simp[exV]
def cvD(o o':Option TypeDesc)(x:Value):Option Value:=
 match o,o',x with
 |some (.int _),some (.int k),.int _ n=>some (.int k (k.wrap n))
 |_,_,_=>Option.none
theorem c_D{t':TypeId}(x:Value):cvV P t t' x=cvD (tyU P t) (tyU P t') x:=by unfold cvV cvD;rfl
theorem c_int{k' k'':IntKind}:cvD (some (.int k')) (some (.int k'')) (.int k a)=some (.int k'' (k''.wrap a)):=nr rfl
theorem ldP_D(p:Option Addr):ldP P w t p=(bif tyA P t then ldP P w t p else bif (tyU P t).isSome then zad w p else Option.none):=by
 cases hA:tyA P t with
 |true=>rfl
 |false=>
  cases hs:(tyU P t).isSome with
  |true=>simp only[cond_false,cond_true];exact ldP_cell hA hs
  |false=>
   cases p with
   |none=>rfl
   |some x=>simp[ldP,ldV,hA,hs]
def ldA(P:Program)(w:World)(t:TypeId)(p:Option Addr):Option Value:=ldP P w t p
def ldX(P:Program)(w:World)(t:TypeId)(p:Option Addr):Bool→Bool→Option Value
 |true,_=>ldA P w t p
 |false,true=>zad w p
 |false,false=>Option.none
theorem ldP_X(p:Option Addr):ldP P w t p=ldX P w t p (tyA P t) (tyU P t).isSome:=by
 rw[ldP_D]
 cases tyA P t<;>cases (tyU P t).isSome<;>rfl
theorem ldX_one(p:Option Addr):ldX P w t p false true=zad w p:=nr rfl
theorem ldX_agg(p:Option Addr)(b:Bool):ldX P w t p true b=ldA P w t p:=nr rfl
theorem zd5{x:Int}(h1: -9223372036854775808≤x)(h2:x≤9223372036854775807):IntKind.i64.wrap x=x:=zd6 h1 h2
theorem wrap_u8{x:Int}(h1:0≤x)(h2:x≤255):IntKind.u8.wrap x=x:=zkt h1 h2
end
section
variable {P : Program} {r : Option Nat} {n : Nat} {Q : Post} {f : Sto → List Deferred → World → Prop} {σ : Sto} {ds : List Deferred} {w : World}
theorem W_mid{x y:Code}(M:Sto→List Deferred→World→Prop)(h1:W P r n x (zdU M Q) σ ds w)(h2:∀σ ds w,M σ ds w→W P r n y Q σ ds w):W P r n (.seq x y) Q σ ds w:=
 W_seq (zas h1 fun e σ ds w hq=>by cases e<;>first|exact h2 _ _ _ hq|exact hq)
theorem zaz(h:f σ ds w):zdU f Q .normal σ ds w:=h
theorem zbr{id:Nat}(h:Q (.exit id) σ ds w):zdU f Q (.exit id) σ ds w:=h
theorem zbO(h:Q .ret σ ds w):zdU f Q .ret σ ds w:=h
theorem zaY{id:Nat}(h:Q .normal σ ds w):zdu id Q .normal σ ds w:=h
theorem zbt{id:Nat}(h:Q .ret σ ds w):zdu id Q .ret σ ds w:=h
theorem zbc{id:Nat}(h:Q .normal σ ds w):zdu id Q (.exit id) σ ds w:=by
 show(if id=id then Q .normal σ ds w else Q (.exit id) σ ds w);rw[if_pos rfl];exact h
theorem za1{id id':Nat}(hne:Nat.beq id' id=false)(h:Q (.exit id') σ ds w):zdu id Q (.exit id') σ ds w:=by
 show(if id'=id then Q .normal σ ds w else Q (.exit id') σ ds w);rw[if_neg (Nat.ne_of_beq_eq_false hne)];exact h
inductive Ctl:Prop→Prop→Prop
 |seq {P:Program} {r:Option Nat} {n:Nat} {x y:Code} {Q:Post} {σ:Sto} {ds:List Deferred} {w:World}:Ctl (W P r n (.seq x y) Q σ ds w) (W P r n x (zdU (fun σ ds w=>W P r n y Q σ ds w) Q) σ ds w)
 |block {P:Program} {r:Option Nat} {n:Nat} {id:Nat} {c:Code} {Q:Post} {σ:Sto} {ds:List Deferred} {w:World}:Ctl (W P r n (.block id c) Q σ ds w) (W P r n c (zdu id Q) σ ds w)
 |skip {P:Program} {r:Option Nat} {n:Nat} {Q:Post} {σ:Sto} {ds:List Deferred} {w:World}:Ctl (W P r n .skip Q σ ds w) (Q .normal σ ds w)
 |ret {P:Program} {r:Option Nat} {n:Nat} {Q:Post} {σ:Sto} {ds:List Deferred} {w:World}:Ctl (W P r n .ret Q σ ds w) (Q .ret σ ds w)
 |exit {P:Program} {r:Option Nat} {n:Nat} {id:Nat} {Q:Post} {σ:Sto} {ds:List Deferred} {w:World}:Ctl (W P r n (.exit id) Q σ ds w) (Q (.exit id) σ ds w)
 |tn {f:Sto→List Deferred→World→Prop} {Q:Post} {σ:Sto} {ds:List Deferred} {w:World}:Ctl (zdU f Q .normal σ ds w) (f σ ds w)
 |te {f:Sto→List Deferred→World→Prop} {id:Nat} {Q:Post} {σ:Sto} {ds:List Deferred} {w:World}:Ctl (zdU f Q (.exit id) σ ds w) (Q (.exit id) σ ds w)
 |tr {f:Sto→List Deferred→World→Prop} {Q:Post} {σ:Sto} {ds:List Deferred} {w:World}:Ctl (zdU f Q .ret σ ds w) (Q .ret σ ds w)
 |bn {id:Nat} {Q:Post} {σ:Sto} {ds:List Deferred} {w:World}:Ctl (zdu id Q .normal σ ds w) (Q .normal σ ds w)
 |br {id:Nat} {Q:Post} {σ:Sto} {ds:List Deferred} {w:World}:Ctl (zdu id Q .ret σ ds w) (Q .ret σ ds w)
 |bs {id:Nat} {Q:Post} {σ:Sto} {ds:List Deferred} {w:World}:Ctl (zdu id Q (.exit id) σ ds w) (Q .normal σ ds w)
 |bo {id id':Nat} {Q:Post} {σ:Sto} {ds:List Deferred} {w:World} (hne:Nat.beq id' id=false):Ctl (zdu id Q (.exit id') σ ds w) (Q (.exit id') σ ds w)
theorem c_r{p q:Prop}(hq:q)(h:Ctl p q:=by (with_reducible constructor)<;>exact rfl):p:=by
 cases h with
 |seq=>exact W_seq hq
 |block=>exact W_block hq
 |skip=>exact zdP hq
 |ret=>exact zgt hq
 |exit=>exact zdQ hq
 |tn=>exact hq
 |te=>exact hq
 |tr=>exact hq
 |bn=>exact hq
 |br=>exact hq
 |bs=>exact zbc hq
 |bo hne=>exact za1 hne hq
theorem zfI{fn:Func}{R:Value→World→Prop}{e:Exit}(he:e= .normal∨e= .ret){l:List ResultVar}{rs:List Value}(hl:fn.results.toList=l)(hr:resV P fn.ntmps σ w l=some rs)
  (h:R (resT rs) w):retQ P fn R e σ [] w:=⟨he,trivial,rs,by rw[hl];exact hr,h⟩
theorem resV_tmp(t:Tmp):resV P n σ w [.tmp t]=some [ev n σ (.tmp t)]:=rfl
theorem resV_nil:resV P n σ w []=some []:=rfl
theorem zlQ{fn:Func}{R:Value→World→Prop}{e:Exit}(he:e= .normal∨e= .ret){t:Tmp}{m:Nat}{v:Value}(hl:fn.results.toList=[.tmp t])(hm:fn.ntmps=m)(hv:ev m σ (.tmp t)=v)
  (h:R v w):retQ P fn R e σ [] w:=by
 refine zfI he hl (resV_tmp t) ?_
 rw[hm,hv];exact h
theorem zaw{fn:Func}{R:Value→World→Prop}{e:Exit}(he:e= .normal∨e= .ret)(hl:fn.results.toList=[])
  (h:R (.tuple #[]) w):retQ P fn R e σ [] w:=zfI he hl resV_nil h
end
section
variable {P : Program} {gd : Nat → Option Tmp} {n : Nat} {σ : Sto} {w : World} {ops : List Oper} {S : Nat → Prop} {isB : Nat → Bool} {K : Sto → World → Prop} {i : Nat} {pl : List (Nat × Bool)}
def drawQ(P:Program)(gd:Nat→Option Tmp)(ops:List Oper)(n:Nat)(S:Nat→Prop)(isB:Nat→Bool)(pl:List (Nat×Bool))(σ:Sto)(w:World)(K:Sto→World→Prop):Option Oper→Prop
 |some o=>if zaE gd n σ o.guard=true then quV P S o (ev n σ) w (fun v=>zbW P gd ops n S isB pl (putS σ o.dst v) w K) else zbW P gd ops n S isB pl (putS σ o.dst undef) w K
 |Option.none=>False
def drawA(P:Program)(gd:Nat→Option Tmp)(ops:List Oper)(n:Nat)(S:Nat→Prop)(isB:Nat→Bool)(b:Bool)(pl:List (Nat×Bool))(σ:Sto)(w:World)(K:Sto→World→Prop):Option Oper→Prop
 |some o=>if zaE gd n σ o.guard=true then opV P o (ev n σ) w (fun v w'=>(b=true∨Keep S w w')∧zbW P gd ops n S isB pl (putS σ o.dst v) w' K) else zbW P gd ops n S isB pl (putS σ o.dst undef) w K
 |Option.none=>False
theorem drawV_q:zbW P gd ops n S isB ((i,true)::pl) σ w K=drawQ P gd ops n S isB pl σ w K (nthO ops i):=by
 unfold drawQ;rw[zbW];cases nthO ops i<;>rfl
theorem drawV_a:zbW P gd ops n S isB ((i,false)::pl) σ w K=drawA P gd ops n S isB (isB i) pl σ w K (nthO ops i):=by
 unfold drawA;rw[zbW];cases nthO ops i<;>rfl
variable {d : Option Tmp} {op : Op} {ty : TypeId} {ps : String} {af : Array Edge}
theorem zkZ:drawQ P gd ops n S isB pl σ w K (some ⟨d,op,ty,ps,af,Option.none⟩)=quV P S ⟨d,op,ty,ps,af,Option.none⟩ (ev n σ) w (fun v=>zbW P gd ops n S isB pl (putS σ d v) w K):=nr rfl
theorem zk0{b:Bool}:drawA P gd ops n S isB b pl σ w K (some ⟨d,op,ty,ps,af,Option.none⟩)=
 opV P ⟨d,op,ty,ps,af,Option.none⟩ (ev n σ) w (fun v w'=>(b=true∨Keep S w w')∧zbW P gd ops n S isB pl (putS σ d v) w' K):=nr rfl
theorem zjg{j:Nat}{c:Bool}:drawQ P gd ops n S isB pl σ w K (some ⟨d,op,ty,ps,af,some (j,c)⟩)=
 iteL (zaE gd n σ (some (j,c))) (quV P S ⟨d,op,ty,ps,af,some (j,c)⟩ (ev n σ) w (fun v=>zbW P gd ops n S isB pl (putS σ d v) w K)) (zbW P gd ops n S isB pl (putS σ d undef) w K) .mk:=nr rfl
theorem zjh{b:Bool}{j:Nat}{c:Bool}:drawA P gd ops n S isB b pl σ w K (some ⟨d,op,ty,ps,af,some (j,c)⟩)=
 iteL (zaE gd n σ (some (j,c))) (opV P ⟨d,op,ty,ps,af,some (j,c)⟩ (ev n σ) w (fun v w'=>(b=true∨Keep S w w')∧zbW P gd ops n S isB pl (putS σ d v) w' K))
  (zbW P gd ops n S isB pl (putS σ d undef) w K) .mk:=nr rfl
theorem zmf{o:Oper}{l:List Oper}:nthO (o::l) 0=some o:=nr rfl
theorem zmg{o:Oper}{l:List Oper}{i:Nat}:nthO (o::l) (i+1)=nthO l i:=nr rfl
variable {ρ : Operand → Value} {k : Value → Prop} {g : Option (Nat × Bool)}
theorem q_move(x:Operand):quV P S ⟨d,.move x,ty,ps,af,g⟩ ρ w k=okL (some (ρ x)) k .mk:=nr rfl
theorem q_assign(x:Operand):quV P S ⟨d,.assign x,ty,ps,af,g⟩ ρ w k=okL (some (ρ x)) k .mk:=nr rfl
theorem q_pick(c a b:Operand):quV P S ⟨d,.pick c a b,ty,ps,af,g⟩ ρ w k=okL (pickV (ρ c) (ρ a) (ρ b)) k .mk:=by
 unfold quV;dsimp only;cases ρ c<;>rfl
theorem q_bin(op:BinOp)(t:TypeId)(x y:Operand)(yt:TypeId):quV P S ⟨d,.binOp op t x y yt,ty,ps,af,g⟩ ρ w k=okL (binV P op t (ρ x) (ρ y)) k .mk:=nr rfl
theorem q_un(op:UnOp)(t:TypeId)(x:Operand):quV P S ⟨d,.unOp op t x,ty,ps,af,g⟩ ρ w k=okL (unV op (ρ x)) k .mk:=nr rfl
def offV(S:Nat→Prop):Value→Prop| .pointer p=>offS S p|_=>False
theorem q_load(t:TypeId)(x:Operand):quV P S ⟨d,.load t x,ty,ps,af,g⟩ ρ w k=(offV S (ρ x)∧okL (ldVal P w t (ρ x)) k .mk):=by
 unfold quV offV ldVal okL;dsimp only;cases ρ x<;>simp[okV]
theorem offV_ptr(p:Option Addr):offV S (.pointer p)=offS S p:=nr rfl
theorem q_ixA(t:TypeId)(x i:Operand):quV P S ⟨d,.indexAddr t x i,ty,ps,af,g⟩ ρ w k=okL (ixA P t (ρ x) (ρ i)) k .mk:=nr rfl
theorem q_ix(t:TypeId)(x i:Operand):quV P S ⟨d,.index t x i,ty,ps,af,g⟩ ρ w k=okL (ixS P t (ρ x) (ρ i)) k .mk:=nr rfl
theorem q_slice(t:TypeId)(x:Operand)(lo hi mx:Option Operand):quV P S ⟨d,.slice t x lo hi mx,ty,ps,af,g⟩ ρ w k=okL (slV P t (ρ x) (lo.map ρ) (hi.map ρ) (mx.map ρ)) k .mk:=nr rfl
theorem q_ext(x:Operand)(i:Nat):quV P S ⟨d,.extract x i,ty,ps,af,g⟩ ρ w k=okL (exV i (ρ x)) k .mk:=nr rfl
theorem q_conv(s t:TypeId)(x:Operand):quV P S ⟨d,.convert s t x,ty,ps,af,g⟩ ρ w k=okL (cvV P s t (ρ x)) k .mk:=nr rfl
theorem q_field(s:TypeId)(x:Operand)(f:Nat):quV P S ⟨d,.fieldAddr s x f,ty,ps,af,g⟩ ρ w k=okL (fdA P s (ρ x) f) k .mk:=nr rfl
theorem q_nc(x:Operand):quV P S ⟨d,.nilCheck x,ty,ps,af,g⟩ ρ w k↔okL (ncV (ρ x)) k .mk:=by
 unfold quV okL okV ncV;dsimp only
 cases ρ x<;>first|exact Iff.rfl| (rename_i p;cases p<;>simp)
theorem q_func(fn:Go.Fn)(f c:Array Operand):quV P S ⟨d,.makeFunc fn f c,ty,ps,af,g⟩ ρ w k=okL (some (.func fn (f.map ρ) (c.map ρ))) k .mk:=nr rfl
theorem q_len(x:Operand)(t:TypeId):quV P S ⟨d,.call ⟨.builtin .len,#[x],#[t]⟩,ty,ps,af,g⟩ ρ w k=okL (lenV P t (ρ x)) k .mk:=nr rfl
theorem q_build(t:TypeId)(parts:Array (Nat×Operand)):quV P S ⟨d,.build t parts,ty,ps,af,g⟩ ρ w k=
  (zbD P t=true∧okL (bdV P t (parts.toList.map fun p=>(p.1,ρ p.2))) k .mk):=nr rfl
theorem q_look(t:TypeId)(m key:Operand)(ok:Bool):quV P S ⟨d,.lookup t m key ok,ty,ps,af,g⟩ ρ w k=
  ((∀r,ρ m= .map (some r)→¬S r)∧okL (lkV P w t (ρ m) (ρ key) ok) k .mk):=nr rfl
end
theorem zmI(v:Value)(l:List Value):getL (v::l) 0=v:=nr rfl
theorem zmJ(v:Value)(l:List Value)(i:Nat):getL (v::l) (i+1)=getL l i:=nr rfl
theorem zkE(t:Bool)(a b:Value):pickV (.bool t) a b=some (bif t then a else b):=nr rfl
theorem m1{α β:Type}(f:α→β)(a:α):(some a).map f=some (f a):=nr rfl
theorem m2{α β:Type}(f:α→β):(Option.none:Option α).map f=Option.none:=nr rfl
theorem m3{α:Type}(a:α):(some a).isSome=true:=nr rfl
theorem m4{α β:Type}(f:α→β)(l:List α):l.toArray.map f=(l.map f).toArray:=by simp
theorem m5{α β:Type}(f:α→β)(a:α)(l:List α):(a::l).map f=f a::l.map f:=nr rfl
theorem m6{α β:Type}(f:α→β):([]:List α).map f=[]:=nr rfl
theorem m7{α:Type}(l:List α):[]++l=l:=nr rfl
theorem m8{α:Type}(l:List α):l++ []=l:=by simp
theorem m9{α:Type}(l m:List α):l.toArray++m.toArray=(l++m).toArray:=by simp
theorem m10{α:Type}(a:α)(l m:List α):(a::l)++m=a::(l++m):=nr rfl
theorem m11{α:Type}(a b:α):(bif true then a else b)=a:=nr rfl
theorem m12{α:Type}(a b:α):(bif false then a else b)=b:=nr rfl
theorem m13{α:Type}(a:α)(l:List α):(a::l)[0]? =some a:=nr rfl
theorem m14{α:Type}(a:α)(l:List α)(i:Nat):(a::l)[i+1]? =l[i]?:=by simp
attribute [go_sem ↓] putS_at putS_no v_alloc v_nc zl3  opsV_nil zkF zmS v_move v_assign v_pick v_bin v_un v_load v_ixA v_ix v_slice v_ext v_conv v_field v_func v_call v_len v_store v_box v_bs v_build v_map v_append v_copy v_mkS v_mapU v_look v_range v_next ev_const ev_tmp ev_func upd_at drawV_q drawV_a zkZ zk0 zjg zjh q_move q_assign q_pick q_bin q_un q_load q_ixA q_ix q_slice q_ext q_conv q_field q_nc q_func q_len q_build q_look
theorem m15(n:Nat):0+n=n:=by omega
attribute [go_sem] callQ_t callQ_f b_shr1 zfd wrap_u32 fdiv_two bq1 bq2 bq3 bq4 zh1 okL_some iteL_t iteL_f ncV_pt ncV_some Option.isNone_some Option.isNone_none Option.isSome_some Bool.not_true Bool.not_false bi1 bi2 bi3 bi4 m16 i_slice1 i_array1 zaZ m15 zl2  okV_some  zlX  zlY  zlD  zmI  zmJ  zkE  b_add  b_sub  b_mul  b_lss  b_leq  b_gtr  b_geq  b_eql  b_neq  b_seql  b_sneq  b_slss  b_sgtr  b_sadd  b_bool  b_beql  b_bneq  b_ptr  b_peql  b_pneq  u_not  u_neg  l_D  l_slice  l_str  i_D  zmA  i_array  i_SD  zkN  s_D  s_str  s_strl  s_strh  s_sl  s_sll  s_slh  c_D  c_int  zmp  ldP_X  ldX_one  ldX_agg  ex_tuple  zd5  wrap_u8  zk5  zk9  zeY  offV_ptr  offS_no  zmf zmg m1  m2  m3  m4  m5  m6  m7  m8  m9  m10  m11  m12  m13  m14  Int.toNat_natCast  Nat.mul_one  true_and and_true
attribute [go_sem] Nat.reduceLT Nat.reduceEqDiff Nat.reduceSub
attribute [go_sem ↓] reduceIte
/-! the short rules:their last arguments are found by simp -/
section
variable {α : Type} {a b : α}
theorem vq0(h:a=b:=by simp only[go_sem]):a=b:=h 
theorem vq1{P1:Prop}(p1:P1)(h:P1→a=b:=by intro h1;simp only[go_sem,h1]):a=b:=h p1
theorem vq2{P1:Prop}{P2:Prop}(p1:P1)(p2:P2)(h:P1→P2→a=b:=by intro h1 h2;simp only[go_sem,h1,h2]):a=b:=h p1 p2
theorem vr0(h:a=b:=by first| (simp only[go_sem];done)| (simp only[go_sem];rfl)):a=b:=h 
theorem vr1{P1:Prop}(p1:P1)(h:P1→a=b:=by intro h1;first| (simp only[go_sem,h1];done)| (simp only[go_sem,h1];rfl)):a=b:=h p1
end
section
variable {P : Program} {r : Option Nat} {n : Nat} {Q : Post} {σ : Sto} {ds : List Deferred} {w : World}
theorem rg0{id:Nat}{ops:Array Oper}{σ1:Sto}{w1:World}(h:Q .normal σ1 ds w1)(hs:∀(gd:Nat→Option Tmp) (K:Sto→World→Prop),gd=dstL ops.toList→(opsV P gd n ops.toList σ w K=K σ1 w1):=by intro gd K hgd;(simp (disch:=first|omega|assumption|rfl) only[go_sem])<;>exact rfl)(hd:zbd ops=true:=by rfl):
  W P r n (.region id ops false) Q σ ds w:=zd4 hd fun gd K hgd hK=>(hs gd K hgd).mpr (hK _ _ h)
theorem rg1{P1:Prop}{id:Nat}{ops:Array Oper}{σ1:Sto}{w1:World}(p1:P1)(h:Q .normal σ1 ds w1)(hs:P1→∀(gd:Nat→Option Tmp) (K:Sto→World→Prop),gd=dstL ops.toList→(opsV P gd n ops.toList σ w K=K σ1 w1):=by intro h1 gd K hgd;(simp (disch:=first|omega|assumption|rfl) only[go_sem,h1])<;>exact rfl)(hd:zbd ops=true:=by rfl):
  W P r n (.region id ops false) Q σ ds w:=zd4 hd fun gd K hgd hK=>(hs p1 gd K hgd).mpr (hK _ _ h)
theorem rg2{P1:Prop}{P2:Prop}{id:Nat}{ops:Array Oper}{σ1:Sto}{w1:World}(p1:P1)(p2:P2)(h:Q .normal σ1 ds w1)(hs:P1→P2→∀(gd:Nat→Option Tmp) (K:Sto→World→Prop),gd=dstL ops.toList→(opsV P gd n ops.toList σ w K=K σ1 w1):=by intro h1 h2 gd K hgd;(simp (disch:=first|omega|assumption|rfl) only[go_sem,h1,h2])<;>exact rfl)(hd:zbd ops=true:=by rfl):
  W P r n (.region id ops false) Q σ ds w:=zd4 hd fun gd K hgd hK=>(hs p1 p2 gd K hgd).mpr (hK _ _ h)
theorem rg3{P1:Prop}{P2:Prop}{P3:Prop}{id:Nat}{ops:Array Oper}{σ1:Sto}{w1:World}(p1:P1)(p2:P2)(p3:P3)(h:Q .normal σ1 ds w1)(hs:P1→P2→P3→∀(gd:Nat→Option Tmp) (K:Sto→World→Prop),gd=dstL ops.toList→(opsV P gd n ops.toList σ w K=K σ1 w1):=by intro h1 h2 h3 gd K hgd;(simp (disch:=first|omega|assumption|rfl) only[go_sem,h1,h2,h3])<;>exact rfl)(hd:zbd ops=true:=by rfl):
  W P r n (.region id ops false) Q σ ds w:=zd4 hd fun gd K hgd hK=>(hs p1 p2 p3 gd K hgd).mpr (hK _ _ h)
theorem rg4{P1:Prop}{P2:Prop}{P3:Prop}{P4:Prop}{id:Nat}{ops:Array Oper}{σ1:Sto}{w1:World}(p1:P1)(p2:P2)(p3:P3)(p4:P4)(h:Q .normal σ1 ds w1)(hs:P1→P2→P3→P4→∀(gd:Nat→Option Tmp) (K:Sto→World→Prop),gd=dstL ops.toList→(opsV P gd n ops.toList σ w K=K σ1 w1):=by intro h1 h2 h3 h4 gd K hgd;(simp (disch:=first|omega|assumption|rfl) only[go_sem,h1,h2,h3,h4])<;>exact rfl)(hd:zbd ops=true:=by rfl):
  W P r n (.region id ops false) Q σ ds w:=zd4 hd fun gd K hgd hK=>(hs p1 p2 p3 p4 gd K hgd).mpr (hK _ _ h)
theorem rg5{P1:Prop}{P2:Prop}{P3:Prop}{P4:Prop}{P5:Prop}{id:Nat}{ops:Array Oper}{σ1:Sto}{w1:World}(p1:P1)(p2:P2)(p3:P3)(p4:P4)(p5:P5)(h:Q .normal σ1 ds w1)(hs:P1→P2→P3→P4→P5→∀(gd:Nat→Option Tmp) (K:Sto→World→Prop),gd=dstL ops.toList→(opsV P gd n ops.toList σ w K=K σ1 w1):=by intro h1 h2 h3 h4 h5 gd K hgd;(simp (disch:=first|omega|assumption|rfl) only[go_sem,h1,h2,h3,h4,h5])<;>exact rfl)(hd:zbd ops=true:=by rfl):
  W P r n (.region id ops false) Q σ ds w:=zd4 hd fun gd K hgd hK=>(hs p1 p2 p3 p4 p5 gd K hgd).mpr (hK _ _ h)
theorem rg7{P1:Prop}{P2:Prop}{P3:Prop}{P4:Prop}{P5:Prop}{P6:Prop}{P7:Prop}{id:Nat}{ops:Array Oper}{σ1:Sto}{w1:World}(p1:P1)(p2:P2)(p3:P3)(p4:P4)(p5:P5)(p6:P6)(p7:P7)(h:Q .normal σ1 ds w1)(hs:P1→P2→P3→P4→P5→P6→P7→∀(gd:Nat→Option Tmp) (K:Sto→World→Prop),gd=dstL ops.toList→(opsV P gd n ops.toList σ w K=K σ1 w1):=by intro h1 h2 h3 h4 h5 h6 h7 gd K hgd;(simp (disch:=first|omega|assumption|rfl) only[go_sem,h1,h2,h3,h4,h5,h6,h7])<;>exact rfl)(hd:zbd ops=true:=by rfl):
  W P r n (.region id ops false) Q σ ds w:=zd4 hd fun gd K hgd hK=>(hs p1 p2 p3 p4 p5 p6 p7 gd K hgd).mpr (hK _ _ h)
theorem rq{id:Nat}{ops:Array Oper}(h:∀(gd:Nat→Option Tmp) (K:Sto→World→Prop),gd=dstL ops.toList→(∀σ' w',Q .normal σ' ds w'→K σ' w')→opsV P gd n ops.toList σ w K)(hd:zbd ops=true:=by rfl):
  W P r n (.region id ops false) Q σ ds w:=zd4 hd h
theorem wc0{c:Operand}{x y:Code}{t:Bool}(ht:t=true→W P r n x Q σ ds w)(hf:t=false→W P r n y Q σ ds w)(hc:ev n σ c= .bool t:=by simp only[go_sem];rfl):W P r n (.cond c x y) Q σ ds w:=zbK (hc) ht hf
theorem rt0{fn:Func}{R:Value→World→Prop}{e:Exit}{t:Tmp}{m:Nat}{v:Value}(hm:fn.ntmps=m)(h:R v w)(hl:fn.results.toList=[.tmp t]:=by exact rfl)(hv:ev m σ (.tmp t)=v:=by simp only[go_sem];rfl)(he:e= .normal∨e= .ret:=by simp):retQ P fn R e σ [] w:=zlQ he hl hm (hv) h
theorem rt1{P1:Prop}{fn:Func}{R:Value→World→Prop}{e:Exit}{t:Tmp}{m:Nat}{v:Value}(p1:P1)(hm:fn.ntmps=m)(h:R v w)(hl:fn.results.toList=[.tmp t]:=by exact rfl)(hv:P1→ev m σ (.tmp t)=v:=by intro h1;simp only[go_sem,h1];rfl)(he:e= .normal∨e= .ret:=by simp):retQ P fn R e σ [] w:=zlQ he hl hm (hv p1) h
end
end Go.Proofs.YtkpdfhbpdkifoaaGreatDoor
namespace Go.Proofs.YtkpdfhbpdkifoaaGreatDoor
open Go
set_option maxRecDepth 100000
theorem tyUs:(tyU Tryz.prog 2=some (.int (IntKind.i64)))∧
 (tyU Tryz.prog 3=some (.int (IntKind.i64)))∧
 (tyU Tryz.prog 4=some (.bool))∧
 (tyU Tryz.prog 5=some (.int (IntKind.u8)))∧
 (tyU Tryz.prog 9=some (.string))∧
 (tyU Tryz.prog 21=some (.int (IntKind.i32)))∧
 (tyU Tryz.prog 22=some (.slice 49))∧
 (tyU Tryz.prog 23=some (.slice 9))∧
 (tyU Tryz.prog 24=some (.slice 9))∧
 (tyU Tryz.prog 29=some (.pointer 116))∧
 (tyU Tryz.prog 34=some (.slice 33))∧
 (tyU Tryz.prog 38=some (.slice 57))∧
 (tyU Tryz.prog 42=some (.int (IntKind.u32)))∧
 (tyU Tryz.prog 43=some (.slice 5))∧
 (tyU Tryz.prog 44=some (.slice 24))∧
 (tyU Tryz.prog 45=some (.slice 42))∧
 (tyU Tryz.prog 53=some (.slice 23))∧
 (tyU Tryz.prog 61=some (.pointer 63))∧
 (tyU Tryz.prog 71=some (.int (IntKind.u64)))∧
 (tyU Tryz.prog 80=some (.pointer 88))∧
 (tyU Tryz.prog 104=some (.map 42 3))∧
 (tyU Tryz.prog 109=some (.slice 149))∧
 (tyU Tryz.prog 112=some (.pointer 5))∧
 (tyU Tryz.prog 114=some (.int (IntKind.i64)))∧
 (tyU Tryz.prog 117=some (.slice 122))∧
 (tyU Tryz.prog 120=some (.slice 164))∧
 (tyU Tryz.prog 143=some (.array 24 5))∧
 (tyU Tryz.prog 155=some (.pointer 158))∧
 (tyU Tryz.prog 156=some (.slice 3))∧
 (tyU Tryz.prog 179=some (.array 20 71))∧
 (tyU Tryz.prog 180=some (.array 65 5))∧
 (tyU Tryz.prog 181=some (.int (IntKind.u64)))∧
 (tyU Tryz.prog 230=some (.array 32 5))∧
 (tyU Tryz.prog 231=some (.array 64 5))∧
 (tyU Tryz.prog 239=some (.array 3 3))∧
 (tyU Tryz.prog 245=some (.array 256 4))∧
 (tyU Tryz.prog 249=some (.pointer 245))∧
 (tyU Tryz.prog 254=some (.slice 274))∧
 (tyU Tryz.prog 257=some (.pointer 259))∧
 (tyU Tryz.prog 312=some (.array 256 5))∧
 (tyU Tryz.prog 315=some (.array 16 314))∧
 (tyU Tryz.prog 324=some (.slice 334))∧
 (tyU Tryz.prog 328=some (.pointer 334))∧
 (tyU Tryz.prog 332=some (.array 3 21)):=by
 and_intros
 all_goals rfl
theorem tySs:(tyS Tryz.prog 2=1)∧
 (tyS Tryz.prog 3=1)∧
 (tyS Tryz.prog 4=1)∧
 (tyS Tryz.prog 5=1)∧
 (tyS Tryz.prog 9=1)∧
 (tyS Tryz.prog 21=1)∧
 (tyS Tryz.prog 22=1)∧
 (tyS Tryz.prog 23=1)∧
 (tyS Tryz.prog 24=1)∧
 (tyS Tryz.prog 29=1)∧
 (tyS Tryz.prog 33=2)∧
 (tyS Tryz.prog 34=1)∧
 (tyS Tryz.prog 38=1)∧
 (tyS Tryz.prog 42=1)∧
 (tyS Tryz.prog 43=1)∧
 (tyS Tryz.prog 44=1)∧
 (tyS Tryz.prog 45=1)∧
 (tyS Tryz.prog 47=5)∧
 (tyS Tryz.prog 49=7)∧
 (tyS Tryz.prog 53=1)∧
 (tyS Tryz.prog 55=5)∧
 (tyS Tryz.prog 57=7)∧
 (tyS Tryz.prog 61=1)∧
 (tyS Tryz.prog 63=2)∧
 (tyS Tryz.prog 65=1)∧
 (tyS Tryz.prog 69=1)∧
 (tyS Tryz.prog 71=1)∧
 (tyS Tryz.prog 72=1)∧
 (tyS Tryz.prog 80=1)∧
 (tyS Tryz.prog 82=2)∧
 (tyS Tryz.prog 84=2)∧
 (tyS Tryz.prog 86=9)∧
 (tyS Tryz.prog 88=13)∧
 (tyS Tryz.prog 91=1)∧
 (tyS Tryz.prog 93=1)∧
 (tyS Tryz.prog 94=1)∧
 (tyS Tryz.prog 104=1)∧
 (tyS Tryz.prog 109=1)∧
 (tyS Tryz.prog 112=1)∧
 (tyS Tryz.prog 114=1)∧
 (tyS Tryz.prog 116=3)∧
 (tyS Tryz.prog 117=1)∧
 (tyS Tryz.prog 120=1)∧
 (tyS Tryz.prog 122=3)∧
 (tyS Tryz.prog 126=1)∧
 (tyS Tryz.prog 132=1)∧
 (tyS Tryz.prog 141=1)∧
 (tyS Tryz.prog 143=24)∧
 (tyS Tryz.prog 149=2)∧
 (tyS Tryz.prog 154=1)∧
 (tyS Tryz.prog 155=1)∧
 (tyS Tryz.prog 156=1)∧
 (tyS Tryz.prog 158=7)∧
 (tyS Tryz.prog 164=2)∧
 (tyS Tryz.prog 169=1)∧
 (tyS Tryz.prog 172=1)∧
 (tyS Tryz.prog 179=20)∧
 (tyS Tryz.prog 180=65)∧
 (tyS Tryz.prog 181=1)∧
 (tyS Tryz.prog 213=3)∧
 (tyS Tryz.prog 230=32)∧
 (tyS Tryz.prog 231=64)∧
 (tyS Tryz.prog 233=1)∧
 (tyS Tryz.prog 239=3)∧
 (tyS Tryz.prog 245=256)∧
 (tyS Tryz.prog 249=1)∧
 (tyS Tryz.prog 254=1)∧
 (tyS Tryz.prog 257=1)∧
 (tyS Tryz.prog 259=3)∧
 (tyS Tryz.prog 274=2)∧
 (tyS Tryz.prog 276=4)∧
 (tyS Tryz.prog 291=1)∧
 (tyS Tryz.prog 298=1)∧
 (tyS Tryz.prog 312=256)∧
 (tyS Tryz.prog 314=2)∧
 (tyS Tryz.prog 315=32)∧
 (tyS Tryz.prog 318=3)∧
 (tyS Tryz.prog 324=1)∧
 (tyS Tryz.prog 327=1)∧
 (tyS Tryz.prog 328=1)∧
 (tyS Tryz.prog 332=3)∧
 (tyS Tryz.prog 334=5):=by
 and_intros
 all_goals rfl
theorem tyAs:(tyA Tryz.prog 2=false)∧
 (tyA Tryz.prog 3=false)∧
 (tyA Tryz.prog 4=false)∧
 (tyA Tryz.prog 5=false)∧
 (tyA Tryz.prog 9=false)∧
 (tyA Tryz.prog 21=false)∧
 (tyA Tryz.prog 22=false)∧
 (tyA Tryz.prog 23=false)∧
 (tyA Tryz.prog 24=false)∧
 (tyA Tryz.prog 29=false)∧
 (tyA Tryz.prog 33=true)∧
 (tyA Tryz.prog 34=false)∧
 (tyA Tryz.prog 38=false)∧
 (tyA Tryz.prog 42=false)∧
 (tyA Tryz.prog 43=false)∧
 (tyA Tryz.prog 44=false)∧
 (tyA Tryz.prog 45=false)∧
 (tyA Tryz.prog 47=true)∧
 (tyA Tryz.prog 49=true)∧
 (tyA Tryz.prog 53=false)∧
 (tyA Tryz.prog 55=true)∧
 (tyA Tryz.prog 57=true)∧
 (tyA Tryz.prog 61=false)∧
 (tyA Tryz.prog 63=true)∧
 (tyA Tryz.prog 65=false)∧
 (tyA Tryz.prog 69=false)∧
 (tyA Tryz.prog 71=false)∧
 (tyA Tryz.prog 72=false)∧
 (tyA Tryz.prog 80=false)∧
 (tyA Tryz.prog 82=true)∧
 (tyA Tryz.prog 84=true)∧
 (tyA Tryz.prog 86=true)∧
 (tyA Tryz.prog 88=true)∧
 (tyA Tryz.prog 91=false)∧
 (tyA Tryz.prog 93=false)∧
 (tyA Tryz.prog 94=false)∧
 (tyA Tryz.prog 104=false)∧
 (tyA Tryz.prog 109=false)∧
 (tyA Tryz.prog 112=false)∧
 (tyA Tryz.prog 114=false)∧
 (tyA Tryz.prog 116=true)∧
 (tyA Tryz.prog 117=false)∧
 (tyA Tryz.prog 120=false)∧
 (tyA Tryz.prog 122=true)∧
 (tyA Tryz.prog 126=false)∧
 (tyA Tryz.prog 132=false)∧
 (tyA Tryz.prog 141=false)∧
 (tyA Tryz.prog 143=true)∧
 (tyA Tryz.prog 149=true)∧
 (tyA Tryz.prog 154=false)∧
 (tyA Tryz.prog 155=false)∧
 (tyA Tryz.prog 156=false)∧
 (tyA Tryz.prog 158=true)∧
 (tyA Tryz.prog 164=true)∧
 (tyA Tryz.prog 169=false)∧
 (tyA Tryz.prog 172=false)∧
 (tyA Tryz.prog 179=true)∧
 (tyA Tryz.prog 180=true)∧
 (tyA Tryz.prog 181=false)∧
 (tyA Tryz.prog 213=true)∧
 (tyA Tryz.prog 230=true)∧
 (tyA Tryz.prog 231=true)∧
 (tyA Tryz.prog 233=false)∧
 (tyA Tryz.prog 239=true)∧
 (tyA Tryz.prog 245=true)∧
 (tyA Tryz.prog 249=false)∧
 (tyA Tryz.prog 254=false)∧
 (tyA Tryz.prog 257=false)∧
 (tyA Tryz.prog 259=true)∧
 (tyA Tryz.prog 274=true)∧
 (tyA Tryz.prog 276=true)∧
 (tyA Tryz.prog 291=false)∧
 (tyA Tryz.prog 298=false)∧
 (tyA Tryz.prog 312=true)∧
 (tyA Tryz.prog 314=true)∧
 (tyA Tryz.prog 315=true)∧
 (tyA Tryz.prog 318=true)∧
 (tyA Tryz.prog 324=false)∧
 (tyA Tryz.prog 327=true)∧
 (tyA Tryz.prog 328=false)∧
 (tyA Tryz.prog 332=true)∧
 (tyA Tryz.prog 334=true):=by
 and_intros
 all_goals rfl
theorem tyNs:((tyU Tryz.prog 33).isSome=true)∧
 ((tyU Tryz.prog 47).isSome=true)∧
 ((tyU Tryz.prog 49).isSome=true)∧
 ((tyU Tryz.prog 55).isSome=true)∧
 ((tyU Tryz.prog 57).isSome=true)∧
 ((tyU Tryz.prog 63).isSome=true)∧
 ((tyU Tryz.prog 65).isSome=true)∧
 ((tyU Tryz.prog 69).isSome=true)∧
 ((tyU Tryz.prog 72).isSome=true)∧
 ((tyU Tryz.prog 82).isSome=true)∧
 ((tyU Tryz.prog 84).isSome=true)∧
 ((tyU Tryz.prog 86).isSome=true)∧
 ((tyU Tryz.prog 88).isSome=true)∧
 ((tyU Tryz.prog 91).isSome=true)∧
 ((tyU Tryz.prog 93).isSome=true)∧
 ((tyU Tryz.prog 94).isSome=true)∧
 ((tyU Tryz.prog 116).isSome=true)∧
 ((tyU Tryz.prog 122).isSome=true)∧
 ((tyU Tryz.prog 126).isSome=true)∧
 ((tyU Tryz.prog 132).isSome=true)∧
 ((tyU Tryz.prog 141).isSome=true)∧
 ((tyU Tryz.prog 149).isSome=true)∧
 ((tyU Tryz.prog 154).isSome=true)∧
 ((tyU Tryz.prog 158).isSome=true)∧
 ((tyU Tryz.prog 164).isSome=true)∧
 ((tyU Tryz.prog 169).isSome=true)∧
 ((tyU Tryz.prog 172).isSome=true)∧
 ((tyU Tryz.prog 213).isSome=true)∧
 ((tyU Tryz.prog 233).isSome=true)∧
 ((tyU Tryz.prog 259).isSome=true)∧
 ((tyU Tryz.prog 274).isSome=true)∧
 ((tyU Tryz.prog 276).isSome=true)∧
 ((tyU Tryz.prog 291).isSome=true)∧
 ((tyU Tryz.prog 298).isSome=true)∧
 ((tyU Tryz.prog 314).isSome=true)∧
 ((tyU Tryz.prog 318).isSome=true)∧
 ((tyU Tryz.prog 327).isSome=true)∧
 ((tyU Tryz.prog 334).isSome=true):=by
 and_intros
 all_goals rfl
theorem tyZs:(tyZ Tryz.prog 2=some (.int .i64 0))∧
 (tyZ Tryz.prog 3=some (.int .i64 0))∧
 (tyZ Tryz.prog 4=some (.bool false))∧
 (tyZ Tryz.prog 5=some (.int .u8 0))∧
 (tyZ Tryz.prog 9=some (vs []))∧
 (tyZ Tryz.prog 21=some (.int .i32 0))∧
 (tyZ Tryz.prog 22=some (.slice Option.none 0 0))∧
 (tyZ Tryz.prog 23=some (.slice Option.none 0 0))∧
 (tyZ Tryz.prog 24=some (.slice Option.none 0 0))∧
 (tyZ Tryz.prog 29=some (.pointer Option.none))∧
 (tyZ Tryz.prog 33=some (.agg #[vs [],vs []]))∧
 (tyZ Tryz.prog 34=some (.slice Option.none 0 0))∧
 (tyZ Tryz.prog 38=some (.slice Option.none 0 0))∧
 (tyZ Tryz.prog 42=some (.int .u32 0))∧
 (tyZ Tryz.prog 43=some (.slice Option.none 0 0))∧
 (tyZ Tryz.prog 44=some (.slice Option.none 0 0))∧
 (tyZ Tryz.prog 45=some (.slice Option.none 0 0))∧
 (tyZ Tryz.prog 47=some (.agg #[.int .i64 0,.slice Option.none 0 0,.slice Option.none 0 0,.slice Option.none 0 0,.slice Option.none 0 0]))∧
 (tyZ Tryz.prog 49=some (.agg #[.slice Option.none 0 0,.int .u32 0,.int .i64 0,.slice Option.none 0 0,.slice Option.none 0 0,.slice Option.none 0 0,.slice Option.none 0 0]))∧
 (tyZ Tryz.prog 53=some (.slice Option.none 0 0))∧
 (tyZ Tryz.prog 55=some (.agg #[.int .i64 0,.slice Option.none 0 0,.slice Option.none 0 0,.slice Option.none 0 0,.slice Option.none 0 0]))∧
 (tyZ Tryz.prog 57=some (.agg #[.slice Option.none 0 0,.int .u32 0,.int .i64 0,.slice Option.none 0 0,.slice Option.none 0 0,.slice Option.none 0 0,.slice Option.none 0 0]))∧
 (tyZ Tryz.prog 61=some (.pointer Option.none))∧
 (tyZ Tryz.prog 63=some (.agg #[.pointer Option.none,.slice Option.none 0 0]))∧
 (tyZ Tryz.prog 65=some (.nilIface))∧
 (tyZ Tryz.prog 69=some (.nilFunc))∧
 (tyZ Tryz.prog 71=some (.int .u64 0))∧
 (tyZ Tryz.prog 72=some (.nilFunc))∧
 (tyZ Tryz.prog 80=some (.pointer Option.none))∧
 (tyZ Tryz.prog 82=some (.agg #[.slice Option.none 0 0,.bool false]))∧
 (tyZ Tryz.prog 84=some (.agg #[.int .u32 0,.bool false]))∧
 (tyZ Tryz.prog 86=some (.agg #[vs [],.int .i64 0,.slice Option.none 0 0,.slice Option.none 0 0,.bool false,.int .u32 0,.bool false,.int .u32 0,.bool false]))∧
 (tyZ Tryz.prog 88=some (.agg #[.slice Option.none 0 0,.slice Option.none 0 0,.slice Option.none 0 0,.int .i64 0,vs [],.int .i64 0,.slice Option.none 0 0,.slice Option.none 0 0,.bool false,.int .u32 0,.bool false,.int .u32 0,.bool false]))∧
 (tyZ Tryz.prog 91=some (.nilFunc))∧
 (tyZ Tryz.prog 93=some (.nilFunc))∧
 (tyZ Tryz.prog 94=some (.nilFunc))∧
 (tyZ Tryz.prog 104=some (.map Option.none))∧
 (tyZ Tryz.prog 109=some (.slice Option.none 0 0))∧
 (tyZ Tryz.prog 112=some (.pointer Option.none))∧
 (tyZ Tryz.prog 114=some (.int .i64 0))∧
 (tyZ Tryz.prog 116=some (.agg #[vs [],.int .i64 0,.int .i64 0]))∧
 (tyZ Tryz.prog 117=some (.slice Option.none 0 0))∧
 (tyZ Tryz.prog 120=some (.slice Option.none 0 0))∧
 (tyZ Tryz.prog 122=some (.agg #[.int .i64 0,.bool false,.slice Option.none 0 0]))∧
 (tyZ Tryz.prog 126=some (.nilFunc))∧
 (tyZ Tryz.prog 132=some (.nilFunc))∧
 (tyZ Tryz.prog 141=some (.pointer Option.none))∧
 (tyZ Tryz.prog 143=some (.agg #[.int .u8 0,.int .u8 0,.int .u8 0,.int .u8 0,.int .u8 0,.int .u8 0,.int .u8 0,.int .u8 0,.int .u8 0,.int .u8 0,.int .u8 0,.int .u8 0,.int .u8 0,.int .u8 0,.int .u8 0,.int .u8 0,.int .u8 0,.int .u8 0,.int .u8 0,.int .u8 0,.int .u8 0,.int .u8 0,.int .u8 0,.int .u8 0]))∧
 (tyZ Tryz.prog 149=some (.agg #[.int .i64 0,vs []]))∧
 (tyZ Tryz.prog 154=some (.nilFunc))∧
 (tyZ Tryz.prog 155=some (.pointer Option.none))∧
 (tyZ Tryz.prog 156=some (.slice Option.none 0 0))∧
 (tyZ Tryz.prog 158=some (.agg #[.slice Option.none 0 0,.int .i64 0,.bool false,.slice Option.none 0 0,.int .i64 0,.bool false,.slice Option.none 0 0]))∧
 (tyZ Tryz.prog 164=some (.agg #[vs [],.bool false]))∧
 (tyZ Tryz.prog 169=some (.nilFunc))∧
 (tyZ Tryz.prog 172=some (.nilFunc))∧
 (tyZ Tryz.prog 179=some (.agg #[.int .u64 0,.int .u64 0,.int .u64 0,.int .u64 0,.int .u64 0,.int .u64 0,.int .u64 0,.int .u64 0,.int .u64 0,.int .u64 0,.int .u64 0,.int .u64 0,.int .u64 0,.int .u64 0,.int .u64 0,.int .u64 0,.int .u64 0,.int .u64 0,.int .u64 0,.int .u64 0]))∧
 (tyZ Tryz.prog 180=some (.agg #[.int .u8 0,.int .u8 0,.int .u8 0,.int .u8 0,.int .u8 0,.int .u8 0,.int .u8 0,.int .u8 0,.int .u8 0,.int .u8 0,.int .u8 0,.int .u8 0,.int .u8 0,.int .u8 0,.int .u8 0,.int .u8 0,.int .u8 0,.int .u8 0,.int .u8 0,.int .u8 0,.int .u8 0,.int .u8 0,.int .u8 0,.int .u8 0,.int .u8 0,.int .u8 0,.int .u8 0,.int .u8 0,.int .u8 0,.int .u8 0,.int .u8 0,.int .u8 0,.int .u8 0,.int .u8 0,.int .u8 0,.int .u8 0,.int .u8 0,.int .u8 0,.int .u8 0,.int .u8 0,.int .u8 0,.int .u8 0,.int .u8 0,.int .u8 0,.int .u8 0,.int .u8 0,.int .u8 0,.int .u8 0,.int .u8 0,.int .u8 0,.int .u8 0,.int .u8 0,.int .u8 0,.int .u8 0,.int .u8 0,.int .u8 0,.int .u8 0,.int .u8 0,.int .u8 0,.int .u8 0,.int .u8 0,.int .u8 0,.int .u8 0,.int .u8 0,.int .u8 0]))∧
 (tyZ Tryz.prog 181=some (.int .u64 0))∧
 (tyZ Tryz.prog 213=some (.agg #[.int .i64 0,.int .i64 0,.int .i64 0]))∧
 (tyZ Tryz.prog 230=some (.agg #[.int .u8 0,.int .u8 0,.int .u8 0,.int .u8 0,.int .u8 0,.int .u8 0,.int .u8 0,.int .u8 0,.int .u8 0,.int .u8 0,.int .u8 0,.int .u8 0,.int .u8 0,.int .u8 0,.int .u8 0,.int .u8 0,.int .u8 0,.int .u8 0,.int .u8 0,.int .u8 0,.int .u8 0,.int .u8 0,.int .u8 0,.int .u8 0,.int .u8 0,.int .u8 0,.int .u8 0,.int .u8 0,.int .u8 0,.int .u8 0,.int .u8 0,.int .u8 0]))∧
 (tyZ Tryz.prog 231=some (.agg #[.int .u8 0,.int .u8 0,.int .u8 0,.int .u8 0,.int .u8 0,.int .u8 0,.int .u8 0,.int .u8 0,.int .u8 0,.int .u8 0,.int .u8 0,.int .u8 0,.int .u8 0,.int .u8 0,.int .u8 0,.int .u8 0,.int .u8 0,.int .u8 0,.int .u8 0,.int .u8 0,.int .u8 0,.int .u8 0,.int .u8 0,.int .u8 0,.int .u8 0,.int .u8 0,.int .u8 0,.int .u8 0,.int .u8 0,.int .u8 0,.int .u8 0,.int .u8 0,.int .u8 0,.int .u8 0,.int .u8 0,.int .u8 0,.int .u8 0,.int .u8 0,.int .u8 0,.int .u8 0,.int .u8 0,.int .u8 0,.int .u8 0,.int .u8 0,.int .u8 0,.int .u8 0,.int .u8 0,.int .u8 0,.int .u8 0,.int .u8 0,.int .u8 0,.int .u8 0,.int .u8 0,.int .u8 0,.int .u8 0,.int .u8 0,.int .u8 0,.int .u8 0,.int .u8 0,.int .u8 0,.int .u8 0,.int .u8 0,.int .u8 0,.int .u8 0]))∧
 (tyZ Tryz.prog 233=some (.nilFunc))∧
 (tyZ Tryz.prog 239=some (.agg #[.int .i64 0,.int .i64 0,.int .i64 0]))∧
 (tyZ Tryz.prog 245=some (.agg #[.bool false,.bool false,.bool false,.bool false,.bool false,.bool false,.bool false,.bool false,.bool false,.bool false,.bool false,.bool false,.bool false,.bool false,.bool false,.bool false,.bool false,.bool false,.bool false,.bool false,.bool false,.bool false,.bool false,.bool false,.bool false,.bool false,.bool false,.bool false,.bool false,.bool false,.bool false,.bool false,.bool false,.bool false,.bool false,.bool false,.bool false,.bool false,.bool false,.bool false,.bool false,.bool false,.bool false,.bool false,.bool false,.bool false,.bool false,.bool false,.bool false,.bool false,.bool false,.bool false,.bool false,.bool false,.bool false,.bool false,.bool false,.bool false,.bool false,.bool false,.bool false,.bool false,.bool false,.bool false,.bool false,.bool false,.bool false,.bool false,.bool false,.bool false,.bool false,.bool false,.bool false,.bool false,.bool false,.bool false,.bool false,.bool false,.bool false,.bool false,.bool false,.bool false,.bool false,.bool false,.bool false,.bool false,.bool false,.bool false,.bool false,.bool false,.bool false,.bool false,.bool false,.bool false,.bool false,.bool false,.bool false,.bool false,.bool false,.bool false,.bool false,.bool false,.bool false,.bool false,.bool false,.bool false,.bool false,.bool false,.bool false,.bool false,.bool false,.bool false,.bool false,.bool false,.bool false,.bool false,.bool false,.bool false,.bool false,.bool false,.bool false,.bool false,.bool false,.bool false,.bool false,.bool false,.bool false,.bool false,.bool false,.bool false,.bool false,.bool false,.bool false,.bool false,.bool false,.bool false,.bool false,.bool false,.bool false,.bool false,.bool false,.bool false,.bool false,.bool false,.bool false,.bool false,.bool false,.bool false,.bool false,.bool false,.bool false,.bool false,.bool false,.bool false,.bool false,.bool false,.bool false,.bool false,.bool false,.bool false,.bool false,.bool false,.bool false,.bool false,.bool false,.bool false,.bool false,.bool false,.bool false,.bool false,.bool false,.bool false,.bool false,.bool false,.bool false,.bool false,.bool false,.bool false,.bool false,.bool false,.bool false,.bool false,.bool false,.bool false,.bool false,.bool false,.bool false,.bool false,.bool false,.bool false,.bool false,.bool false,.bool false,.bool false,.bool false,.bool false,.bool false,.bool false,.bool false,.bool false,.bool false,.bool false,.bool false,.bool false,.bool false,.bool false,.bool false,.bool false,.bool false,.bool false,.bool false,.bool false,.bool false,.bool false,.bool false,.bool false,.bool false,.bool false,.bool false,.bool false,.bool false,.bool false,.bool false,.bool false,.bool false,.bool false,.bool false,.bool false,.bool false,.bool false,.bool false,.bool false,.bool false,.bool false,.bool false,.bool false,.bool false,.bool false,.bool false,.bool false,.bool false,.bool false,.bool false,.bool false,.bool false,.bool false,.bool false,.bool false,.bool false,.bool false,.bool false,.bool false,.bool false,.bool false,.bool false,.bool false]))∧
 (tyZ Tryz.prog 249=some (.pointer Option.none))∧
 (tyZ Tryz.prog 254=some (.slice Option.none 0 0))∧
 (tyZ Tryz.prog 257=some (.pointer Option.none))∧
 (tyZ Tryz.prog 259=some (.agg #[.slice Option.none 0 0,.slice Option.none 0 0,.int .i64 0]))∧
 (tyZ Tryz.prog 274=some (.agg #[vs [],.int .i64 0]))∧
 (tyZ Tryz.prog 276=some (.agg #[.int .i64 0,.int .i64 0,.int .i64 0,.int .i64 0]))∧
 (tyZ Tryz.prog 291=some (.nilFunc))∧
 (tyZ Tryz.prog 298=some (.nilFunc))∧
 (tyZ Tryz.prog 312=some (.agg #[.int .u8 0,.int .u8 0,.int .u8 0,.int .u8 0,.int .u8 0,.int .u8 0,.int .u8 0,.int .u8 0,.int .u8 0,.int .u8 0,.int .u8 0,.int .u8 0,.int .u8 0,.int .u8 0,.int .u8 0,.int .u8 0,.int .u8 0,.int .u8 0,.int .u8 0,.int .u8 0,.int .u8 0,.int .u8 0,.int .u8 0,.int .u8 0,.int .u8 0,.int .u8 0,.int .u8 0,.int .u8 0,.int .u8 0,.int .u8 0,.int .u8 0,.int .u8 0,.int .u8 0,.int .u8 0,.int .u8 0,.int .u8 0,.int .u8 0,.int .u8 0,.int .u8 0,.int .u8 0,.int .u8 0,.int .u8 0,.int .u8 0,.int .u8 0,.int .u8 0,.int .u8 0,.int .u8 0,.int .u8 0,.int .u8 0,.int .u8 0,.int .u8 0,.int .u8 0,.int .u8 0,.int .u8 0,.int .u8 0,.int .u8 0,.int .u8 0,.int .u8 0,.int .u8 0,.int .u8 0,.int .u8 0,.int .u8 0,.int .u8 0,.int .u8 0,.int .u8 0,.int .u8 0,.int .u8 0,.int .u8 0,.int .u8 0,.int .u8 0,.int .u8 0,.int .u8 0,.int .u8 0,.int .u8 0,.int .u8 0,.int .u8 0,.int .u8 0,.int .u8 0,.int .u8 0,.int .u8 0,.int .u8 0,.int .u8 0,.int .u8 0,.int .u8 0,.int .u8 0,.int .u8 0,.int .u8 0,.int .u8 0,.int .u8 0,.int .u8 0,.int .u8 0,.int .u8 0,.int .u8 0,.int .u8 0,.int .u8 0,.int .u8 0,.int .u8 0,.int .u8 0,.int .u8 0,.int .u8 0,.int .u8 0,.int .u8 0,.int .u8 0,.int .u8 0,.int .u8 0,.int .u8 0,.int .u8 0,.int .u8 0,.int .u8 0,.int .u8 0,.int .u8 0,.int .u8 0,.int .u8 0,.int .u8 0,.int .u8 0,.int .u8 0,.int .u8 0,.int .u8 0,.int .u8 0,.int .u8 0,.int .u8 0,.int .u8 0,.int .u8 0,.int .u8 0,.int .u8 0,.int .u8 0,.int .u8 0,.int .u8 0,.int .u8 0,.int .u8 0,.int .u8 0,.int .u8 0,.int .u8 0,.int .u8 0,.int .u8 0,.int .u8 0,.int .u8 0,.int .u8 0,.int .u8 0,.int .u8 0,.int .u8 0,.int .u8 0,.int .u8 0,.int .u8 0,.int .u8 0,.int .u8 0,.int .u8 0,.int .u8 0,.int .u8 0,.int .u8 0,.int .u8 0,.int .u8 0,.int .u8 0,.int .u8 0,.int .u8 0,.int .u8 0,.int .u8 0,.int .u8 0,.int .u8 0,.int .u8 0,.int .u8 0,.int .u8 0,.int .u8 0,.int .u8 0,.int .u8 0,.int .u8 0,.int .u8 0,.int .u8 0,.int .u8 0,.int .u8 0,.int .u8 0,.int .u8 0,.int .u8 0,.int .u8 0,.int .u8 0,.int .u8 0,.int .u8 0,.int .u8 0,.int .u8 0,.int .u8 0,.int .u8 0,.int .u8 0,.int .u8 0,.int .u8 0,.int .u8 0,.int .u8 0,.int .u8 0,.int .u8 0,.int .u8 0,.int .u8 0,.int .u8 0,.int .u8 0,.int .u8 0,.int .u8 0,.int .u8 0,.int .u8 0,.int .u8 0,.int .u8 0,.int .u8 0,.int .u8 0,.int .u8 0,.int .u8 0,.int .u8 0,.int .u8 0,.int .u8 0,.int .u8 0,.int .u8 0,.int .u8 0,.int .u8 0,.int .u8 0,.int .u8 0,.int .u8 0,.int .u8 0,.int .u8 0,.int .u8 0,.int .u8 0,.int .u8 0,.int .u8 0,.int .u8 0,.int .u8 0,.int .u8 0,.int .u8 0,.int .u8 0,.int .u8 0,.int .u8 0,.int .u8 0,.int .u8 0,.int .u8 0,.int .u8 0,.int .u8 0,.int .u8 0,.int .u8 0,.int .u8 0,.int .u8 0,.int .u8 0,.int .u8 0,.int .u8 0,.int .u8 0,.int .u8 0,.int .u8 0,.int .u8 0,.int .u8 0,.int .u8 0,.int .u8 0,.int .u8 0,.int .u8 0,.int .u8 0,.int .u8 0,.int .u8 0,.int .u8 0,.int .u8 0,.int .u8 0,.int .u8 0,.int .u8 0,.int .u8 0,.int .u8 0]))∧
 (tyZ Tryz.prog 314=some (.agg #[.int .u8 0,.int .u8 0]))∧
 (tyZ Tryz.prog 315=some (.agg #[.int .u8 0,.int .u8 0,.int .u8 0,.int .u8 0,.int .u8 0,.int .u8 0,.int .u8 0,.int .u8 0,.int .u8 0,.int .u8 0,.int .u8 0,.int .u8 0,.int .u8 0,.int .u8 0,.int .u8 0,.int .u8 0,.int .u8 0,.int .u8 0,.int .u8 0,.int .u8 0,.int .u8 0,.int .u8 0,.int .u8 0,.int .u8 0,.int .u8 0,.int .u8 0,.int .u8 0,.int .u8 0,.int .u8 0,.int .u8 0,.int .u8 0,.int .u8 0]))∧
 (tyZ Tryz.prog 318=some (.agg #[vs [],vs [],.nilIface]))∧
 (tyZ Tryz.prog 324=some (.slice Option.none 0 0))∧
 (tyZ Tryz.prog 327=some (.agg #[vs []]))∧
 (tyZ Tryz.prog 328=some (.pointer Option.none))∧
 (tyZ Tryz.prog 332=some (.agg #[.int .i32 0,.int .i32 0,.int .i32 0]))∧
 (tyZ Tryz.prog 334=some (.agg #[.int .u32 0,.int .u32 0,.int .i32 0,.int .i32 0,.int .i32 0])):=by
 and_intros
 all_goals rfl
theorem fdAs:(∀a:Addr,fdA Tryz.prog 33 (.pointer (some a)) 0=some (.pointer (adr (some a) 0)))∧
 (∀a:Addr,fdA Tryz.prog 33 (.pointer (some a)) 1=some (.pointer (adr (some a) 1)))∧
 (∀a:Addr,fdA Tryz.prog 47 (.pointer (some a)) 0=some (.pointer (adr (some a) 0)))∧
 (∀a:Addr,fdA Tryz.prog 47 (.pointer (some a)) 1=some (.pointer (adr (some a) 1)))∧
 (∀a:Addr,fdA Tryz.prog 47 (.pointer (some a)) 2=some (.pointer (adr (some a) 2)))∧
 (∀a:Addr,fdA Tryz.prog 47 (.pointer (some a)) 3=some (.pointer (adr (some a) 3)))∧
 (∀a:Addr,fdA Tryz.prog 47 (.pointer (some a)) 4=some (.pointer (adr (some a) 4)))∧
 (∀a:Addr,fdA Tryz.prog 49 (.pointer (some a)) 0=some (.pointer (adr (some a) 0)))∧
 (∀a:Addr,fdA Tryz.prog 49 (.pointer (some a)) 1=some (.pointer (adr (some a) 1)))∧
 (∀a:Addr,fdA Tryz.prog 49 (.pointer (some a)) 2=some (.pointer (adr (some a) 2)))∧
 (∀a:Addr,fdA Tryz.prog 55 (.pointer (some a)) 0=some (.pointer (adr (some a) 0)))∧
 (∀a:Addr,fdA Tryz.prog 55 (.pointer (some a)) 1=some (.pointer (adr (some a) 1)))∧
 (∀a:Addr,fdA Tryz.prog 55 (.pointer (some a)) 2=some (.pointer (adr (some a) 2)))∧
 (∀a:Addr,fdA Tryz.prog 55 (.pointer (some a)) 3=some (.pointer (adr (some a) 3)))∧
 (∀a:Addr,fdA Tryz.prog 55 (.pointer (some a)) 4=some (.pointer (adr (some a) 4)))∧
 (∀a:Addr,fdA Tryz.prog 57 (.pointer (some a)) 0=some (.pointer (adr (some a) 0)))∧
 (∀a:Addr,fdA Tryz.prog 57 (.pointer (some a)) 1=some (.pointer (adr (some a) 1)))∧
 (∀a:Addr,fdA Tryz.prog 57 (.pointer (some a)) 2=some (.pointer (adr (some a) 2)))∧
 (∀a:Addr,fdA Tryz.prog 63 (.pointer (some a)) 0=some (.pointer (adr (some a) 0)))∧
 (∀a:Addr,fdA Tryz.prog 63 (.pointer (some a)) 1=some (.pointer (adr (some a) 1)))∧
 (∀a:Addr,fdA Tryz.prog 82 (.pointer (some a)) 0=some (.pointer (adr (some a) 0)))∧
 (∀a:Addr,fdA Tryz.prog 82 (.pointer (some a)) 1=some (.pointer (adr (some a) 1)))∧
 (∀a:Addr,fdA Tryz.prog 84 (.pointer (some a)) 0=some (.pointer (adr (some a) 0)))∧
 (∀a:Addr,fdA Tryz.prog 84 (.pointer (some a)) 1=some (.pointer (adr (some a) 1)))∧
 (∀a:Addr,fdA Tryz.prog 86 (.pointer (some a)) 0=some (.pointer (adr (some a) 0)))∧
 (∀a:Addr,fdA Tryz.prog 86 (.pointer (some a)) 1=some (.pointer (adr (some a) 1)))∧
 (∀a:Addr,fdA Tryz.prog 86 (.pointer (some a)) 2=some (.pointer (adr (some a) 2)))∧
 (∀a:Addr,fdA Tryz.prog 86 (.pointer (some a)) 3=some (.pointer (adr (some a) 3)))∧
 (∀a:Addr,fdA Tryz.prog 86 (.pointer (some a)) 4=some (.pointer (adr (some a) 5)))∧
 (∀a:Addr,fdA Tryz.prog 86 (.pointer (some a)) 5=some (.pointer (adr (some a) 7)))∧
 (∀a:Addr,fdA Tryz.prog 88 (.pointer (some a)) 0=some (.pointer (adr (some a) 0)))∧
 (∀a:Addr,fdA Tryz.prog 88 (.pointer (some a)) 1=some (.pointer (adr (some a) 1)))∧
 (∀a:Addr,fdA Tryz.prog 88 (.pointer (some a)) 2=some (.pointer (adr (some a) 2)))∧
 (∀a:Addr,fdA Tryz.prog 88 (.pointer (some a)) 3=some (.pointer (adr (some a) 3)))∧
 (∀a:Addr,fdA Tryz.prog 88 (.pointer (some a)) 4=some (.pointer (adr (some a) 4)))∧
 (∀a:Addr,fdA Tryz.prog 116 (.pointer (some a)) 0=some (.pointer (adr (some a) 0)))∧
 (∀a:Addr,fdA Tryz.prog 116 (.pointer (some a)) 1=some (.pointer (adr (some a) 1)))∧
 (∀a:Addr,fdA Tryz.prog 116 (.pointer (some a)) 2=some (.pointer (adr (some a) 2)))∧
 (∀a:Addr,fdA Tryz.prog 122 (.pointer (some a)) 0=some (.pointer (adr (some a) 0)))∧
 (∀a:Addr,fdA Tryz.prog 122 (.pointer (some a)) 1=some (.pointer (adr (some a) 1)))∧
 (∀a:Addr,fdA Tryz.prog 122 (.pointer (some a)) 2=some (.pointer (adr (some a) 2)))∧
 (∀a:Addr,fdA Tryz.prog 149 (.pointer (some a)) 0=some (.pointer (adr (some a) 0)))∧
 (∀a:Addr,fdA Tryz.prog 149 (.pointer (some a)) 1=some (.pointer (adr (some a) 1)))∧
 (∀a:Addr,fdA Tryz.prog 158 (.pointer (some a)) 0=some (.pointer (adr (some a) 0)))∧
 (∀a:Addr,fdA Tryz.prog 158 (.pointer (some a)) 1=some (.pointer (adr (some a) 1)))∧
 (∀a:Addr,fdA Tryz.prog 158 (.pointer (some a)) 2=some (.pointer (adr (some a) 4)))∧
 (∀a:Addr,fdA Tryz.prog 158 (.pointer (some a)) 3=some (.pointer (adr (some a) 5)))∧
 (∀a:Addr,fdA Tryz.prog 158 (.pointer (some a)) 4=some (.pointer (adr (some a) 6)))∧
 (∀a:Addr,fdA Tryz.prog 164 (.pointer (some a)) 0=some (.pointer (adr (some a) 0)))∧
 (∀a:Addr,fdA Tryz.prog 164 (.pointer (some a)) 1=some (.pointer (adr (some a) 1)))∧
 (∀a:Addr,fdA Tryz.prog 213 (.pointer (some a)) 0=some (.pointer (adr (some a) 0)))∧
 (∀a:Addr,fdA Tryz.prog 213 (.pointer (some a)) 1=some (.pointer (adr (some a) 1)))∧
 (∀a:Addr,fdA Tryz.prog 213 (.pointer (some a)) 2=some (.pointer (adr (some a) 2)))∧
 (∀a:Addr,fdA Tryz.prog 259 (.pointer (some a)) 0=some (.pointer (adr (some a) 0)))∧
 (∀a:Addr,fdA Tryz.prog 259 (.pointer (some a)) 1=some (.pointer (adr (some a) 1)))∧
 (∀a:Addr,fdA Tryz.prog 259 (.pointer (some a)) 2=some (.pointer (adr (some a) 2)))∧
 (∀a:Addr,fdA Tryz.prog 274 (.pointer (some a)) 0=some (.pointer (adr (some a) 0)))∧
 (∀a:Addr,fdA Tryz.prog 274 (.pointer (some a)) 1=some (.pointer (adr (some a) 1)))∧
 (∀a:Addr,fdA Tryz.prog 276 (.pointer (some a)) 0=some (.pointer (adr (some a) 0)))∧
 (∀a:Addr,fdA Tryz.prog 276 (.pointer (some a)) 1=some (.pointer (adr (some a) 1)))∧
 (∀a:Addr,fdA Tryz.prog 276 (.pointer (some a)) 2=some (.pointer (adr (some a) 2)))∧
 (∀a:Addr,fdA Tryz.prog 276 (.pointer (some a)) 3=some (.pointer (adr (some a) 3)))∧
 (∀a:Addr,fdA Tryz.prog 314 (.pointer (some a)) 0=some (.pointer (adr (some a) 0)))∧
 (∀a:Addr,fdA Tryz.prog 314 (.pointer (some a)) 1=some (.pointer (adr (some a) 1)))∧
 (∀a:Addr,fdA Tryz.prog 318 (.pointer (some a)) 0=some (.pointer (adr (some a) 0)))∧
 (∀a:Addr,fdA Tryz.prog 318 (.pointer (some a)) 1=some (.pointer (adr (some a) 1)))∧
 (∀a:Addr,fdA Tryz.prog 318 (.pointer (some a)) 2=some (.pointer (adr (some a) 2)))∧
 (∀a:Addr,fdA Tryz.prog 327 (.pointer (some a)) 0=some (.pointer (adr (some a) 0)))∧
 (∀a:Addr,fdA Tryz.prog 334 (.pointer (some a)) 0=some (.pointer (adr (some a) 0)))∧
 (∀a:Addr,fdA Tryz.prog 334 (.pointer (some a)) 1=some (.pointer (adr (some a) 1)))∧
 (∀a:Addr,fdA Tryz.prog 334 (.pointer (some a)) 2=some (.pointer (adr (some a) 2))):=by
 and_intros
 all_goals (intro a;kernel_rfl)
theorem fns1(f:Nat)(h:1<f)(k:f<78):zaj Tryz.prog f=true:=(by decide+kernel:∀f,f<78→1<f→zaj Tryz.prog f=true) f k h
theorem fns78(f:Nat)(h:78<f)(k:f<115):zaj Tryz.prog f=true:=(by decide+kernel:∀f,f<115→78<f→zaj Tryz.prog f=true) f k h
theorem fns115(f:Nat)(h:115<f)(k:f<146):zaj Tryz.prog f=true:=(by decide+kernel:∀f,f<146→115<f→zaj Tryz.prog f=true) f k h
theorem fns146(f:Nat)(h:146<f)(k:f<148):zaj Tryz.prog f=true:=(by decide+kernel:∀f,f<148→146<f→zaj Tryz.prog f=true) f k h
theorem fns148(f:Nat)(h:148<f)(k:f<169):zaj Tryz.prog f=true:=(by decide+kernel:∀f,f<169→148<f→zaj Tryz.prog f=true) f k h
theorem fns169(f:Nat)(h:169<f)(k:f<196):zaj Tryz.prog f=true:=(by decide+kernel:∀f,f<196→169<f→zaj Tryz.prog f=true) f k h
theorem fns196(f:Nat)(h:196<f)(k:f<267):zaj Tryz.prog f=true:=(by decide+kernel:∀f,f<267→196<f→zaj Tryz.prog f=true) f k h
theorem fns267(f:Nat)(h:267<f)(k:f<273):zaj Tryz.prog f=true:=(by decide+kernel:∀f,f<273→267<f→zaj Tryz.prog f=true) f k h
theorem fns305(f:Nat)(h:305<f)(k:f<307):zaj Tryz.prog f=true:=(by decide+kernel:∀f,f<307→305<f→zaj Tryz.prog f=true) f k h
theorem fnx:(zaj Tryz.prog 78=false)∧
 (zaj Tryz.prog 115=false)∧
 (zaj Tryz.prog 146=false)∧
 (zaj Tryz.prog 148=false)∧
 (zaj Tryz.prog 169=false)∧
 (zaj Tryz.prog 196=false)∧
 (zaj Tryz.prog 267=false)∧
 (zaj Tryz.prog 273=false)∧
 (zaj Tryz.prog 274=false)∧
 (zaj Tryz.prog 275=false)∧
 (zaj Tryz.prog 276=false)∧
 (zaj Tryz.prog 277=false)∧
 (zaj Tryz.prog 278=false)∧
 (zaj Tryz.prog 279=false)∧
 (zaj Tryz.prog 280=false)∧
 (zaj Tryz.prog 281=false)∧
 (zaj Tryz.prog 282=false)∧
 (zaj Tryz.prog 283=false)∧
 (zaj Tryz.prog 284=false)∧
 (zaj Tryz.prog 285=false)∧
 (zaj Tryz.prog 286=false)∧
 (zaj Tryz.prog 287=false)∧
 (zaj Tryz.prog 288=false)∧
 (zaj Tryz.prog 289=false)∧
 (zaj Tryz.prog 290=false)∧
 (zaj Tryz.prog 291=false)∧
 (zaj Tryz.prog 292=false)∧
 (zaj Tryz.prog 293=false)∧
 (zaj Tryz.prog 294=false)∧
 (zaj Tryz.prog 295=false)∧
 (zaj Tryz.prog 296=false)∧
 (zaj Tryz.prog 297=false)∧
 (zaj Tryz.prog 298=false)∧
 (zaj Tryz.prog 299=false)∧
 (zaj Tryz.prog 300=false)∧
 (zaj Tryz.prog 301=false)∧
 (zaj Tryz.prog 302=false)∧
 (zaj Tryz.prog 303=false)∧
 (zaj Tryz.prog 304=false)∧
 (zaj Tryz.prog 305=false):=by
 and_intros
 all_goals rfl
theorem tyIs(t:Nat)(h:t<335):(Tryz.prog.info? t).isSome=true:=(by decide+kernel:∀t,t<335→(Tryz.prog.info? t).isSome=true) t h
attribute [go_sem] tyUs tySs tyAs tyIs tyNs fns1 fns78 fns115 fns146 fns148 fns169 fns196 fns267 fns305 fnx tyZs fdAs
theorem mixed:Tryz.prog.follows .mixedOrders=true:=by rfl
structure KeepB(n0:Nat)(C:Nat→Prop)(w w':World):Prop where
 os:w'.os=w.os
 tape:w'.tape=w.tape
 output:w'.output=w.output
 size:w.heap.size≤w'.heap.size
 block:∀b,b<n0→¬C b→w'.heap[b]? =w.heap[b]?
 drawn:w.drawn≤w'.drawn
theorem KeepB.refl(n0:Nat)(C:Nat→Prop)(w:World):KeepB n0 C w w:=⟨rfl,rfl,rfl,Nat.le_refl _,fun _ _ _=>rfl,Nat.le_refl _⟩
theorem KeepB.trans{n0:Nat}{C:Nat→Prop}{a b c:World}(h:KeepB n0 C a b)(k:KeepB n0 C b c):KeepB n0 C a c:=
 ⟨k.os.trans h.os,k.tape.trans h.tape,k.output.trans h.output,Nat.le_trans h.size k.size,fun i hi hc=>(k.block i hi hc).trans (h.block i hi hc),Nat.le_trans h.drawn k.drawn⟩
theorem Keep.toB{n0:Nat}{C S:Nat→Prop}{a b:World}(h:Keep S a b)(hn:n0≤a.heap.size)(hS:∀i,i<n0→S i→C i):KeepB n0 C a b:=
 ⟨h.os,h.tape,h.output,h.size,fun i hi hc=>h.block i (by omega) (fun hs=>hc (hS i hi hs)),h.drawn⟩
theorem KeepB.mono{n0 n1:Nat}{C D:Nat→Prop}{a b:World}(h:KeepB n0 C a b)(hn:n1≤n0)(hC:∀i,i<n1→C i→D i):KeepB n1 D a b:=
 ⟨h.os,h.tape,h.output,h.size,fun i hi hd=>h.block i (by omega) (fun hc=>hd (hC i hi hc)),h.drawn⟩
theorem KeepB.keep{C:Nat→Prop}{a b:World}(h:KeepB a.heap.size C a b):Keep C a b:=⟨h.os,h.tape,h.output,h.size,h.block,h.drawn⟩
def Yld(P:Program)(l:Nat)(args:Array Value)(w:World)(R:Value→World→Prop):Prop:=ziF P (.func (.yield l) #[] #[]) args w R
theorem Yld.mono{P:Program}{l:Nat}{args:Array Value}{w:World}{R R':Value→World→Prop}(h:Yld P l args w R)(hr:∀v w,R v w→R' v w):Yld P l args w R':=zha hr h
def span(n k:Nat):Nat→Prop:=fun b=>n≤b∧b<n+k
def IterG{α:Type}(P:Program)(g:FuncId)(cap:Array Value)(W0:World)(n0:Nat)(C:Nat→Prop)(own:Nat)(Pre:List α→α→Prop)(Full:List α→Prop)(enc:α→World→Array Value→Prop):Prop:=
 ∀(l:Nat) (J Jx:List α→World→Prop) (W:World),Ext W0 W→n0≤W.heap.size→
  (∀pre A B,J pre A→Keep (span W.heap.size own) A B→J pre B)→(∀pre A B,Jx pre A→Keep (span W.heap.size own) A B→Jx pre B)→
  (∀pre x A args,Pre pre x→J pre A→W.heap.size+own≤A.heap.size→KeepB n0 C W A→enc x A args→Yld P l args A (fun v B=>
   (v= .bool true∧J (pre++ [x]) B∧KeepB n0 C A B∧∀b,span W.heap.size own b→B.heap[b]? =A.heap[b]?)∨(v= .bool false∧Jx (pre++ [x]) B)))→
  J [] W→Fn P g (#[.func (.yield l) #[] #[]]++cap) W (fun _ B=>(∃xs,Full xs∧J xs B)∨∃pre x,Pre pre x∧Jx (pre++ [x]) B)
def Iter{α:Type}(P:Program)(g:FuncId)(cap:Array Value)(W0:World)(n0:Nat)(C:Nat→Prop)(xs:List α)(enc:α→World→Array Value→Prop):Prop:=
 ∀(l:Nat) (J Jx:List α→World→Prop) (W:World),Ext W0 W→n0≤W.heap.size→
  (∀pre A B,J pre A→Ext A B→J pre B)→(∀pre A B,Jx pre A→Ext A B→Jx pre B)→
  (∀pre x suf A args,xs=pre++x::suf→J pre A→KeepB n0 C W A→enc x A args→Yld P l args A (fun v B=>
   (v= .bool true∧J (pre++ [x]) B∧KeepB n0 C A B)∨(v= .bool false∧Jx (pre++ [x]) B)))→
  J [] W→Fn P g (#[.func (.yield l) #[] #[]]++cap) W (fun _ B=>J xs B∨∃pre x suf,xs=pre++x::suf∧Jx (pre++ [x]) B)
theorem Iter.toG{α:Type}{P:Program}{g:FuncId}{cap:Array Value}{W0:World}{n0:Nat}{C:Nat→Prop}{xs:List α}{enc:α→World→Array Value→Prop}(h:Iter P g cap W0 n0 C xs enc):
  IterG P g cap W0 n0 C 0 (fun pre x=>∃suf,xs=pre++x::suf) (fun l=>l=xs) enc:=fun l J Jx W h1 h2 h3 h4 h5 h6=>
 Fn.mono (h l J Jx W h1 h2 (fun pre A B hj hk=>h3 pre A B hj (hk.mono (fun _ _ h=>h.elim))) (fun pre A B hj hk=>h4 pre A B hj (hk.mono (fun _ _ h=>h.elim)))
  (fun pre x suf A args e hj hk he=>Yld.mono (h5 pre x A args ⟨suf,e⟩ hj (by have:=hk.size;omega) hk he) (fun v B hr=>by
   rcases hr with ⟨h1,h2,h3,_⟩|hr
   ·exact .inl ⟨h1,h2,h3⟩
   ·exact .inr hr)) h6) (fun v B hr=>by
  rcases hr with hr| ⟨pre,x,suf,e,hr⟩
  ·exact .inl ⟨xs,rfl,hr⟩
  ·exact .inr ⟨pre,x,⟨suf,e⟩,hr⟩)
def ze8(σ:Sto):List (Tmp×Value)→Sto
 | []=>σ
 | (t,v)::l=>ze8 (upd σ t v) l
theorem zdY(n:Nat)(ds:List Deferred):∀(l:List (Tmp×Value)) (σ:Sto),l.foldl (fun t (p,v)=>t.setIfInBounds p v) (act n σ ds).tmps=(act n (ze8 σ l) ds).tmps
 | [],_=>rfl
 | (p,v)::l,σ=>by
  simp only[List.foldl_cons,znc]
  exact zdY n ds l (upd σ p v)
theorem zlJ(σ:Sto):ze8 σ []=σ:=nr rfl
theorem zkA(σ:Sto)(t:Tmp)(v:Value)(l:List (Tmp×Value)):ze8 σ ((t,v)::l)=ze8 (upd σ t v) l:=nr rfl
theorem zip_l(l:List Tmp)(m:List Value):(l.toArray.zip m.toArray).toList=l.zip m:=by simp
theorem zip_cons(a:Tmp)(b:Value)(l:List Tmp)(m:List Value):(a::l).zip (b::m)=(a,b)::l.zip m:=nr rfl
theorem zip_nil:([]:List Tmp).zip ([]:List Value)=[]:=nr rfl
attribute [go_sem] zlJ zkA zip_l zip_cons zip_nil
def two(D:Nat):Nat→Prop:=fun b=>b=D∨b=D+1
theorem zaK{w:World}{r:Nat}{o:Obj}{S:Nat→Prop}(hr:S r):Keep S w (w.putObj r o):=
 ⟨rfl,rfl,rfl,by simp,fun b _ hb=>World.putObj_heap_other (fun e=>hb (e▸hr)),Nat.le_refl _⟩
def zlO{α:Type}(I:List α→World→Prop)(Ix:Code→List α→World→Prop)(n2:Nat)(C:Nat→Prop)(pre':List α)(A:World):Post
 | .normal,_,_,B=>I pre' B∧KeepB n2 C A B
 | .ret,_,_,B=>Ix .ret pre' B∧KeepB n2 C A B
 | .exit id,_,_,B=>Ix (.exit id) pre' B∧KeepB n2 C A B
 | .goto t,_,_,B=>Ix (.goto t) pre' B∧KeepB n2 C A B
 |_,_,_,_=>False
def zhU(fn:FuncId)(tmps:Array Value)(ps:Array Tmp)(assign body:Code)(D:Nat)(st:LoopState)(pe:Option Code):Loop:=
 {state:=st,pending:=pe,fn,tmps,params:=ps,assign,body,defers:=D}
theorem W_rangeG{α:Type}{P:Program}{n:Nat}{f:Operand}{ps:Array Tmp}{assign body:Code}{Q:Post}{σ:Sto}{ds:List Deferred}{w:World}
  {g:FuncId} {cap:Array Value} {W0:World} {n0:Nat} {C:Nat→Prop} {own:Nat} {Pre:List α→α→Prop} {Full:List α→Prop} {enc:α→World→Array Value→Prop}
  (hf:ev n σ f= .func (.func g) #[] cap) (hc:zaj P g=true) (hit:IterG P g cap W0 n0 C own Pre Full enc) (hW0:Ext W0 w) (hn0:n0≤w.heap.size) (hCn:∀b,C b→b<w.heap.size)
  (henc:∀x A args,enc x A args→args.size=ps.size)
  (I:List α→World→Prop) (Ix:Code→List α→World→Prop)
  (hI:∀pre A B,I pre A→Keep (span w.heap.size (2+own)) A B→I pre B)
  (hIx:∀c pre A B,Ix c pre A→Keep (span w.heap.size (2+own)) A B→Ix c pre B)
  (h0:I [] w)
  (hround:∀(l:Nat) (pre:List α) (x:α) (A:World) (args:Array Value),Pre pre x→w.heap.size+2+own≤A.heap.size→I pre A→enc x A args→
   W P (some l) n assign (zdU (fun σ1 ds1 A1=>ds1=[]∧KeepB (w.heap.size+2+own) C A A1∧∀A2,Keep (two w.heap.size) A1 A2→W P (some l) n body (zlO I Ix (w.heap.size+2+own) C (pre++ [x]) A2) σ1 [] A2) (fun _ _ _ _=>False))
    (ze8 σ (ps.zip args).toList) [] A)
  (hdone:∀xs w',Full xs→w.heap.size+2≤w'.heap.size→I xs w'→w'.heap[w.heap.size]? =some (.deferred (some []))→Q .normal σ ({target:= .collected w.heap.size,args:=#[]}::ds) w')
  (hstop:∀c pre x w',w.heap.size+2≤w'.heap.size→Pre pre x→Ix c (pre++ [x]) w'→w'.heap[w.heap.size]? =some (.deferred (some []))→
   W P Option.none n c Q σ ({target:= .collected w.heap.size,args:=#[]}::ds) w'):
  W P Option.none n (.rangeFunc f ps assign body) Q σ ds w:=by
 refine wpIn_rangeFunc ?_
 intro fn _
 generalize hrec:zhU fn (act n σ ds).tmps ps assign body w.heap.size=rec
 obtain⟨W1,hW1⟩:∃W1,(w.alloc (.deferred (some []))).alloc (.loop (rec .ready Option.none))=W1:=⟨_,rfl⟩
 have hsz1:W1.heap.size=w.heap.size+2:=by rw[←hW1];simp
 have hL1:W1.heap[w.heap.size+1]? =some (.loop (rec .ready Option.none)):=by
  rw[←hW1];have:=World.alloc_heap_new (w.alloc (.deferred (some []))) (.loop (rec .ready Option.none));rwa [World.size_alloc]at this
 have hK1:W1.heap[w.heap.size]? =some (.deferred (some [])):=by
  rw[←hW1];exact(RowKit.Below.heap_alloc _ _ _ (by simp)).trans (World.alloc_heap_new w _)
 have hE1:Ext w W1:=by rw[←hW1];exact(Ext.alloc w _).trans (Ext.alloc _ _)
 have hI1:I [] W1:=hI _ _ _ h0 (hE1.mono (fun _ _ h=>h.elim))
 have hl2:two w.heap.size (w.heap.size+1):= .inr rfl
 have hl2':span w.heap.size (2+own) (w.heap.size+1):=by unfold span;omega
 refine⟨w.heap.size+1,[{target:= .collected w.heap.size,args:=#[]}],W1,{target:= .fn (.func g) cap,args:=#[.func (.yield (w.heap.size+1)) #[] #[]]},W1,g,
  #[.func (.yield (w.heap.size+1)) #[] #[]]++cap,W1,?_,?_,?_,?_,zev,?_⟩
 ·rw[←hW1,←hrec];exact run_enterLoop_outer _ _ _ _ _
 ·simp only[resolve,zc4,hf]
  simp[Deferred.ofValue,ev]
 ·intro f' hf';trivial
 ·simp only[invoke];exact zdi hc
 ·-- the iterator's contract
  have hsp:∀{n:Nat} b,b<n→span W1.heap.size own b→span w.heap.size (2+own) b:=fun b _ h=>by unfold span at*;omega
  have hCl:∀b,two w.heap.size b→¬C b:=fun b hb hcb=>by have:=hCn b hcb;rcases hb with rfl|rfl<;>omega
  refine zd3 (CallsIn.mono (hit (w.heap.size+1)
   (fun pre B=>I pre B∧w.heap.size+2≤B.heap.size∧B.heap[w.heap.size+1]? =some (.loop (rec .ready Option.none))∧B.heap[w.heap.size]? =some (.deferred (some [])))
   (fun pre B=>∃c,Ix c pre B∧w.heap.size+2≤B.heap.size∧B.heap[w.heap.size+1]? =some (.loop (rec .done (some c)))∧B.heap[w.heap.size]? =some (.deferred (some [])))
   W1 (hW0.trans hE1) (by omega) ?_ ?_ ?_ ⟨hI1,by omega,hL1,hK1⟩) ?_)
  ·rintro pre A B ⟨hi,hs,hl,hk⟩ hAB
   exact⟨hI _ _ _ hi (hAB.mono hsp),Nat.le_trans hs hAB.size,(hAB.block _ (by omega) (by unfold span;omega)).trans hl,(hAB.block _ (by omega) (by unfold span;omega)).trans hk⟩
  ·rintro pre A B ⟨c,hi,hs,hl,hk⟩ hAB
   exact⟨c,hIx _ _ _ _ hi (hAB.mono hsp),Nat.le_trans hs hAB.size,(hAB.block _ (by omega) (by unfold span;omega)).trans hl,(hAB.block _ (by omega) (by unfold span;omega)).trans hk⟩
  ·-- one round
   rintro pre x A args hxs ⟨hi,hs,hl,hk⟩ hsA _ hx
   have hy:=run_yield (P:=P) (args:=args) hl (by rw[←hrec];exact henc x A args hx)
   unfold Yld ziF
   dsimp only
   rw[show (#[]++args:Array Value)=args from by simp]
   rw[hy,←hrec]
   dsimp only[zhU,opR]
   refine zdV (r:=Option.none) (n:=0) (roundIn_of_wpIn (F:=fw Option.none) (n:=0) trivial ?_)
   have hin:(fw Option.none).inRound (w.heap.size+1)=fw (some (w.heap.size+1)):=rfl
   rw[hin]
   have hfold:(ps.zip args).foldl (fun t (x:Tmp×Value)=>t.setIfInBounds x.1 x.2) (act n σ ds).tmps=(act n (ze8 σ (ps.zip args).toList) []).tmps:=by
    rw[←Array.foldl_toList]
    exact zdY n ds _ σ
   have hst:({tmps:=(ps.zip args).foldl (fun t (x:Tmp×Value)=>t.setIfInBounds x.1 x.2) (act n σ ds).tmps,defers:=[]}:Act)=act n (ze8 σ (ps.zip args).toList) []:=by
    rw[hfold];rfl
   have hr:=hround (w.heap.size+1) pre x A args hxs (by omega) hi hx
   unfold W at hr
   rw[←hst]at hr
   refine wpIn_mono hr ?_
   rintro e a A1 ⟨σ1,ds1,rfl,hq⟩
   cases e with
   |normal=>
    obtain⟨rfl,hA1,hbody⟩:=hq
    have hlA1:A1.heap[w.heap.size+1]? =some (.loop (rec .ready Option.none)):=(hA1.block _ (by omega) (hCl _ hl2)).trans hl
    have hkA1:A1.heap[w.heap.size]? =some (.deferred (some [])):=(hA1.block _ (by omega) (hCl _ (.inl rfl))).trans hk
    have hlt1:w.heap.size+1<A1.heap.size:=(Array.getElem?_eq_some_iff.1 hlA1).1
    refine⟨_,run_beginRound hlA1 (by rw[←hrec];rfl),?_⟩
    have hb:=hbody _ (zaK (w:=A1) (r:=w.heap.size+1) (o:= .loop {rec .ready Option.none with state:= .busy}) hl2)
    refine wpIn_mono hb ?_
    have hlA2:(A1.putObj (w.heap.size+1) (.loop {rec .ready Option.none with state:= .busy})).heap[w.heap.size+1]? =some (.loop {rec .ready Option.none with state:= .busy}):=World.putObj_heap_same hlt1
    have hkA2:(A1.putObj (w.heap.size+1) (.loop {rec .ready Option.none with state:= .busy})).heap[w.heap.size]? =some (.deferred (some [])):=(World.putObj_heap_other (by omega)).trans hkA1
    have fin:∀(jump:Option Code) (B:World),KeepB (w.heap.size+2+own) C (A1.putObj (w.heap.size+1) (.loop {rec .ready Option.none with state:= .busy})) B→
      (Instr.endRound (w.heap.size+1) jump).run P B= .ok (.bool jump.isNone) (B.putObj (w.heap.size+1) (.loop (rec (if jump.isNone then .ready else .done) jump)))∧
      w.heap.size+2≤(B.putObj (w.heap.size+1) (.loop (rec (if jump.isNone then .ready else .done) jump))).heap.size∧
      (B.putObj (w.heap.size+1) (.loop (rec (if jump.isNone then .ready else .done) jump))).heap[w.heap.size+1]? =some (.loop (rec (if jump.isNone then .ready else .done) jump))∧
      (B.putObj (w.heap.size+1) (.loop (rec (if jump.isNone then .ready else .done) jump))).heap[w.heap.size]? =some (.deferred (some []))∧
      KeepB n0 C A (B.putObj (w.heap.size+1) (.loop (rec (if jump.isNone then .ready else .done) jump)))∧
      ∀b,span W1.heap.size own b→(B.putObj (w.heap.size+1) (.loop (rec (if jump.isNone then .ready else .done) jump))).heap[b]? =A.heap[b]?:=by
     intro jump B hB
     have hlB:=(hB.block _ (by omega) (hCl _ hl2)).trans hlA2
     have hkB:=(hB.block _ (by omega) (hCl _ (.inl rfl))).trans hkA2
     have hltB:w.heap.size+1<B.heap.size:=(Array.getElem?_eq_some_iff.1 hlB).1
     refine⟨?_,by simp;omega,World.putObj_heap_same hltB,(World.putObj_heap_other (by omega)).trans hkB,?_,?_⟩
     ·have:=run_endRound (P:=P) jump hlB
      rw[←hrec]at this ⊢
      exact this
     ·refine(hA1.mono (by omega) (fun _ _ h=>h)).trans (KeepB.trans ?_ ((hB.mono (by omega) (fun _ _ h=>h)).trans ?_))
      ·exact(zaK (S:=two w.heap.size) hl2).toB (by omega) (fun i hi hs=>by rcases hs with rfl|rfl<;>omega)
      ·exact(zaK (S:=two w.heap.size) hl2).toB (by omega) (fun i hi hs=>by rcases hs with rfl|rfl<;>omega)
     ·intro b hb
      unfold span at hb
      have hCb:¬C b:=fun h=>by have:=hCn b h;omega
      exact(World.putObj_heap_other (by omega)).trans ((hB.block b (by omega) hCb).trans ((World.putObj_heap_other (by omega)).trans (hA1.block b (by omega) hCb)))
    rintro e a B ⟨σ2,ds2,rfl,hq⟩
    cases e with
    |normal=>
     obtain⟨hi',hB⟩:=hq
     obtain⟨h1,h2,h3,h4,h5,h6⟩:=fin Option.none B hB
     exact⟨_,_,h1,_,rfl,.inl ⟨rfl,⟨hI _ _ _ hi' (zaK hl2'),h2,h3.trans (by rw[←hrec];rfl),h4⟩,h5,h6⟩⟩
    |ret=>
     obtain⟨hi',hB⟩:=hq
     obtain⟨h1,h2,h3,h4,h5,_⟩:=fin (some .ret) B hB
     exact⟨_,_,h1,_,rfl,.inr ⟨rfl,_,hIx _ _ _ _ hi' (zaK hl2'),h2,h3.trans (by rw[←hrec];rfl),h4⟩⟩
    |exit id=>
     obtain⟨hi',hB⟩:=hq
     obtain⟨h1,h2,h3,h4,h5,_⟩:=fin (some (.exit id)) B hB
     exact⟨_,_,h1,_,rfl,.inr ⟨rfl,_,hIx _ _ _ _ hi' (zaK hl2'),h2,h3.trans (by rw[←hrec];rfl),h4⟩⟩
    |goto t=>
     obtain⟨hi',hB⟩:=hq
     obtain⟨h1,h2,h3,h4,h5,_⟩:=fin (some (.goto t)) B hB
     exact⟨_,_,h1,_,rfl,.inr ⟨rfl,_,hIx _ _ _ _ hi' (zaK hl2'),h2,h3.trans (by rw[←hrec];rfl),h4⟩⟩
    |panic c=>exact hq.elim
    |outgrown=>exact hq.elim
   |ret=>exact hq.elim
   |exit id=>exact hq.elim
   |goto t=>exact hq.elim
   |panic c=>exact hq.elim
   |outgrown=>exact hq.elim
  ·rintro e B ⟨v,rfl,h⟩
   rcases h with ⟨xs,hfull,hi,hs,hl,hk⟩| ⟨pre,x,hxs,c,hi,hs,hl,hk⟩
   ·have hend:=run_endLoop (P:=P) hl (by rw[←hrec];simp[zhU])
    have hp:(rec LoopState.ready Option.none).pending=Option.none:=by rw[←hrec];rfl
    rw[hp]at hend
    refine⟨Option.none,_,hend,?_⟩
    exact⟨σ,_,rfl,hdone xs _ hfull (by simp;omega) (hI _ _ _ hi (zaK hl2')) ((World.putObj_heap_other (by omega)).trans hk)⟩
   ·have hend:=run_endLoop (P:=P) hl (by rw[←hrec];simp[zhU])
    have hp:(rec LoopState.done (some c)).pending=some c:=by rw[←hrec];rfl
    rw[hp]at hend
    refine⟨some c,_,hend,?_⟩
    exact hstop c pre x _ (by simp;omega) hxs (hIx _ _ _ _ hi (zaK hl2')) ((World.putObj_heap_other (by omega)).trans hk)
theorem zc5{α:Type}{P:Program}{n:Nat}{f:Operand}{ps:Array Tmp}{assign body:Code}{Q:Post}{σ:Sto}{ds:List Deferred}{w:World}
  {g:FuncId} {cap:Array Value} {W0:World} {n0:Nat} {C:Nat→Prop} {xs:List α} {enc:α→World→Array Value→Prop}
  (hf:ev n σ f= .func (.func g) #[] cap) (hc:zaj P g=true) (hit:Iter P g cap W0 n0 C xs enc) (hW0:Ext W0 w) (hn0:n0≤w.heap.size) (hCn:∀b,C b→b<w.heap.size)
  (henc:∀x A args,enc x A args→args.size=ps.size)
  (I:List α→World→Prop) (Ix:Code→List α→World→Prop)
  (hI:∀pre A B,I pre A→Keep (two w.heap.size) A B→I pre B)
  (hIx:∀c pre A B,Ix c pre A→Keep (two w.heap.size) A B→Ix c pre B)
  (h0:I [] w)
  (hround:∀(l:Nat) (pre:List α) (x:α) (suf:List α) (A:World) (args:Array Value),xs=pre++x::suf→w.heap.size+2≤A.heap.size→I pre A→enc x A args→
   W P (some l) n assign (zdU (fun σ1 ds1 A1=>ds1=[]∧KeepB (w.heap.size+2) C A A1∧∀A2,Keep (two w.heap.size) A1 A2→W P (some l) n body (zlO I Ix (w.heap.size+2) C (pre++ [x]) A2) σ1 [] A2) (fun _ _ _ _=>False))
    (ze8 σ (ps.zip args).toList) [] A)
  (hdone:∀w',w.heap.size+2≤w'.heap.size→I xs w'→w'.heap[w.heap.size]? =some (.deferred (some []))→Q .normal σ ({target:= .collected w.heap.size,args:=#[]}::ds) w')
  (hstop:∀c pre x suf w',w.heap.size+2≤w'.heap.size→xs=pre++x::suf→Ix c (pre++ [x]) w'→w'.heap[w.heap.size]? =some (.deferred (some []))→
   W P Option.none n c Q σ ({target:= .collected w.heap.size,args:=#[]}::ds) w'):
  W P Option.none n (.rangeFunc f ps assign body) Q σ ds w:= 
 W_rangeG hf hc hit.toG hW0 hn0 hCn henc I Ix (fun pre A B hi hk=>hI pre A B hi (hk.mono (fun b _ h=>by unfold span at h;unfold two;omega))) (fun c pre A B hi hk=>hIx c pre A B hi (hk.mono (fun b _ h=>by unfold span at h;unfold two;omega))) h0 (fun l pre x A args ⟨suf,e⟩=>hround l pre x suf A args e) (fun ys w' e=>by subst e;exact hdone w')
  (fun c pre x w' hs ⟨suf,e⟩=>hstop c pre x suf w' hs e)
theorem zfl{P:Program}{fn:Func}{R:Value→World→Prop}{e:Exit}{σ:Sto}{w:World}(he:e= .normal∨e= .ret){t:Tmp}{m D:Nat}{v:Value}(hl:fn.results.toList=[.tmp t])(hm:fn.ntmps=m)
  (hv:ev m σ (.tmp t)=v) (hD:w.heap[D]? =some (.deferred (some []))) (h:∀w',Keep (fun b=>b=D) w w'→w'.heap.size=w.heap.size→R v w'):
  retQ P fn R e σ [{target:= .collected D,args:=#[]}] w:=by
 refine⟨he,⟨D,rfl,hD,trivial⟩,[v],?_,h _ (zaK rfl) (by simp[shut])⟩
 rw[hl,hm,←hv];rfl
theorem zhR{P:Program}{fn:Func}{R:Value→World→Prop}{e:Exit}{σ:Sto}{w:World}(he:e= .normal∨e= .ret){t t':Tmp}{m D:Nat}{v v':Value}(hl:fn.results.toList=[.tmp t,.tmp t'])(hm:fn.ntmps=m)
  (hv:ev m σ (.tmp t)=v) (hv':ev m σ (.tmp t')=v') (hD:w.heap[D]? =some (.deferred (some []))) (h:∀w',Keep (fun b=>b=D) w w'→w'.heap.size=w.heap.size→R (.tuple #[v,v']) w'):
  retQ P fn R e σ [{target:= .collected D,args:=#[]}] w:=by
 refine⟨he,⟨D,rfl,hD,trivial⟩,[v,v'],?_,h _ (zaK rfl) (by simp[shut])⟩
 rw[hl,hm,←hv,←hv'];rfl
theorem zgb{α:Type}:∀(a:Ask α) (w:World),w.drawn≤(w.ask a).2.drawn
 | .done _,w=>Nat.le_refl _
 | .ask what range k,w=>by
  unfold World.ask
  dsimp only
  split
  ·exact zgb _ _
  ·exact Nat.le_trans (Nat.le_succ _) (zgb (k _) {w with drawn:=w.drawn+1})
theorem zlC(w:World)(c:Sys):w.drawn≤(w.sys c).2.drawn:=by
 have h:=zgb (Kernel.perform c w.os) w
 unfold World.sys
 split
 ·exact Nat.le_refl _
 ·rename_i heq;rw[heq]at h;exact h
theorem zfy{p:Program}{w w':World}{at_:Addr}{u:TypeId}{k:Addr}{v:Value}{b:Bool}{l:List Addr}(h:w.viewStore p at_ u k v b= .ok (w',l)):w'.drawn=w.drawn:=by
 unfold World.viewStore at h
 simp only[bind,Except.bind,pure,Except.pure,throw,throwThe,MonadExceptOf.throw]at h
 repeat' split at h
 all_goals first
  | (cases h;done)
  | (cases h;rfl)
theorem zgs{p:Program}{w w':World}{a:Addr}{v:Value}{b:Bool}{l:List Addr}(h:w.farStore p a v b= .ok (w',l)):w'.drawn=w.drawn:=by
 unfold World.farStore at h
 split at h
 ·split at h
  ·rename_i r hr
   cases h
   exact zfy hr
  ·cases h
 ·cases h
theorem zaS{α:Type}{P:Program}:∀(s:Sem α) (w:World) (v:α) (w':World),s.run P w= .ok v w'→w.drawn≤w'.drawn
 | .pure a,w,v,w',h=>by simp only[Sem.run]at h;cases h;exact Nat.le_refl _
 | .load m a k,w,v,w',h=>by
  simp only[Sem.run]at h
  split at h
  ·exact zaS _ _ _ _ h
  ·split at h
   ·exact zaS _ _ _ _ h
   ·cases h
 | .store m a x k,w,v,w',h=>by
  have hgo:(match w.cell? a with
   |some _=>if w.frozen? a then Result.halt (.unsupported (.unsafePointer "a write to bytes that a string shares")) w else k.run P (w.setCell a x)
   |Option.none=>match w.farStore P a x (m== .atomic) with
    | .ok (w,_)=>k.run P w
    | .error h=> .halt h w)=Result.ok v w'→w.drawn≤w'.drawn:=fun h=>by
   split at h
   ·split at h
    ·cases h
    ·have:=zaS k _ _ _ h;exact this
   ·split at h
    ·rename_i hf
     have:=zgs hf
     have h2:=zaS k _ _ _ h
     omega
    ·cases h
  cases x<;>first| (simp only[Sem.run]at h;cases h;done)| (simp only[Sem.run]at h;exact hgo h)
 | .new o k,w,v,w',h=>by simp only[Sem.run]at h;exact zaS (k _) {w with heap:=w.heap.push o} _ _ h
 | .shape r k,w,v,w',h=>by simp only[Sem.run]at h;exact zaS _ _ _ _ h
 | .freeze a n k,w,v,w',h=>by
  simp only[Sem.run]at h
  have:=zaS k _ _ _ h
  have e:(w.freeze a n).drawn=w.drawn:=by unfold World.freeze;split<;>rfl
  rwa [e]at this
 | .frozen a k,w,v,w',h=>by simp only[Sem.run]at h;exact zaS _ _ _ _ h
 | .getObj r k,w,v,w',h=>by
  simp only[Sem.run]at h
  split at h
  ·cases h
  ·exact zaS _ _ _ _ h
  ·cases h
 | .setObj r o k,w,v,w',h=>by
  simp only[Sem.run]at h
  split at h
  ·cases h
  ·exact zaS k {w with heap:=w.heap.setIfInBounds r o} _ _ h
  ·cases h
 | .choose q k,w,v,w',h=>by
  simp only[Sem.run]at h
  split at h
  ·exact zaS _ _ _ _ h
  ·exact Nat.le_trans (Nat.le_succ _) (zaS (k _) {w with drawn:=w.drawn+1} _ _ h)
 | .sys c k,w,v,w',h=>by
  simp only[Sem.run]at h
  exact Nat.le_trans (zlC w c) (zaS _ _ _ _ h)
 | .program k,w,v,w',h=>by simp only[Sem.run]at h;exact zaS _ _ _ _ h
 | .mark m k,w,v,w',h=>by simp only[Sem.run]at h;exact zaS k _ _ _ h
 | .halt h0,w,v,w',h=>by simp only[Sem.run]at h;cases h
def zao(c:UInt8):Value:= .int .u8 c.toNat
section
variable {P : Program} {d : Option Tmp} {ty : TypeId} {ps : String} {af : Array Edge} {g : Option (Nat × Bool)} {ρ : Operand → Value} {w : World} {K : Value → World → Prop}
theorem zeS{w w':World}{row:Option Nat}(h:w.grownBy w' row)(hd:w.drawn≤w'.drawn):Keep (fun b=>some b=row) w w':=⟨h.os,h.tape,h.output,h.size,h.block,hd⟩
theorem zb3{b:Nat}{cur:Array Value}{e:TypeId}{fr:Nat×Nat}(h:w.heap[b]? =some (.cells cur e fr))(j:Nat):w.cell? ⟨b,j,Option.none⟩=cur[j]?:=by
 simp[World.cell?,h]
theorem zii{b:Nat}{cur:Array Value}{e:TypeId}{fr:Nat×Nat}(h:w.heap[b]? =some (.cells cur e fr))(j:Nat):w.frozen? ⟨b,j,Option.none⟩=(decide (fr.1≤j) && decide (j<fr.2)):=by
 obtain⟨lo,hi⟩:=fr;simp[World.frozen?,h]
theorem zjA(w:World)(b j:Nat)(v:Value):Keep (fun i=>i=b) w (w.setCell ⟨b,j,Option.none⟩ v):=
 ⟨rfl,rfl,rfl,by simp,fun i _ hne=>RowKit.Below.heap_setCell w _ v i hne,Nat.le_refl _⟩
theorem zhO{b j:Nat}{v:Value}{cur:Array Value}{e:TypeId}{fr:Nat×Nat}(h:w.heap[b]? =some (.cells cur e fr)):
  (w.setCell ⟨b,j,Option.none⟩ v).heap[b]? =some (.cells (cur.setIfInBounds j v) e fr):=by
 simp[World.setCell,Array.getElem?_modify,h]
theorem zaq{t:TypeId}{b j:Nat}{v:Value}{cur:Array Value}{e:TypeId}{fr:Nat×Nat}(hs:tyS P t=1)(hi:(P.info? t).isSome=true)(hv:one v=true)
  (hb:w.heap[b]? =some (.cells cur e fr)) (hj:j<cur.size) (hf:fr.2≤j∨j<fr.1)
  (h:∀w',w'.heap.size=w.heap.size→w'.heap[b]? =some (.cells (cur.setIfInBounds j v) e fr)→Keep (fun i=>i=b) w w'→K undef w'):
  stK P t (.pointer (some ⟨b,j,Option.none⟩)) v w K:=by
 have hc:v.cells=#[v]:=by cases v<;>first|rfl| (simp[one]at hv)
 refine⟨by rw[hc,hs];rfl,hi,w.setCell ⟨b,j,Option.none⟩ v,?_,h _ (by simp) (zhO hb) (zjA w b j v)⟩
 rw[hc]
 have h1:(w.cell? ⟨b,j,Option.none⟩).isSome=true:=by rw[zb3 hb];simp[hj]
 have h2:w.frozen? ⟨b,j,Option.none⟩=false:=by
  rw[zii hb]
  rcases hf with hf|hf
  ·simp;omega
  ·simp;omega
 simp[stC,zfv,hv,h1,h2]
theorem zat(w:World)(o:Obj):(w.alloc o).heap[w.heap.size]? =some o:=World.alloc_heap_new w o
theorem zax(w:World)(o:Obj):(w.alloc o).heap.size=w.heap.size+1:=by simp
theorem zfr{s t e:TypeId}{x:Operand}{l:List UInt8}(hs:tyU P s=some .string)(hd:tyU P t=some (.slice e))(he:tyU P e=some (.int .u8))(hx:ρ x=vs l)
  (h:∀(c:Nat) (cur:Array Value) (w':World),l.length≤c→cur.size=c→cur.toList.take l.length=l.map zao→Ext w w'→w'.heap.size=w.heap.size+1→
   w'.heap[w.heap.size]? =some (.cells cur e (c,c+1))→K (.slice (some ⟨w.heap.size,0,Option.none⟩) l.length c) w'):
  optK (cvD (some .string) (some (.slice e)) (vs l)) w K (opW P ⟨d,.convert s t x,ty,ps,af,g⟩ ρ w K):=by
 have hrun:=run_bytes_of_string (P:=P) w s t e ⟨l.toArray⟩ hs hd he
 have hsz:(⟨l.toArray⟩:ByteArray).size=l.length:=rfl
 rw[hsz]at hrun
 have hge:=grownCap_ge w l.length 0 e
 generalize grownCap w l.length 0 e=c at hrun hge
 have hbs:(bytesRow ⟨l.toArray⟩ c).size=c:=by simp[bytesRow,hsz];omega
 rw[hbs]at hrun
 show opR P K ((do pure (.value (←convert s t (ρ x))):Sem Next).run P w)
 rw[hx]
 refine zaC hrun (h c _ _ hge hbs ?_ (Ext.drew_alloc w _) (by simp) (World.alloc_heap_new w.drew _))
 unfold bytesRow
 simp only[Array.toList_append,Array.toList_map]
 rw[List.take_append_of_le_length (by simp),List.take_of_length_le (by simp)]
 rfl
theorem zcs{s t e:TypeId}{x:Operand}{a:Option Addr}{c:Nat}{l:List UInt8}(hs:tyU P s=some (.slice e))(hd:tyU P t=some .string)(he:tyU P e=some (.int .u8))
  (hx:ρ x= .slice a l.length c) (hl:∀j (hj:j<l.length),zad w (adr a j)=some (zao l[j])) (h:K (vs l) w):
  optK (cvD (some (.slice e)) (some .string) (.slice a l.length c)) w K (opW P ⟨d,.convert s t x,ty,ps,af,g⟩ ρ w K):=by
 show opR P K ((do pure (.value (←convert s t (ρ x))):Sem Next).run P w)
 rw[hx]
 cases a with
 |none=>
  cases l with
  |nil=>
   refine zaC (v:=vs []) (w':=w) ?_ h
   simp[convert,underlying,program,Sem.run,show P.underlying s=_ from hs,show P.underlying t=_ from hd,show P.underlying e=_ from he,Conv.bytesToString]
   rfl
  |cons c l=>have:=hl 0 (by simp);simp[zad,adr]at this
 |some a=>
  have:=run_convert_bytes_back (P:=P) w s t e a c l hs he hd (fun j hj=>by
   have:=hl j hj
   simpa [zad,adr,zao] using this)
  exact zaC this h
def Src1(w:World)(u:Value)(m:Nat)(size:Nat)(news:List Value):Prop:=
 ∃a c,u= .slice a m c∧news.length=m*size∧∀j (h:j<news.length),zad w (adr a j)=some news[j]
theorem Src1.of_row{u:Value}{l:List Value}(h:Row w u l):Src1 w u l.length 1 l:=by
 obtain⟨a,c,rfl,_,hl⟩:=h
 exact⟨a,c,rfl,by simp,hl⟩
theorem zce{b:Builtin}{s x:Operand}{ts:Array TypeId}{r:Result Value}
  (h:∀v w',(Builtin.append_ ts ty #[ρ s,ρ x]).run P w= .ok v w'→K v w') (hr:∃v w',(Builtin.append_ ts ty #[ρ s,ρ x]).run P w= .ok v w'):
  opW P ⟨d,.call ⟨.builtin .append,#[s,x],ts⟩,ty,ps,af,g⟩ ρ w K:=by
 obtain⟨v,w',hv⟩:=hr
 simp only[opW,execOp,Sem.run_bind,resolve]
 simp only[Sem.run_pure,Result.andThen_ok,invoke,builtin]
 exact zaC (s:=Builtin.append_ ts ty (Array.map ρ #[s,x])) (by simpa using hv) (h v w' hv)
theorem zh3{B:Nat}{s x:Operand}{t e:TypeId}{inf:TypeInfo}{z:Value}{size bytes:Nat}(ht:tyU P t=some (.slice e))(hi:P.info? e=some inf)(hz:inf.zero=some z)
  (hsize:inf.size=size) (hby:inf.bytes=bytes) (hzs:z.cells.size=size) (hsz:0<size) {v u:Value} (hv:ρ s=v) (hu:ρ x=u) {n m:Nat} {xs news:List Value}
  (hown:w.ownsRow B e size v n xs) (hsrc:Src1 w u m size news) (h1:∀q∈news,one q=true) (h63:n+m≤maxLen) (hbytes:(n+m)*bytes≤140737488355328) (hB:B≤w.heap.size)
  (h:∀v' w',w'.ownsRow B e size v' (n+m) (xs++news)→Keep (fun b=>some b=v.ownBlock) w w'→((v'= .slice Option.none 0 0↔v= .slice Option.none 0 0∧m=0)∧∀b,some b=v'.ownBlock→some b=v.ownBlock∨w.heap.size≤b)→K v' w'):
  opW P ⟨d,.call ⟨.builtin .append,#[s,x],#[t,t]⟩,ty,ps,af,g⟩ ρ w K:=by
 obtain⟨a,c,rfl,hl,hc⟩:=hsrc
 have h1':∀q∈news,q.oneCell'=true:=fun q hq=>by
  have:=h1 q hq
  cases q<;>first|rfl| (simp[one]at this)
 have key:∃v' w',(Builtin.append_ #[t,t] ty #[v,.slice a m c]).run P w= .ok v' w'∧w'.ownsRow B e size v' (n+m) (xs++news)∧w.grownBy w' v.ownBlock∧
   (v'= .slice Option.none 0 0↔v= .slice Option.none 0 0∧m=0):=by
  cases a with
  |some a=>
   exact run_append_own (P:=P) w B t ty e inf z size bytes ht hi hz hsize hby hzs hsz v n xs hown a m c news hl (fun j q hj=>by
    obtain⟨hlt,rfl⟩:=List.getElem?_eq_some_iff.1 hj
    have:=hc j hlt
    simpa [zad,adr] using this) h1' h63 hbytes hB
  |none=>
   have hn0:news=[]:=by
    cases news with
    |nil=>rfl
    |cons q r=>have:=hc 0 (by simp);simp[zad,adr]at this
   subst hn0
   have hm0:m=0:=by
    rcases Nat.mul_eq_zero.1 hl.symm with h|h
    ·exact h
    ·omega
   subst hm0
   refine⟨v,w,?_,by simpa using hown,⟨rfl,rfl,rfl,Nat.le_refl _,fun _ _ _=>rfl⟩,by simp⟩
   have hs':inf.size=size:=hsize
   rcases hown.2 with ⟨rfl,rfl⟩| ⟨g,cap,cur,rfl,_,_,hnc,_⟩
   ·simp[Builtin.append_,underlying,program,Sem.run,show P.underlying t=_ from ht,sizeOf,typeInfo,hi,Builtin.lenOf,Builtin.firstCells]
   ·simp[Builtin.append_,underlying,program,Sem.run,show P.underlying t=_ from ht,sizeOf,typeInfo,hi,Builtin.lenOf,Builtin.firstCells,hnc,storeCells]
 obtain⟨v',w',hr,h2,h3,h4⟩:=key
 refine zce (b:= .append) (r:= .ok v' w') (fun v1 w1 hr1=>?_) ⟨v',w',by rw[hv,hu];exact hr⟩
 rw[hv,hu,hr]at hr1
 cases hr1
 refine h v' w' h2 (zeS h3 (zaS _ _ _ _ hr)) ⟨h4,fun b hb=>?_⟩
 cases a with
 |none=>
  have:v'=v:=by
   have hn0:news=[]:=by
    cases news with
    |nil=>rfl
    |cons q r=>have:=hc 0 (by simp);simp[zad,adr]at this
   subst hn0
   have hm0:m=0:=by
    rcases Nat.mul_eq_zero.1 hl.symm with h|h
    ·exact h
    ·omega
   subst hm0
   have hx:=hown.2
   rcases hown.2 with ⟨rfl,rfl⟩| ⟨g,cap,cur,rfl,_,_,hnc,_⟩
   ·simp[Builtin.append_,underlying,program,Sem.run,show P.underlying t=_ from ht,sizeOf,typeInfo,hi,Builtin.lenOf,Builtin.firstCells]at hr
    exact hr.1.symm
   ·simp[Builtin.append_,underlying,program,Sem.run,show P.underlying t=_ from ht,sizeOf,typeInfo,hi,Builtin.lenOf,Builtin.firstCells,hnc,storeCells]at hr
    exact hr.1.symm
  exact .inl (this▸hb)
 |some a=>
  have hnews:∀j u,news[j]? =some u→w.cell? (a.add j)=some u:=fun j q hj=>by
   obtain⟨hlt,rfl⟩:=List.getElem?_eq_some_iff.1 hj
   have:=hc j hlt
   simpa [zad,adr] using this
  rcases hown.2 with ⟨rfl,rfl⟩| ⟨g,cap,cur,rfl,hbg,hg,hnc,hcm,hcs,htake⟩
  ·obtain⟨v2,w2,k1,k2,_⟩:=run_append_own (P:=P) w w.heap.size t ty e inf z size bytes ht hi hz hsize hby hzs hsz _ 0 xs (⟨hown.1,.inl ⟨rfl,rfl⟩⟩) a m c news hl hnews h1' h63 hbytes (Nat.le_refl _)
   rw[k1]at hr
   cases hr
   rcases k2.2 with ⟨rfl,_⟩| ⟨g,cap,cur,rfl,hg,_⟩
   ·cases hb
   ·cases hb;exact .inr hg
  ·by_cases hroom:n+m≤cap
   ·obtain⟨w2,k1,_⟩:=run_append_fits (P:=P) w B t ty e inf size ht hi hsize g n cap xs hown a m c news hl hnews h1' hroom
    rw[k1]at hr
    cases hr
    exact .inl hb
   ·have holds:∀j u,xs[j]? =some u→w.cell? ((⟨g,0,Option.none⟩:Addr).add j)=some u:=hown.cells (g:=g) rfl
    subst hsize hby
    have k1:=run_append_grow (P:=P) w t ty e inf z ht hi hz ⟨g,0,Option.none⟩ n cap xs hown.1 holds a m c news hl hnews (by omega) (by simp only[maxLen]at h63;omega) (growslice_fits (by omega) hbytes)
    rw[k1]at hr
    cases hr
    cases hb
    exact .inr (Nat.le_refl _)
end
section
variable {P : Program} {d : Option Tmp} {ty : TypeId} {ps : String} {af : Array Edge} {g : Option (Nat × Bool)} {ρ : Operand → Value} {w : World} {K : Value → World → Prop}
theorem Row.of_owns{B:Nat}{e:TypeId}{v:Value}{n:Nat}{xs:List Value}(h:w.ownsRow B e 1 v n xs):Row w v xs:=by
 obtain⟨hl,h⟩:=h
 rw[Nat.mul_one]at hl
 rcases h with ⟨rfl,rfl⟩| ⟨g,cap,cur,rfl,_,hg,hn,_,hcs,hx⟩
 ·have:xs=[]:=List.length_eq_zero_iff.1 hl
  subst this
  exact⟨Option.none,0,rfl,Nat.le_refl _,fun j h=>by simp at h⟩
 ·refine⟨_,_,by rw[hl],by omega,fun j hj=>?_⟩
  rw[zaZ]
  show w.cell? _=_
  rw[zb3 hg,←Array.getElem?_toList,Nat.zero_add]
  have:xs[j]? =some xs[j]:=List.getElem?_eq_getElem hj
  rw[←this,←hx,List.getElem?_take,if_pos (by omega)]
def RowB(base:Nat)(w:World)(v:Value)(l:List Value):Prop:=Row w v l∧∀a n c,v= .slice (some a) n c→base≤a.block∧a.block<w.heap.size
theorem RowB.of_owns{B:Nat}{e:TypeId}{v:Value}{n:Nat}{xs:List Value}(h:w.ownsRow B e 1 v n xs):RowB B w v xs:=by
 refine⟨Row.of_owns h,fun a m c hv=>?_⟩
 rcases h.2 with ⟨h1,_⟩| ⟨g,cap,cur,h1,hg,hb,_⟩
 ·rw[h1]at hv;cases hv
 ·rw[h1]at hv;cases hv;exact⟨hg,(Array.getElem?_eq_some_iff.1 hb).1⟩
theorem Row.blocks{x:World}{v:Value}{l:List Value}(h:Row w v l)(hb:∀a n c,v= .slice (some a) n c→x.heap[a.block]? =w.heap[a.block]?):Row x v l:=by
 obtain⟨a,c,rfl,hc,hl⟩:=h
 refine⟨a,c,rfl,hc,fun j hj=>?_⟩
 cases a with
 |none=>exact hl j hj
 |some a=>
  have:=hb a _ _ rfl
  have h2:=hl j hj
  show x.cell? (a.add j)=_
  have hbl:(a.add j).block=a.block:=by unfold Addr.add;split<;>rfl
  rw[World.cell?_of_block (w:=w) (by rw[hbl];exact this)]
  exact h2
theorem zh2{t e:TypeId}{x y:Operand}{inf:TypeInfo}{z:Value}{n:Nat}(ht:tyU P t=some (.slice e))(hi:P.info? e=some inf)(hz:inf.zero=some z)(hsize:inf.size=1)
  (hx:ρ x=vi n) (hy:ρ y=vi n) (hbytes:inf.bytes*n≤281474976710656) (h63:n≤9223372036854775807) (hz1:z.cells=#[z])
  (h:K (.slice (some ⟨w.heap.size,0,Option.none⟩) n n) (w.alloc (.cells (madeCells #[z] n) e))):
  opW P ⟨d,.makeSlice t x y,ty,ps,af,g⟩ ρ w K:=by
 have hb':(inf.bytes:Int)*(n:Int)≤281474976710656:=by
  have h:((inf.bytes*n:Nat):Int)≤281474976710656:=by omega
  rwa [Int.natCast_mul]at h
 have hr:=run_make (P:=P) w t e inf z ht hi hz .i64 .i64 (n:Int) (n:Int) (by omega) (Int.le_refl _) hb' (by omega)
 simp only[Int.toNat_natCast,hsize,Nat.mul_one,hz1]at hr
 show opR P K _
 refine zaC (s:=Instr.makeSlice t (ρ x) (ρ y)) (by rw[hx,hy];exact hr) h
theorem set1{A:Array Value}(h:A.size=1)(v:Value):A.setIfInBounds 0 v=#[v]:=by
 obtain⟨l⟩:=A
 match l,h with
 | [x],_=>rfl
theorem bsC_one{t e:TypeId}{z v:Value}(hu:tyU P t=some (.slice e))(hz:tyZ P e=some z)(hs:tyS P e=1)(hz1:z.cells=#[z])(hv:v.cells=#[v]):
  bsC P t 1 [(0,v)]=some (e,#[v]):=by
 simp[bsC,hu,hz,hs,hz1,Instr.fill,hv]
 exact set1 (by simp) v
end
abbrev Lab:=List UInt8
def MapAt(w:World)(r:Nat)(l:List (Lab×Value)):Prop:=
 ∃es clk,w.heap[r]? =some (.map es clk)∧es.toList.map (fun e=>(e.key,e.val))=l.map (fun p=>(vs p.1,p.2))∧(es.toList.map (·.born)).Pairwise (·≠·)∧(∀e∈es.toList,e.born<clk)
theorem MapAt.block{w x:World}{r:Nat}{l:List (Lab×Value)}(h:MapAt w r l)(hb:x.heap[r]? =w.heap[r]?):MapAt x r l:=by
 obtain⟨es,clk,h1,h2⟩:=h
 exact⟨es,clk,hb.trans h1,h2⟩
theorem zeJ(a b:Lab):Instr.sameNow .string (vs a) (vs b)=some (a==b):=by
 simp only[vs,Instr.sameNow,Option.some.injEq]
 rw[Bool.eq_iff_iff,MapKept.bytes_beq,beq_iff_eq]
 constructor
 ·intro h
  have:=congrArg (fun x:ByteArray=>x.data.toList) h
  simpa using this
 ·rintro rfl;rfl
theorem zcE{key:Lab}:∀(es:List MapEntry) (l:List (Lab×Value)) (i:Nat),es.map (fun e=>(e.key,e.val))=l.map (fun p=>(vs p.1,p.2))→l.lookup key=Option.none→Instr.findNow .string (vs key) es i=some Option.none
 | [],[],_,_,_=>rfl
 | [],_::_,_,h,_=>by simp at h
 |_::_,[],_,h,_=>by simp at h
 |e::es,(k,v)::l,i,h,hl=>by
  simp only[List.map_cons,List.cons.injEq,Prod.mk.injEq]at h
  obtain⟨⟨h1,h2⟩,h3⟩:=h
  simp only[List.lookup_cons]at hl
  split at hl
  ·cases hl
  ·rename_i hne
   simp only[Instr.findNow,h1,zeJ,hne]
   exact zcE es l (i+1) h3 hl
theorem zex{key:Lab}{v:Value}:∀(es:List MapEntry) (l:List (Lab×Value)) (i:Nat),es.map (fun e=>(e.key,e.val))=l.map (fun p=>(vs p.1,p.2))→l.lookup key=some v→∃j,Instr.findNow .string (vs key) es i=some (some (j,v))
 | [],[],_,_,h=>by simp at h
 | [],_::_,_,h,_=>by simp at h
 |_::_,[],_,h,_=>by simp at h
 |e::es,(k,u)::l,i,h,hl=>by
  simp only[List.map_cons,List.cons.injEq,Prod.mk.injEq]at h
  obtain⟨⟨h1,h2⟩,h3⟩:=h
  simp only[List.lookup_cons]at hl
  split at hl
  ·rename_i heq
   cases hl
   exact⟨i,by simp only[Instr.findNow,h1,zeJ,heq,h2]⟩
  ·rename_i hne
   simp only[Instr.findNow,h1,zeJ,hne]
   exact zex es l (i+1) h3 hl
section
variable {P : Program} {d : Option Tmp} {ty : TypeId} {ps : String} {af : Array Edge} {g : Option (Nat × Bool)} {ρ : Operand → Value} {w : World} {K : Value → World → Prop}
theorem op_mapUpdate{t kt et:TypeId}{m k x:Operand}{r:Nat}{l:List (Lab×Value)}{key:Lab}{v:Value}(ht:tyU P t=some (.map kt et))(hk:tyU P kt=some .string)
  (hm:ρ m= .map (some r)) (hkey:ρ k=vs key) (hx:ρ x=v) (hat:MapAt w r l) (hno:l.lookup key=Option.none)
  (h:∀w',MapAt w' r (l++ [(key,v)])→Keep (fun i=>i=r) w w'→w'.heap.size=w.heap.size→K undef w'):
  opW P ⟨d,.mapUpdate t m k x,ty,ps,af,g⟩ ρ w K:=by
 obtain⟨es,clk,h1,h2,h3,h4⟩:=hat
 have hf:=zcE es.toList l 0 h2 hno
 have hrun:(Instr.mapUpdate t (.map (some r)) (vs key) v).run P w= .ok () (w.putObj r (.map (es.push {key:=vs key,val:=v,born:=clk}) (clk+1))):=by
  have hck:∀e,(Instr.checkKey e 10000 kt (vs key)).run P w= .ok () w:=fun e=>zdr hk 9999
  simp[Instr.mapUpdate,run_underlying (show P.underlying t=_ from ht),MapKept.run_getObj_map h1,hck,Instr.findKey,run_underlying (show P.underlying kt=_ from hk),hf,MapKept.run_setObj_map _ h1,Result.andThen]
  rfl
 have hlt:r<w.heap.size:=(Array.getElem?_eq_some_iff.1 h1).1
 have hat':MapAt (w.putObj r (.map (es.push {key:=vs key,val:=v,born:=clk}) (clk+1))) r (l++ [(key,v)]):=by
  refine⟨_,_,World.putObj_heap_same hlt,by simp[h2],?_,?_⟩
  ·simp only[Array.toList_push,List.map_append,List.map_cons,List.map_nil,List.pairwise_append]
   refine⟨h3,by simp,fun a ha b hb=>?_⟩
   simp at hb;subst hb
   obtain⟨e,he,rfl⟩:=List.mem_map.1 ha
   exact Nat.ne_of_lt (h4 e he)
  ·intro e he
   simp only[Array.toList_push,List.mem_append,List.mem_singleton]at he
   rcases he with he|rfl
   ·exact Nat.lt_succ_of_lt (h4 e he)
   ·exact Nat.lt_succ_self _
 have hfin:=h _ hat' (zaK rfl) (by simp)
 show opR P K ((do Instr.mapUpdate t (ρ m) (ρ k) (ρ x);pure .skip:Sem Next).run P w)
 rw[hm,hkey,hx]
 simp only[Sem.run_bind,hrun,Result.andThen_ok,Sem.run_pure]
 exact hfin
theorem new_map(w:World):MapAt (w.alloc (.map #[] 0)) w.heap.size []:=⟨_,_,zat w _,rfl,by simp,by simp⟩
end
inductive Pln
 |fin
 |run (pl:List (Nat×Bool)) (p:Pln)
 |fork (m:Nat) (is:List Nat) (p:Nat→Pln)
def Pln.len:Pln→Nat
 | .fin=>0
 | .run pl p=>pl.length+p.len
 | .fork m _ _=>m+1
def zeL(ops:Array Oper)(isB:Nat→Bool):List (Nat×Bool)→Array Bool→Option (Array Bool)
 | [],l=>some l
 | (i,true)::pl,l=>if (rdy ops l).contains i && Region.free .any ops l i && !isB i then zeL ops isB pl (l.setIfInBounds i true) else Option.none
 | (i,false)::pl,l=>if rdy ops l==[i] then zeL ops isB pl (l.setIfInBounds i true) else Option.none
def zi3(ops:Array Oper)(isB:Nat→Bool):Pln→Array Bool→Bool
 | .fin,l=>(rdy ops l).isEmpty
 | .run pl p,l=>match zeL ops isB pl l with|some l'=>zi3 ops isB p l'|Option.none=>false
 | .fork m is p,l=>(rdy ops l==is) && !is.isEmpty && is.all fun i=>(p i).len==m && zi3 ops isB (p i) (l.setIfInBounds i true)
section
variable {P : Program} {ops : Array Oper} {n : Nat} {isB : Nat → Bool} {K : Sto → World → Prop} {S : Nat → Prop}
theorem zhw(hsel:Region.noSelect ops=true)(hB:zdM ops isB=true){f:Nat}{l':Array Bool}:∀(pl:List (Nat×Bool)) (l:Array Bool) (σ:Sto) (w:World),zch ops l→
  zeL ops isB pl l=some l'→zfW P ops n S isB pl σ w (fun σ' w'=>zch ops l'→anyK P ops n isB K (Keep S w') f l' σ' w')→anyK P ops n isB K (Keep S w) (pl.length+f) l σ w
 | [],l,σ,w,hcl,hp,h=>by
  cases hp
  rw[List.length_nil,Nat.zero_add]
  exact h hcl
 | (i,true)::pl,l,σ,w,hcl,hp,h=>by
  unfold zeL at hp
  split at hp
  ·rename_i hc
   simp only[Bool.and_eq_true,Bool.not_eq_true',List.contains_iff_mem]at hc
   obtain⟨⟨hr,hfree⟩,hni⟩:=hc
   obtain⟨v,hq,h⟩:=h
   obtain⟨_,oi,hoi,_⟩:=mem_ready.1 hr
   have hd:zjf ops i=oi.dst:=by simp[zjf,hoi]
   rw[hd]at h
   have:=zgU hoi hsel hB hni (pl.length+f) (Keep S w) l σ w hcl (Region.free_spec hoi hfree) hr hq (Keep.refl S w)
    (zhw hsel hB pl _ _ w (zbH hcl hr) hp h)
   rwa [show ((i,true)::pl).length+f=(pl.length+f)+1 from by simp;omega]
  ·cases hp
 | (i,false)::pl,l,σ,w,hcl,hp,h=>by
  unfold zeL at hp
  split at hp
  ·rename_i hr
   rw[beq_iff_eq]at hr
   have hmem:i∈rdy ops l:=by rw[hr];exact List.mem_singleton.2 rfl
   rw[show ((i,false)::pl).length+f=(pl.length+f)+1 from by simp;omega]
   refine⟨fun h0=>(by rw[hr]at h0;cases h0),fun j hj=>?_⟩
   rw[hr]at hj
   obtain rfl:=List.mem_singleton.1 hj
   refine zb1 (fun σ' w' ⟨hor,hk⟩=>?_) h
   have hrec:=zhw hsel hB pl _ σ' w' (zbH hcl hmem) hp hk
   cases hb:isB j with
   |true=>exact .inl ⟨rfl,zcJ _ _ _ _ _ hrec⟩
   |false=>
    rw[hb]at hor
    have hkeep:=hor.resolve_left (by simp)
    exact .inr ⟨rfl,Keep S w',fun x hx=>hkeep.trans hx,Keep.refl S w',hrec⟩
  ·cases hp
def zj8(P:Program)(ops:Array Oper)(n:Nat)(S:Nat→Prop)(isB:Nat→Bool)(K:Sto→World→Prop):Pln→Sto→World→Prop
 | .fin,σ,w=>K σ w
 | .run pl p,σ,w=>zfW P ops n S isB pl σ w (fun σ' w'=>zj8 P ops n S isB K p σ' w')
 | .fork _ is p,σ,w=>∀i∈is,opAt P ops n i σ w (fun σ' w'=>(isB i=true∨Keep S w w')∧zj8 P ops n S isB K (p i) σ' w')
theorem zdH{K K':Sto→World→Prop}(hk:∀σ w,K σ w→K' σ w):∀(pl:List (Nat×Bool)) (σ:Sto) (w:World),zfW P ops n S isB pl σ w K→zfW P ops n S isB pl σ w K'
 | [],σ,w,h=>hk σ w h
 | (i,true)::pl,σ,w,⟨v,h1,h2⟩=>⟨v,h1,zdH hk pl _ _ h2⟩
 | (i,false)::pl,σ,w,h=>zb1 (fun σ' w' ⟨h1,h2⟩=>⟨h1,zdH hk pl _ _ h2⟩) h
theorem zdx(hsel:Region.noSelect ops=true)(hB:zdM ops isB=true):∀(p:Pln) (l:Array Bool) (σ:Sto) (w:World),zch ops l→
  zi3 ops isB p l=true→zj8 P ops n S isB K p σ w→anyK P ops n isB K (Keep S w) p.len l σ w
 | .fin,l,σ,w,_,hp,h=>⟨by simpa [zi3] using hp,h⟩
 | .run pl p,l,σ,w,hcl,hp,h=>by
  unfold zi3 at hp
  split at hp
  ·rename_i l' hl'
   exact zhw hsel hB pl l σ w hcl hl' (zdH (fun σ' w' hk hcl'=>zdx hsel hB p l' σ' w' hcl' hp hk) pl σ w h)
  ·cases hp
 | .fork m is p,l,σ,w,hcl,hp,h=>by
  simp only[zi3,Bool.and_eq_true,beq_iff_eq,List.all_eq_true,Bool.not_eq_true']at hp
  obtain⟨⟨hr,hne⟩,hall⟩:=hp
  refine⟨fun h0=>(by rw[hr]at h0;subst h0;cases hne),fun j hj=>?_⟩
  have hj':=hj
  rw[hr]at hj'
  obtain⟨hlen,hpj⟩:=hall j hj'
  refine zb1 (fun σ' w' ⟨hor,hk⟩=>?_) (h j hj')
  have hrec:=zdx hsel hB (p j) _ σ' w' (zbH hcl hj) hpj hk
  rw[hlen]at hrec
  cases hb:isB j with
  |true=>exact .inl ⟨rfl,zcJ _ _ _ _ _ hrec⟩
  |false=>
   rw[hb]at hor
   have hkeep:=hor.resolve_left (by simp)
   exact .inr ⟨rfl,Keep S w',fun x hx=>hkeep.trans hx,Keep.refl S w',hrec⟩
end
def treeOk(ops:Array Oper)(isB:Nat→Bool)(p:Pln):Bool:=
 Region.noSelect ops && zbd ops && zdM ops isB && decide (p.len=ops.size) && zi3 ops isB p (Array.replicate ops.size false)
def allL{α:Type}:List α→(α→Prop)→Prop
 | [],_=>True
 | [a],f=>f a
 |a::l,f=>f a∧allL l f
theorem zkh{α:Type}{f:α→Prop}:∀{l:List α},allL l f→∀a∈l,f a
 | [],_,a,h=>by cases h
 | [b],h,a,ha=>by rw[List.mem_singleton.1 ha];exact h
 |b::c::l,h,a,ha=>by
  rcases List.mem_cons.1 ha with rfl|ha
  ·exact h.1
  ·exact zkh h.2 a ha
def zhr(P:Program)(gd:Nat→Option Tmp)(ops:List Oper)(n:Nat)(S:Nat→Prop)(isB:Nat→Bool):Pln→Sto→World→(Sto→World→Prop)→Prop
 | .fin,σ,w,K=>K σ w
 | .run pl p,σ,w,K=>zbW P gd ops n S isB pl σ w (fun σ' w'=>zhr P gd ops n S isB p σ' w' K)
 | .fork _ is p,σ,w,K=>allL is fun i=>zbW P gd ops n S isB [(i,false)] σ w (fun σ' w'=>zhr P gd ops n S isB (p i) σ' w' K)
section
variable {P : Program} {n : Nat} {S : Nat → Prop} {isB : Nat → Bool} {K : Sto → World → Prop}
theorem zd1{ops:Array Oper}:∀(p:Pln) (σ:Sto) (w:World),zhr P (dstL ops.toList) ops.toList n S isB p σ w K→zj8 P ops n S isB K p σ w
 | .fin,_,_,h=>h
 | .run pl p,σ,w,h=>zdH (fun σ' w' hk=>zd1 p σ' w' hk) pl σ w (zbE pl σ w h)
 | .fork m is p,σ,w,h=>fun i hi=>by
  have:=zbE _ σ w (zkh h i hi)
  exact zb1 (fun σ' w' ⟨h1,h2⟩=>⟨h1,zd1 (p i) σ' w' h2⟩) this
variable {r : Option Nat} {Q : Post} {σ : Sto} {ds : List Deferred} {w : World}
theorem znd{id:Nat}{ops:Array Oper}(isB:Nat→Bool)(p:Pln)(S:Nat→Prop)
  (hm:P.follows .mixedOrders=true) (hok:treeOk ops isB p=true)
  (h:∀(gd:Nat→Option Tmp) (K:Sto→World→Prop) (x:World),gd=dstL ops.toList→Keep S w x→x=w.drew→(∀σ' w',Q .normal σ' ds w'→K σ' w')→zhr P gd ops.toList n S isB p σ x K):
  W P r n (.region id ops true) Q σ ds w:=by
 simp only[treeOk,Bool.and_eq_true,decide_eq_true_eq]at hok
 obtain⟨⟨⟨⟨h1,h2⟩,h3⟩,h4⟩,h5⟩:=hok
 refine wpIn_region_any hm ?_
 have:=zdx (K:=fun σ w=>Q .normal σ ds w) h1 h3 p _ σ w.drew (ze4 ops) h5 (zd1 p σ w.drew (h _ _ _ rfl (Keep.drew S w) rfl (fun _ _ h=>h)))
 rw[h4]at this
 exact zbM h2 (fun σ w hk=>⟨σ,ds,rfl,hk⟩) _ _ _ _ (zcJ _ _ _ _ _ this)
variable {gd : Nat → Option Tmp} {ops : List Oper}
theorem zmU:zhr P gd ops n S isB .fin σ w K=K σ w:=nr rfl
theorem zmT(pl:List (Nat×Bool))(p:Pln):zhr P gd ops n S isB (.run pl p) σ w K=zbW P gd ops n S isB pl σ w (fun σ' w'=>zhr P gd ops n S isB p σ' w' K):=nr rfl
theorem zkY(m:Nat)(is:List Nat)(p:Nat→Pln):zhr P gd ops n S isB (.fork m is p) σ w K=allL is fun i=>zbW P gd ops n S isB [(i,false)] σ w (fun σ' w'=>zhr P gd ops n S isB (p i) σ' w' K):=nr rfl
end
section
variable {α : Type} {f : α → Prop} {a b : α} {l : List α}
theorem zfu:allL [a] f=f a:=nr rfl
theorem zeC:allL (a::b::l) f=(f a∧allL (b::l) f):=nr rfl
end
def zcK(n:Nat):Nat→Prop:=fun b=>n≤b
theorem Ext.keep{S:Nat→Prop}{w x:World}(h:Ext w x):Keep S w x:=h.mono (fun _ _ h=>h.elim)
attribute [go_sem ↓] zmU zmT zkY
set_option maxRecDepth 10000
theorem zbJ{n0:Nat}{C:Nat→Prop}{w x:World}(hk:KeepB n0 C w x){a:Addr}(hn:a.block<n0)(hC:¬C a.block){v:Value}(h:w.cell? a=some v):x.cell? a=some v:=by
 rw[←h];exact World.cell?_of_block (w:=w) (hk.block a.block hn hC)
theorem zc1{w x:World}(hk:Ext w x){a:Addr}{v:Value}(h:w.cell? a=some v):x.cell? a=some v:=zeB hk (fun h=>h) h
theorem zak{α:Type}{l:List α}{i:Nat}(h:i<l.length):l.take (i+1)=l.take i++ [l[i]]:=by
 rw[List.take_succ_eq_append_getElem h]
theorem zbs{α:Type}{l:List α}{i:Nat}(h:i<l.length):l=l.take i++l[i]::l.drop (i+1):=by
 rw[←List.drop_eq_getElem_cons h,List.take_append_drop]
theorem zcn{α:Type}{l:List α}{pre suf:List (α×Nat)}{x:α×Nat}(h:l.zipIdx=pre++x::suf):∃hk:pre.length<l.length,x=(l[pre.length],pre.length):=by
 have hk:pre.length<l.length:=by have:=congrArg List.length h;simp at this;omega
 refine⟨hk,?_⟩
 have h1:l.zipIdx[pre.length]? =some x:=by rw[h];simp
 rw[List.getElem?_zipIdx]at h1
 simp[hk]at h1
 exact h1.symm
def zmR(p:UInt8×Nat)(_:World)(args:Array Value):Prop:=args=#[vi p.2,zao p.1]
theorem zkG{W0:World}{n0:Nat}{C:Nat→Prop}{b:Nat}{l:List UInt8}(hb:W0.cell? ⟨b,0,Option.none⟩=some (vs l))(hbn:b<n0)(hbC:¬C b)(hl:l.length≤9000000000000000000):
  Iter Tryz.prog 113 #[.pointer (some ⟨b,0,Option.none⟩)] W0 n0 C l.zipIdx zmR:=by
 intro lp J Jx W hW hnW hJ hJx hY h0
 refine enter Tryz.func113 Tryz.ntmps113 rfl rfl ?_
 repeat (first|refine c_r ?_|refine rg0 ?_)
 refine zaD (fun m σ ds v=>ds=[]∧∃i,i+m=l.length∧σ 3=vi i∧σ 0= .func (.yield lp) #[] #[]∧σ 1= .pointer (some ⟨b,0,Option.none⟩)∧J (l.zipIdx.take i) v∧KeepB n0 C W v) l.length ?_ ?_
 ·refine⟨rfl,0,by omega,?_,?_,?_,by simpa using h0,KeepB.refl _ _ _⟩<;>simp only[go_sem]<;>rfl
 ·rintro m σ ds v ⟨rfl,i,him,h3,hf0,hf1,hj,hK0⟩
  have hcell:zad v (some ⟨b,0,Option.none⟩)=some (vs l):=zbJ hK0 hbn hbC (zc1 hW hb)
  repeat refine c_r ?_
  refine rg4 h3 hf0 hf1 hcell ?_
  refine wc0 ?_ ?_
  ·intro hlt
   simp only[decide_eq_true_eq]at hlt
   have hi:i<l.zipIdx.length:=by simp;omega
   repeat refine c_r ?_
   refine rq ?_;intro gd K hgd hK
   try simp (disch:=first|omega|assumption|rfl) only[go_sem,h3,hf0,hf1,hcell]
   refine Yld.mono (hY (l.zipIdx.take i) l.zipIdx[i] (l.zipIdx.drop (i+1)) v _ (zbs hi) hj hK0 (by simp[zmR,zao])) ?_
   rintro u x (⟨rfl,hj',hk'⟩| ⟨rfl,hjx⟩)
   ·try simp only[go_sem]
    refine hK _ _ ?_;clear hK hgd;clear K;try clear gd
    repeat refine c_r ?_
    refine wc0 ?_ ?_
    ·intro h;simp at h
    ·intro _
     repeat refine c_r ?_
     refine rg1 h3 ?_
     refine zaz ?_
     refine⟨m - 1,by omega,rfl,i+1,by omega,?_,?_,?_,?_,hK0.trans hk'⟩
     ·simp only[go_sem];rfl
     ·simp only[go_sem,hf0]
     ·simp only[go_sem,hf1]
     ·rw[zak hi];exact hj'
   ·try simp only[go_sem]
    refine hK _ _ ?_;clear hK hgd;clear K;try clear gd
    repeat refine c_r ?_
    refine wc0 ?_ ?_
    ·intro _
     repeat refine c_r ?_
     refine zaw (by simp) rfl (.inr ⟨_,_,_,zbs hi,hjx⟩)
    ·intro h;simp at h
  ·intro hge
   simp only[decide_eq_false_iff_not]at hge
   repeat refine c_r ?_
   refine zaw (by simp) rfl (.inl ?_)
   have:l.zipIdx.take i=l.zipIdx:=List.take_of_length_le (by simp;omega)
   rw[this]at hj;exact hj
theorem zen(w:World)(l:List UInt8)(hl:l.length≤9000000000000000000):Fn Tryz.prog 73 #[vs l] w (fun v w'=>Ext w w'∧∃cap,v= .func (.func 113) #[] cap∧
  ∀C:Nat→Prop,(∀b,C b→b<w.heap.size)→Iter Tryz.prog 113 cap w' w'.heap.size C l.zipIdx zmR):=by
 refine enter Tryz.func73 Tryz.ntmps73 rfl rfl ?_
 repeat refine c_r ?_
 refine rg0 ?_
 repeat refine c_r ?_
 refine rg0 ?_
 repeat refine c_r ?_
 refine rt0 Tryz.ntmps73 ?_
 refine⟨Ext.alloc _ _,_,rfl,fun C hC=>zkG ?_ (by simp) (fun h=>by have:=hC _ h;omega) hl⟩
 rw[zb3 (zat _ _)];rfl
def zhn(c:UInt8):UInt8:=if 65≤c∧c≤90 then c+32 else c
def zaI(l:List UInt8):List UInt8:=l.map zhn
def zbh(l:List UInt8)(k:Nat):List UInt8:=zaI (l.take k)++l.drop k
theorem zdZ{l:List UInt8}{k:Nat}(hk:k<l.length):(zbh l k).set k (zhn l[k])=zbh l (k+1):=by
 unfold zbh zaI
 have e:(List.map zhn (l.take k)).length=k:=by simp;omega
 rw[zak hk,List.map_append,List.set_append_right _ _ (by omega),e,Nat.sub_self,List.drop_eq_getElem_cons hk,List.set_cons_zero]
 simp
theorem zkR(l:List UInt8)(k:Nat):(zbh l k).length=l.length:=by simp[zbh,zaI];omega
theorem zj1{c:UInt8}(h:65≤c∧c≤90):zhn c=c+32:=if_pos h
theorem foldB_no{c:UInt8}(h:¬(65≤c∧c≤90)):zhn c=c:=if_neg h
theorem zfU{l:List UInt8}{k:Nat}(hk:k<l.length)(h:¬(65≤l[k]∧l[k]≤90)):zbh l k=zbh l (k+1):=by
 rw[←zdZ hk,foldB_no h]
 apply List.ext_getElem?
 intro j
 rw[List.getElem?_set]
 split
 ·rename_i hj;subst hj
  rw[if_pos (by rw[zkR];exact hk)]
  unfold zbh zaI
  have e:(List.map zhn (l.take k)).length=k:=by simp;omega
  rw[List.getElem?_append_right (by omega),e]
  simp[hk]
 ·rfl
theorem zc8(w:World)(l:List UInt8)(hl:l.length≤9000000000000000000):Fn Tryz.prog 112 #[vs l] w (fun v w'=>v=vs (zaI l)∧Ext w w'):=by
 refine enter Tryz.func112 Tryz.ntmps112 rfl rfl ?_
 repeat (first|refine c_r ?_|refine rg0 ?_)
 repeat refine c_r ?_
 refine rq ?_;intro gd K hgd hK
 try simp only[go_sem]
 refine zfr rfl rfl rfl (vq0) ?_
 intro c cur w1 hlc hcur htake hE1 hsz1 hb1
 try simp only[go_sem]
 refine zaq rfl rfl rfl (zat _ _) (by simp) (by simp) ?_
 intro w2 hsz2 hb2 hk2
 simp only[World.size_alloc]at hsz2 hb2 hk2
 have hE2:Ext w w2:=hE1.trans (Keep.to_ext (Ext.alloc w1 _) rfl (fun b hb=>by omega) hk2)
 have hgb:w2.heap[w.heap.size]? =some (.cells cur 5 (c,c+1)):=(hk2.block _ (by simp;omega) (by omega)).trans ((RowKit.Below.heap_alloc _ _ _ (by omega)).trans hb1)
 rw[hsz1]at hsz2 hb2 ⊢
 simp at hb2
 clear hk2 hb1
 refine hK _ _ ?_;clear hK hgd;clear K;try clear gd
 repeat refine c_r ?_
 refine rq ?_;intro gd K hgd hK
 try simp only[go_sem]
 refine Fn.mono (zen _ _ hl) ?_
 rintro _ w3 ⟨hE3,cap,rfl,hit⟩
 try simp only[go_sem]
 refine hK _ _ ?_;clear hK hgd;clear K;try clear gd
 repeat refine c_r ?_
 have hE3':=hE2.trans hE3
 have hsz3:=hE3.size
 refine zc5 (g:=113) (cap:=cap) (vq0) rfl (hit (fun b=>b=w.heap.size) (fun b hb=>by omega)) (Keep.refl _ _) (Nat.le_refl _) (fun b hb=>by omega)
  (fun x A args h=>by rw[h];rfl)
  (fun pre A=>Ext w A∧A.heap[w.heap.size+1]? =some (.cells #[.slice (some ⟨w.heap.size,0,Option.none⟩) l.length c] 43 (0,0))∧
   ∃cur:Array Value,cur.size=c∧cur.toList.take l.length=(zbh l pre.length).map zao∧A.heap[w.heap.size]? =some (.cells cur 5 (c,c+1)))
  (fun _ _ _=>False) ?_ (fun _ _ _ _ h _=>h.elim) ?_ ?_ ?_ (fun _ _ _ _ _ _ _ h _=>h.elim)
 ·rintro pre A B ⟨h1,h2,cu,h3,h4,h5⟩ hk
  have ne1:¬two w3.heap.size (w.heap.size+1):=by unfold two;omega
  have ne2:¬two w3.heap.size w.heap.size:=by unfold two;omega
  exact⟨Keep.to_ext h1 rfl (fun b hb=>by unfold two at hb;omega) hk,(hk.block _ (Array.getElem?_eq_some_iff.1 h2).1 ne1).trans h2,cu,h3,h4,
   (hk.block _ (Array.getElem?_eq_some_iff.1 h5).1 ne2).trans h5⟩
 ·refine⟨hE3',(hE3.block _ (by omega) (fun h=>h)).trans hb2,cur,hcur,?_,(hE3.block _ (by omega) (fun h=>h)).trans hgb⟩
  simpa [zbh,zaI] using htake
 ·rintro lp pre x suf A args hxs hszA ⟨hEA,hbox,cu,hcu,hpre,hrow⟩ rfl
  obtain⟨hk,rfl⟩:=zcn hxs
  dsimp only
  repeat (first|refine c_r ?_| (refine zd4 (by rfl) ?_;intro gd K hgd hK;simp (disch:=first|omega|assumption|rfl) only[go_sem,zao];refine hK _ _ ?_;clear hK hgd;clear K gd))
  refine⟨rfl,KeepB.refl _ _ _,fun A2 hA2=>?_⟩
  have ne1:¬two w3.heap.size (w.heap.size+1):=by unfold two;omega
  have ne2:¬two w3.heap.size w.heap.size:=by unfold two;omega
  have hbox2:=(hA2.block _ (Array.getElem?_eq_some_iff.1 hbox).1 ne1).trans hbox
  have hrow2:=(hA2.block _ (Array.getElem?_eq_some_iff.1 hrow).1 ne2).trans hrow
  have hE2':Ext w A2:=Keep.to_ext hEA rfl (fun b hb=>by unfold two at hb;omega) hA2
  have hs2:=hA2.size
  clear hbox hrow hA2 hit hb2 hgb
  have hcu':cu[pre.length]? =some (zao (l[pre.length])):=by
   have:(cu.toList.take l.length)[pre.length]? =some (zao (l[pre.length])):=by
    rw[hpre,List.getElem?_map]
    unfold zbh
    rw[List.getElem?_append_right (by simp[zaI];omega)]
    have e:(zaI (l.take pre.length)).length=pre.length:=by simp[zaI];omega
    rw[e];simp[hk]
   rw[List.getElem?_take,if_pos hk]at this
   simpa using this
  have hbit:∀u:UInt8,(65≤u↔(65:Int)≤u.toNat)∧(u≤90↔(u.toNat:Int)≤90):=fun u=>by
   rw[UInt8.le_iff_toNat_le,UInt8.le_iff_toNat_le]
   constructor
   ·show 65≤u.toNat↔_;omega
   ·show u.toNat≤90↔_;omega
  have hkeep:∀B,A2=B→¬(65≤l[pre.length]∧l[pre.length]≤90)→(Ext w B∧B.heap[w.heap.size+1]? =some (.cells #[.slice (some ⟨w.heap.size,0,Option.none⟩) l.length c] 43 (0,0))∧
   ∃cur:Array Value,cur.size=c∧cur.toList.take l.length=(zbh l (pre++ [(l[pre.length],pre.length)]).length).map zao∧B.heap[w.heap.size]? =some (.cells cur 5 (c,c+1)))∧
    KeepB (w3.heap.size+2) (fun b=>b=w.heap.size) A2 B:=by
   rintro B rfl hno
   refine⟨⟨hE2',hbox2,cu,hcu,?_,hrow2⟩,KeepB.refl _ _ _⟩
   rw[hpre,zfU hk hno];simp
  generalize hcc:l[pre.length]=cc at*
  repeat refine c_r ?_
  refine rq ?_;intro gd K hgd hK
  have hg2:∀n σ b,zaE gd n σ (some (2,b))=zap (ev n σ (.tmp 14)) b:=(fun n σ b=>by rw[zag,show gd 2=some 14 from(by rw[hgd];rfl)];rfl)
  by_cases h65:(65:Int)≤cc.toNat
  ·try simp (disch:=first|omega|assumption|rfl) only[go_sem,hg2,zag,zb8,zga,decide_eq_true h65,beq_self_eq_true]
   refine hK _ _ ?_;clear hK hgd;clear K;try clear gd
   repeat refine c_r ?_
   refine wc0 ?_ ?_
   ·intro h90
    simp only[decide_eq_true_eq]at h90
    have hc1:zad A2 (some ⟨w.heap.size+1,0,Option.none⟩)=some (.slice (some ⟨w.heap.size,0,Option.none⟩) l.length c):=by
     show A2.cell? _=_
     rw[zb3 hbox2];rfl
    repeat refine c_r ?_
    refine rq ?_;intro gd K hgd hK
    try simp (disch:=first|omega|assumption|rfl) only[go_sem,hc1]
    refine zaq rfl rfl rfl hrow2 (by omega) (by simp;omega) ?_
    intro w5 hsz5 hb5 hk5
    refine hK _ _ ?_;clear hK hgd;clear K;try clear gd
    repeat refine c_r ?_
    have hset:((zbh l pre.length).map zao).set pre.length (.int .u8 (↑cc.toNat+97 - 65))=(zbh l (pre.length+1)).map zao:=by
     rw[←zdZ hk,hcc,List.map_set]
     congr 1
     rw[zj1 ⟨(hbit cc).1.2 h65,(hbit cc).2.2 h90⟩]
     unfold zao
     congr 1
     have:(cc+32).toNat=cc.toNat+32:=by
      rw[UInt8.toNat_add];show(cc.toNat+32) % 256=_;omega
     rw[this];push_cast;omega
    refine⟨⟨Keep.to_ext hE2' rfl (fun b hb=>by omega) hk5,?_,cu.setIfInBounds pre.length (.int .u8 (↑cc.toNat+97 - 65)),by simpa using hcu,?_,hb5⟩,hk5.toB (by omega) (fun i _ h=>h)⟩
    ·exact(hk5.block _ (by omega) (by omega)).trans hbox2
    ·rw[Array.toList_setIfInBounds,List.take_set,hpre,hset];simp
   ·intro h90
    simp only[decide_eq_false_iff_not]at h90
    repeat refine c_r ?_
    exact hkeep _ rfl (fun h=>h90 ((hbit cc).2.1 h.2))
  ·try simp (disch:=first|omega|assumption|rfl) only[go_sem,hg2,zag,zb8,zga,decide_eq_false h65,beq_self_eq_true]
   refine hK _ _ ?_;clear hK hgd;clear K;try clear gd
   repeat refine c_r ?_
   refine wc0 ?_ ?_
   ·intro h;simp at h
   ·intro _
    repeat refine c_r ?_
    exact hkeep _ rfl (fun h=>h65 ((hbit cc).1.1 h.1))
 ·rintro w4 hsz4 ⟨hE4,hbox,cu,hcu,hpre,hrow⟩ hD
  have hc1:zad w4 (some ⟨w.heap.size+1,0,Option.none⟩)=some (.slice (some ⟨w.heap.size,0,Option.none⟩) l.length c):=by
   show w4.cell? _=_
   rw[zb3 hbox];rfl
  have hfull:zbh l l.zipIdx.length=zaI l:=by simp[zbh]
  rw[hfull]at hpre
  have hlen:(zaI l).length=l.length:=by simp[zaI]
  repeat refine c_r ?_
  refine rq ?_;intro gd K hgd hK
  try simp (disch:=first|omega|assumption|rfl) only[go_sem,hc1]
  rw[←hlen]
  refine zcs rfl rfl rfl (vq0) ?_ ?_
  ·intro j hj
   rw[hlen]at hj
   rw[zaZ]
   show w4.cell? _=_
   rw[zb3 hrow]
   have:(cu.toList.take l.length)[j]? =some (zao ((zaI l)[j]'(by omega))):=by
    rw[hpre,List.getElem?_map,List.getElem?_eq_getElem (by omega)];rfl
   rw[List.getElem?_take,if_pos hj]at this
   simpa using this
  try simp only[go_sem]
  refine hK _ _ ?_;clear hK hgd;clear K;try clear gd
  repeat refine c_r ?_
  refine zfl (by simp) rfl Tryz.ntmps112 (by simp only[go_sem];rfl) hD ?_
  intro w5 hk5 _
  exact⟨rfl,Keep.to_ext hE4 rfl (fun b hb=>by omega) hk5⟩
def cmpI(a b:Int):Int:=if a<b then -1 else if b<a then 1 else 0
def orI:List Int→Int
 | []=>0
 |a::l=>if a=0 then orI l else a
def lexC{α:Type}(cf:α→α→Int):List α→List α→Int
 | [],[]=>0
 | [],_::_=> -1
 |_::_,[]=>1
 |x::l,y::m=>if cf x y=0 then lexC cf l m else cf x y
theorem orI_drop{l:List Int}{i:Nat}(h:i<l.length):orI (l.drop i)=if l[i]=0 then orI (l.drop (i+1)) else l[i]:=by
 rw[List.drop_eq_getElem_cons h];rfl
theorem zcD{α:Type}{cf:α→α→Int}{a b:List α}{i:Nat}(ha:i<a.length)(hb:i<b.length):lexC cf (a.drop i) (b.drop i)=if cf a[i] b[i]=0 then lexC cf (a.drop (i+1)) (b.drop (i+1)) else cf a[i] b[i]:=by
 rw[List.drop_eq_getElem_cons ha,List.drop_eq_getElem_cons hb];rfl
theorem zcW{α:Type}{cf:α→α→Int}:∀{a b:List α},a=[]∨b=[]→lexC cf a b=cmpI a.length b.length
 | [],[],_=>rfl
 | [],_::_,_=>by simp only[lexC,cmpI,List.length_cons,List.length_nil];rw[if_pos (by omega)]
 |_::_,[],_=>by simp only[lexC,cmpI,List.length_cons,List.length_nil];rw[if_neg (by omega),if_pos (by omega)]
 |_::_,_::_,h=>by simp at h
end Go.Proofs.YtkpdfhbpdkifoaaGreatDoor
namespace Go.Proofs.YtkpdfhbpdkifoaaGreatDoor.N_int
open Go Go.Proofs.YtkpdfhbpdkifoaaGreatDoor
set_option maxRecDepth 10000
theorem zet(w:World)(a:Int):Fn Tryz.prog 101 #[.int .i64 a] w (fun v w'=>v= .bool false∧w'=w):=by
 refine enter Tryz.func101 Tryz.ntmps101 rfl rfl ?_
 repeat (first|refine c_r ?_| (refine zd4 (by rfl) ?_;intro gd K hgd hK;simp (disch:=first|omega|assumption|rfl) only[go_sem,decide_true];refine hK _ _ ?_;clear hK hgd;clear K gd))
 refine rt0 Tryz.ntmps101 ?_
 exact⟨rfl,rfl⟩
theorem Compare_ok(w:World)(a b:Int):Fn Tryz.prog 67 #[.int .i64 a,.int .i64 b] w (fun v w'=>v=vi (cmpI a b)∧w'=w):=by
 refine enter Tryz.func67 Tryz.ntmps67 rfl rfl ?_
 repeat refine c_r ?_
 refine rg0 ?_
 repeat refine c_r ?_
 refine rq ?_;intro gd K hgd hK
 try simp only[go_sem]
 refine Fn.mono (zet _ _) ?_
 rintro _ _ ⟨rfl,rfl⟩
 try simp only[go_sem]
 refine hK _ _ ?_;clear hK hgd;clear K;try clear gd
 repeat refine c_r ?_
 refine rq ?_;intro gd K hgd hK
 try simp only[go_sem]
 refine Fn.mono (zet _ _) ?_
 rintro _ _ ⟨rfl,rfl⟩
 try simp only[go_sem]
 refine hK _ _ ?_;clear hK hgd;clear K;try clear gd
 repeat refine c_r ?_
 refine rg0 ?_
 repeat refine c_r ?_
 refine wc0 ?_ ?_
 ·intro h;cases h
 intro _
 repeat refine c_r ?_
 refine rg0 ?_
 repeat refine c_r ?_
 refine wc0 ?_ ?_
 ·intro h;cases h
 intro _
 repeat refine c_r ?_
 refine rg0 ?_
 repeat refine c_r ?_
 refine wc0 ?_ ?_
 ·intro h
  simp only[decide_eq_true_eq]at h
  repeat (first|refine c_r ?_|refine rg0 ?_)
  refine rt0 Tryz.ntmps67 ?_
  exact⟨by rw[cmpI,if_pos h],rfl⟩
 intro h
 simp only[decide_eq_false_iff_not]at h
 repeat (first|refine c_r ?_|refine rg0 ?_)
 refine wc0 ?_ ?_
 ·intro h2
  simp only[decide_eq_true_eq]at h2
  repeat (first|refine c_r ?_|refine rg0 ?_)
  refine rt0 Tryz.ntmps67 ?_
  exact⟨by rw[cmpI,if_neg h,if_pos h2],rfl⟩
 intro h2
 simp only[decide_eq_false_iff_not]at h2
 repeat (first|refine c_r ?_|refine rg0 ?_)
 refine rt0 Tryz.ntmps67 ?_
 exact⟨by rw[cmpI,if_neg h,if_neg h2],rfl⟩
end Go.Proofs.YtkpdfhbpdkifoaaGreatDoor.N_int
namespace Go.Proofs.YtkpdfhbpdkifoaaGreatDoor
open Go
def MapIt(w:World)(r m:Nat)(l:List (Lab×Value))(pre:List Lab):Prop:=
 ∃es clk,∃ds:List MapEntry,w.heap[m]? =some (.map es clk)∧es.toList.map (fun e=>(e.key,e.val))=l.map (fun p=>(vs p.1,p.2))∧(es.toList.map (·.born)).Pairwise (·≠·)∧(∀e∈es.toList,e.born<clk)∧
  w.heap[r]? =some (.mapIter (some m) clk (ds.map (·.born)).toArray clk)∧(∀d∈ds,d∈es.toList)∧ds.map (·.key)=pre.map vs
theorem MapIt.map{w:World}{r m:Nat}{l:List (Lab×Value)}{pre:List Lab}(h:MapIt w r m l pre):MapAt w m l:=by
 obtain⟨es,clk,ds,h1,h2,h3,h4,_⟩:=h
 exact⟨es,clk,h1,h2,h3,h4⟩
theorem MapIt.block{w x:World}{r m:Nat}{l:List (Lab×Value)}{pre:List Lab}(h:MapIt w r m l pre)(h1:x.heap[m]? =w.heap[m]?)(h2:x.heap[r]? =w.heap[r]?):MapIt x r m l pre:=by
 obtain⟨es,clk,ds,a,b,c,d,e,f⟩:=h
 exact⟨es,clk,ds,h1.trans a,b,c,d,h2.trans e,f⟩
theorem zls{a b:List UInt8}(h:vs a=vs b):a=b:=by
 simpa [vs] using h
theorem zeQ{es:List MapEntry}{l:List (Lab×Value)}(h:es.map (fun e=>(e.key,e.val))=l.map (fun p=>(vs p.1,p.2)))(hn:(l.map (·.1)).Nodup):es.Pairwise (fun x y=>x.key≠y.key):=by
 have h1:es.map (·.key)=l.map (fun p=>vs p.1):=by
  have:=congrArg (List.map Prod.fst) h
  simpa [List.map_map,Function.comp_def] using this
 have h2:(l.map (fun p=>vs p.1)).Pairwise (·≠·):=by
  rw[List.pairwise_map]
  have:=List.pairwise_map.1 hn
  exact this.imp (fun hne e=>hne (zls e))
 rw[←h1,List.pairwise_map]at h2
 exact h2
section
variable {P : Program} {d : Option Tmp} {ty : TypeId} {ps : String} {af : Array Edge} {g : Option (Nat × Bool)} {ρ : Operand → Value} {w : World} {K : Value → World → Prop}
theorem op_range{t kt et:TypeId}{x:Operand}{m:Nat}{l:List (Lab×Value)}(ht:tyU P t=some (.map kt et))(hx:ρ x= .map (some m))(hm:MapAt w m l)
  (h:∀w',MapIt w' w.heap.size m l []→Ext w w'→w'.heap.size=w.heap.size+1→K (.pointer (some ⟨w.heap.size,0,Option.none⟩)) w'):
  opW P ⟨d,.range t x,ty,ps,af,g⟩ ρ w K:=by
 obtain⟨es,clk,h1,h2,h3,h4⟩:=hm
 have hrun:(Instr.range t (.map (some m))).run P w= .ok (.pointer (some ⟨w.heap.size,0,Option.none⟩)) (w.alloc (.mapIter (some m) clk #[] clk)):=by
  simp[Instr.range,run_underlying (show P.underlying t=_ from ht),MapKept.run_getObj_map h1,newObj,Sem.run,Result.andThen]
 have hlt:=(Array.getElem?_eq_some_iff.1 h1).1
 show opR P K _
 refine zaC (s:=Instr.range t (ρ x)) (by rw[hx];exact hrun) (h _ ⟨es,clk,[],?_,h2,h3,h4,?_,by simp,rfl⟩ (Ext.alloc w _) (by simp))
 ·exact(RowKit.Below.heap_alloc _ _ _ hlt).trans h1
 ·exact zat w _
theorem op_next{x:Operand}{r m:Nat}{l:List (Lab×Value)}{pre:List Lab}(hx:ρ x= .pointer (some ⟨r,0,Option.none⟩))(hit:MapIt w r m l pre)(hn:(l.map (·.1)).Nodup)
  (h1:(∀k∈l.map (·.1),k∈pre)→K (.tuple #[.bool false]) w)
  (h2:∀k v w',(k,v)∈l→k∉pre→MapIt w' r m l (pre++ [k])→Keep (fun b=>b=r) w w'→w'.heap.size=w.heap.size→K (.tuple #[.bool true,vs k,v]) w'):
  opW P ⟨d,.next x false,ty,ps,af,g⟩ ρ w K:=by
 obtain⟨es,clk,ds,e1,e2,e3,e4,e5,e6,e7⟩:=hit
 have hap:=zeQ e2 hn
 have hmem:∀e:MapEntry,e∈es.toList→∃k v,(k,v)∈l∧e.key=vs k∧e.val=v:=fun e he=>by
  have:(e.key,e.val)∈l.map (fun p=>(vs p.1,p.2)):=by rw[←e2];exact List.mem_map.2 ⟨e,he,rfl⟩
  obtain⟨⟨k,v⟩,hp,heq⟩:=List.mem_map.1 this
  simp only[Prod.mk.injEq]at heq
  exact⟨k,v,hp,heq.1.symm,heq.2.symm⟩
 rcases run_next_at (P:=P) w ty r m clk clk (ds.map (·.born)).toArray es clk e5 e1 e4 (Nat.le_refl _) with ⟨h0,hrun⟩| ⟨e,he,w1,hw1,hrun⟩
 ·show opR P K _
  refine zaC (s:=Instr.next (ρ x) false ty) (by rw[hx];exact hrun) (h1 fun k hk=>?_)
  obtain⟨⟨k,v⟩,hp,rfl⟩:=List.mem_map.1 hk
  have:(vs k,v)∈es.toList.map (fun e=>(e.key,e.val)):=by rw[e2];exact List.mem_map.2 ⟨_,hp,rfl⟩
  obtain⟨e,he,heq⟩:=List.mem_map.1 this
  simp only[Prod.mk.injEq]at heq
  have hin:(ds.map (·.born)).toArray.contains e.born=true:=by
   cases hc:(ds.map (·.born)).toArray.contains e.born with
   |true=>rfl
   |false=>
    have:e∈(leftOf es (ds.map (·.born)).toArray).toList:=by
     unfold leftOf;simp only[Array.toList_filter,List.mem_filter];exact⟨he,by rw[hc];rfl⟩
    rw[Array.size_eq_length_toList,List.length_eq_zero_iff]at h0
    rw[h0]at this;cases this
  simp only[List.contains_toArray,List.contains_iff_mem,List.mem_map]at hin
  obtain⟨d',hd,hb⟩:=hin
  have hde:d'=e:=by
   exact born_inj e3 (e6 _ hd) he hb
  subst hde
  have:d'.key∈pre.map vs:=by rw[←e7];exact List.mem_map.2 ⟨_,hd,rfl⟩
  rw[heq.1]at this
  obtain⟨k',hk',hkk⟩:=List.mem_map.1 this
  rw[zls hkk]at hk';exact hk'
 ·have hel:e∈es.toList∧(ds.map (·.born)).toArray.contains e.born=false:=by
   unfold leftOf at he
   simp only[Array.toList_filter,List.mem_filter]at he
   exact⟨he.1,by simpa using he.2⟩
  obtain⟨k,v,hkv,hk,hv⟩:=hmem e hel.1
  have hlt:r<w1.heap.size:=by
   have:=(Array.getElem?_eq_some_iff.1 e5).1
   rcases hw1 with rfl|rfl<;>exact this
  have hrm:r≠m:=fun e=>by rw[e,e1]at e5;cases e5
  have hk1:Keep (fun b=>b=r) w w1:=by rcases hw1 with rfl|rfl<;>first|exact Keep.refl _ _|exact Keep.drew _ _
  have hput:ChangeMaps.setBlock w1 r (.mapIter (some m) clk ((ds.map (·.born)).toArray.push e.born) clk)=w1.putObj r (.mapIter (some m) clk ((ds.map (·.born)).toArray.push e.born) clk):=rfl
  rw[hput]at hrun
  show opR P K _
  rw[hk,hv]at hrun
  refine zaC (s:=Instr.next (ρ x) false ty) (by rw[hx];exact hrun) (h2 k v _ hkv ?_ ⟨es,clk,ds++ [e],?_,e2,e3,e4,?_,?_,?_⟩ (hk1.trans (zaK rfl)) ?_)
  ·intro hkp
   have:vs k∈ds.map (·.key):=by rw[e7];exact List.mem_map.2 ⟨_,hkp,rfl⟩
   obtain⟨d',hd,hdk⟩:=List.mem_map.1 this
   have hde:d'=e:=entry_eq_of_key hap (e6 _ hd) hel.1 (by rw[hdk,hk])
   subst hde
   have:=hel.2
   simp only[List.contains_toArray]at this
   have h3:(ds.map (·.born)).contains d'.born=true:=by rw[List.contains_iff_mem];exact List.mem_map.2 ⟨_,hd,rfl⟩
   rw[h3]at this;cases this
  ·refine(World.putObj_heap_other (fun e=>hrm e.symm)).trans ?_
   rcases hw1 with rfl|rfl<;>exact e1
  ·rw[World.putObj_heap_same hlt];simp
  ·intro d' hd
   rcases List.mem_append.1 hd with hd|hd
   ·exact e6 _ hd
   ·rw[List.mem_singleton.1 hd];exact hel.1
  ·rw[List.map_append,e7,List.map_append];simp[hk]
  ·rcases hw1 with rfl|rfl<;>simp
end
set_option maxRecDepth 10000
theorem u8_le(u:UInt8):(65≤u↔(65:Int)≤u.toNat)∧(u≤90↔(u.toNat:Int)≤90):=by
 rw[UInt8.le_iff_toNat_le,UInt8.le_iff_toNat_le]
 constructor
 ·show 65≤u.toNat↔_;omega
 ·show u.toNat≤90↔_;omega
theorem byteV_up{cc:UInt8}(h65:(65:Int)≤cc.toNat)(h90:(cc.toNat:Int)≤90):zao (zhn cc)= .int .u8 (cc.toNat+32):=by
 rw[zj1 ⟨(u8_le cc).1.2 h65,(u8_le cc).2.2 h90⟩]
 unfold zao
 congr 1
 have:(cc+32).toNat=cc.toNat+32:=by
  rw[UInt8.toNat_add];show(cc.toNat+32) % 256=_;omega
 rw[this];push_cast;omega
theorem zkS{l:List UInt8}{k:Nat}(hk:k<l.length):(zbh l k)[k]? =some l[k]:=by
 unfold zbh
 have e:(zaI (l.take k)).length=k:=by simp[zaI];omega
 rw[List.getElem?_append_right (by omega),e];simp[hk]
theorem zeD(w:World)(l:List UInt8)(hl:l.length≤9000000000000000000):Fn Tryz.prog 147 #[vs l] w (fun v w'=>v=vs (zaI l)∧Ext w w'):=by
 refine enter Tryz.func147 Tryz.ntmps147 rfl rfl ?_
 repeat (first|refine c_r ?_|refine rg0 ?_)
 repeat refine c_r ?_
 refine rq ?_;intro gd K hgd hK
 try simp only[go_sem]
 refine zfr rfl rfl rfl (vq0) ?_
 intro c cur w1 hlc hcur htake hE1 hsz1 hb1
 try simp only[go_sem]
 refine hK _ _ ?_;clear hK hgd;clear K;try clear gd
 repeat (first|refine c_r ?_|refine rg0 ?_)
 refine zaD (fun m σ ds A=>ds=[]∧∃i,i+m=l.length∧σ 4=vi i∧σ 3= .slice (some ⟨w.heap.size,0,Option.none⟩) l.length c∧Ext w A∧
  ∃cur:Array Value,cur.size=c∧cur.toList.take l.length=(zbh l i).map zao∧A.heap[w.heap.size]? =some (.cells cur 5 (c,c+1))) l.length ?_ ?_
 ·refine⟨rfl,0,by omega,?_,?_,hE1,cur,hcur,by simpa [zbh,zaI] using htake,hb1⟩<;>simp only[go_sem]<;>rfl
 ·rintro m σ ds A ⟨rfl,i,him,h4,h3,hE,cu,hcu,hpre,hrow⟩
  repeat refine c_r ?_
  refine rg2 h4 h3 ?_
  refine wc0 ?_ ?_
  ·intro hlt
   simp only[decide_eq_true_eq]at hlt
   have hk:i<l.length:=by omega
   generalize hcc:l[i]=cc
   have hcell:zad A (some ⟨w.heap.size,i,Option.none⟩)=some (.int .u8 cc.toNat):=by
    show A.cell? _=_
    rw[zb3 hrow]
    have:(cu.toList.take l.length)[i]? =some (zao cc):=by rw[hpre,List.getElem?_map,zkS hk,hcc];rfl
    rw[List.getElem?_take,if_pos hk]at this
    simpa [zao] using this
   repeat (with_reducible first|refine zdP ?_|refine zgt ?_|refine zdQ ?_|refine zaz ?_|refine zbr ?_|refine zbO ?_|refine zaY ?_|refine zbt ?_|refine zbc ?_|refine za1 rfl ?_)
   refine W_mid (fun σ ds B=>ds=[]∧σ 4=vi i∧σ 3= .slice (some ⟨w.heap.size,0,Option.none⟩) l.length c∧Ext w B∧
    ∃cur:Array Value,cur.size=c∧cur.toList.take l.length=(zbh l (i+1)).map zao∧B.heap[w.heap.size]? =some (.cells cur 5 (c,c+1))) ?_ ?_
   ·repeat refine c_r ?_
    refine rq ?_;intro gd K hgd hK
    have hg5:∀n σ b,zaE gd n σ (some (5,b))=zap (ev n σ (.tmp 18)) b:=(fun n σ b=>by rw[zag,show gd 5=some 18 from(by rw[hgd];rfl)];rfl)
    have hno:¬(65≤cc∧cc≤90)→cu.toList.take l.length=(zbh l (i+1)).map zao:=fun h=>by rw[hpre,zfU hk (by rw[hcc];exact h)]
    by_cases h65:(65:Int)≤cc.toNat
    ·try simp (disch:=first|omega|assumption|rfl) only[go_sem,h4,h3,hcell,decide_eq_true h65,↓hg5]
     refine hK _ _ ?_;clear hK hgd;clear K;try clear gd
     repeat refine c_r ?_
     refine wc0 ?_ ?_
     ·intro h90
      simp only[decide_eq_true_eq]at h90
      repeat refine c_r ?_
      refine rq ?_;intro gd K hgd hK
      try simp (disch:=first|omega|assumption|rfl) only[go_sem,h4,h3,hcell]
      refine zaq rfl rfl rfl hrow (by omega) (by simp;omega) ?_
      intro w5 hsz5 hb5 hk5
      refine hK _ _ ?_;clear hK hgd;clear K;try clear gd
      repeat (with_reducible first|refine zdP ?_|refine zgt ?_|refine zdQ ?_|refine zaz ?_|refine zbr ?_|refine zbO ?_|refine zaY ?_|refine zbt ?_|refine zbc ?_|refine za1 rfl ?_)
      have hset:((zbh l i).map zao).set i (.int .u8 (↑cc.toNat+32))=(zbh l (i+1)).map zao:=by
       rw[←zdZ hk,hcc,List.map_set,byteV_up h65 h90]
      refine⟨rfl,?_,?_,Keep.to_ext hE rfl (fun b hb=>by omega) hk5,cu.setIfInBounds i (.int .u8 (↑cc.toNat+32)),by simpa using hcu,?_,hb5⟩
      ·simp only[go_sem,h4]
      ·simp only[go_sem,h3]
      ·rw[Array.toList_setIfInBounds,List.take_set,hpre,hset]
     ·intro h90
      simp only[decide_eq_false_iff_not]at h90
      repeat (with_reducible first|refine zdP ?_|refine zgt ?_|refine zdQ ?_|refine zaz ?_|refine zbr ?_|refine zbO ?_|refine zaY ?_|refine zbt ?_|refine zbc ?_|refine za1 rfl ?_)
      exact⟨rfl,(vq1 h4),(vq1 h3),hE,cu,hcu,hno (fun h=>h90 ((u8_le cc).2.1 h.2)),hrow⟩
    ·try simp (disch:=first|omega|assumption|rfl) only[go_sem,h4,h3,hcell,decide_eq_false h65,↓hg5]
     refine hK _ _ ?_;clear hK hgd;clear K;try clear gd
     repeat refine c_r ?_
     refine wc0 ?_ ?_
     ·intro h;simp at h
     ·intro _
      repeat (with_reducible first|refine zdP ?_|refine zgt ?_|refine zdQ ?_|refine zaz ?_|refine zbr ?_|refine zbO ?_|refine zaY ?_|refine zbt ?_|refine zbc ?_|refine za1 rfl ?_)
      exact⟨rfl,(vq1 h4),(vq1 h3),hE,cu,hcu,hno (fun h=>h65 ((u8_le cc).1.1 h.1)),hrow⟩
   ·rintro σ' ds B ⟨rfl,h4',h3',hE',hex⟩
    refine rg1 h4' ?_
    refine zaz ?_
    exact⟨m - 1,by omega,rfl,i+1,by omega,by simp only[go_sem];rfl,(vq1 h3'),hE',hex⟩
  ·intro hge
   simp only[decide_eq_false_iff_not]at hge
   have hfull:zbh l i=zaI l:=by unfold zbh;rw[List.take_of_length_le (by omega),List.drop_of_length_le (by omega)];simp
   rw[hfull]at hpre
   have hlen:(zaI l).length=l.length:=by simp[zaI]
   repeat refine c_r ?_
   refine rq ?_;intro gd K hgd hK
   try simp (disch:=first|omega|assumption|rfl) only[go_sem,h3]
   rw[←hlen]
   refine zcs rfl rfl rfl ((vq2 h3 hlen)) ?_ ?_
   ·intro j hj
    rw[hlen]at hj
    rw[zaZ]
    show A.cell? _=_
    rw[zb3 hrow]
    have:(cu.toList.take l.length)[j]? =some (zao ((zaI l)[j]'(by omega))):=by
     rw[hpre,List.getElem?_map,List.getElem?_eq_getElem (by omega)];rfl
    rw[List.getElem?_take,if_pos hj]at this
    simpa using this
   try simp only[go_sem]
   refine hK _ _ ?_;clear hK hgd;clear K;try clear gd
   repeat refine c_r ?_
   refine rt0 Tryz.ntmps147 ?_
   exact⟨rfl,hE⟩
end Go.Proofs.YtkpdfhbpdkifoaaGreatDoor
