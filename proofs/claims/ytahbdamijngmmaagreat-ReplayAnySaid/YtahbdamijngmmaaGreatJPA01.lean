/-
  Texts of a proof, joined: K6, K7, KD, K8, K9, K14, SF, K10, K11, C1, K15, K16.
  Conditions: none.
-/
import Derived.KernelRfl
import Derived.Attr
import Derived.Test.YtahbdamijngmmaaGreatJPA00
import Derived.Laws.OwnMore
import Derived.Laws.MakeOwn
import Derived.Test.YtahbdamijngmmaaGreatProg
import Derived.MapFrom
set_option linter.unusedVariables false
set_option linter.unusedSimpArgs false
set_option linter.defProp false
set_option linter.unnecessarySimpa false
set_option maxHeartbeats 8000000
namespace Go.Proofs.YtahbdamijngmmaaGreat
open Go
universe u
theorem nr{α:Sort u}{a b:α}(h:a=b):a=b:=h
/-! what comes behind an operation is left as it is till the operation is known -/
inductive Lck{α β:Type}(a:α)(b:β):Type|mk
def optL(o:Option Value)(w:World)(K:Value->World->Prop)(F:Prop)(_:Lck K F):Prop:=optK o w K F
def okL(o:Option Value)(k:Value->Prop)(_:Lck k k):Prop:=okV o k
def callL(P:Program)(f:Value)(args:Array Value)(w:World)(K:Value->World->Prop)(_:Lck K K):Prop:=zg5 P f args w K
def FnL(P:Program)(f:FuncId)(args:Array Value)(w:World)(K:Value->World->Prop)(_:Lck K K):Prop:=Fn P f args w K
def extL(P:Program)(f:FuncId)(args:Array Value)(w:World)(K:Value->World->Prop)(_:Lck K K):Prop:=extC P f args w K
def callQ(P:Program)(f:FuncId)(args:Array Value)(w:World)(K:Value->World->Prop)(m:Lck K K):Bool->Prop
 |true=>FnL P f args w K m
 |false=>extL P f args w K m
theorem callQ_t(P:Program)(f:FuncId)(args:Array Value)(w:World)(K:Value->World->Prop)(m:Lck K K):callQ P f args w K m true=FnL P f args w K m:=nr rfl
theorem callQ_f(P:Program)(f:FuncId)(args:Array Value)(w:World)(K:Value->World->Prop)(m:Lck K K):callQ P f args w K m false=extL P f args w K m:=nr rfl
theorem zcC{P:Program}{f:FuncId}{args:Array Value}{w:World}{K:Value->World->Prop}{m:Lck K K}(h:zar P f=true)(hF:Fn P f args w K):callQ P f args w K m (zar P f):=by
 rw[h];exact hF
def stL(P:Program)(t:TypeId)(p v:Value)(w:World)(K:Value->World->Prop)(_:Lck K K):Prop:=stK P t p v w K
def bsL(P:Program)(t:TypeId)(n:Nat)(l:List (Nat×Value))(w:World)(K:Value->World->Prop)(_:Lck K K):Prop:=bsK P t n l w K
def opL(P:Program)(o:Oper)(ρ:Operand->Value)(w:World)(K:Value->World->Prop)(_:Lck K K):Prop:=opW P o ρ w K
def iteL(c:Bool)(a b:Prop)(_:Lck a b):Prop:=if c=true then a else b
theorem iteL_t(a b:Prop)(m:Lck a b):iteL true a b m=a:=nr (by simp[iteL])
theorem iteL_f(a b:Prop)(m:Lck a b):iteL false a b m=b:=nr (by simp[iteL])
section
variable {P : Program} {gd : Nat -> Option Tmp} {n : Nat} {σ : Sto} {w : World}
def getL:List Value->Nat->Value
 | [],_=>undef
 |v::_,0=>v
 |_::l,i+1=>getL l i
theorem zkL(l:List Value)(i:Nat):sto0 l.toArray i=getL l i:=by
 unfold sto0
 induction l generalizing i with
 |nil=>simp[getL]
 |cons v l ih=>
  cases i with
  |zero=>simp[getL]
  |succ i=>simp only[getL,←ih i];simp
theorem opsV_nil{K:Sto->World->Prop}:opsV P gd n [] σ w K=K σ w:=nr rfl
theorem zle{K:Sto->World->Prop}{d:Option Tmp}{op:Op}{ty:TypeId}{ps:String}{af:Array Edge}{l:List Oper}:
  opsV P gd n (⟨d,op,ty,ps,af,Option.none⟩::l) σ w K=opV P ⟨d,op,ty,ps,af,Option.none⟩ (ev n σ) w (fun v w'=>opsV P gd n l (putS σ d v) w' K):=nr rfl
theorem zj0{K:Sto->World->Prop}{d:Option Tmp}{op:Op}{ty:TypeId}{ps:String}{af:Array Edge}{j:Nat}{b:Bool}{l:List Oper}:
  opsV P gd n (⟨d,op,ty,ps,af,some (j,b)⟩::l) σ w K=
   iteL (zcE gd n σ (some (j,b))) (opV P ⟨d,op,ty,ps,af,some (j,b)⟩ (ev n σ) w (fun v w'=>opsV P gd n l (putS σ d v) w' K))
   (opsV P gd n l (putS σ d undef) w K) .mk:=nr rfl
def zbS(v:Value)(b:Bool):Bool:=match v with| .bool c=>c==b|_=>false
def wantO(o:Option Tmp)(n:Nat)(σ:Sto)(b:Bool):Bool:=match o with|some d=>zbS (ev n σ (.tmp d)) b|Option.none=>false
theorem zaY{j:Nat}{b:Bool}:zcE gd n σ (some (j,b))=wantO (gd j) n σ b:=by
 unfold zcE ylV wantO
 dsimp only
 cases gd j with
 |none=>rfl
 |some d=>
  dsimp only
  unfold ev zbS
  by_cases h:d<n
  ·simp only[h,if_true];cases σ d<;>rfl
  ·simp[h,undef]
theorem zcf{b:Bool}(d:Tmp):wantO (some d) n σ b=zbS (ev n σ (.tmp d)) b:=nr rfl
theorem bi1:zbS (.bool true) true=true:=nr rfl
theorem bi2:zbS (.bool false) true=false:=nr rfl
theorem bi3:zbS (.bool true) false=false:=nr rfl
theorem bi4:zbS (.bool false) false=true:=nr rfl
theorem bq1:(false==true)=false:=nr rfl
theorem bq2:(true==true)=true:=nr rfl
theorem bq3:(true==false)=false:=nr rfl
theorem bq4:(false==false)=true:=nr rfl
theorem m16:(false=true)=False:=by simp
theorem zfU(c b:Bool):zbS (.bool c) b=(c==b):=nr rfl
theorem zl2{ops:List Oper}{S:Nat->Prop}{isB:Nat->Bool}{K:Sto->World->Prop}:zbY P gd ops n S isB [] σ w K=K σ w:=nr rfl
theorem ev_tmp(t:Tmp):ev n σ (.tmp t)=if t<n then σ t else undef:=nr rfl
theorem ev_const(v:Value):ev n σ (.const v)=v:=nr rfl
theorem ev_func(f:FuncId):ev n σ (.func f)= .func (.func f) #[] #[]:=nr rfl
theorem upd_at(d:Nat)(v:Value)(i:Nat):upd σ d v i=if i=d then v else σ i:=nr rfl
theorem putS_at(d:Nat)(v:Value)(i:Nat):putS σ (some d) v i=if i=d then v else σ i:=nr rfl
theorem putS_no(v:Value)(i:Nat):putS σ Option.none v i=σ i:=nr rfl
theorem zla(d:Nat)(v:Value):putS σ (some d) v=upd σ d v:=nr rfl
theorem zlb(v:Value):putS σ Option.none v=σ:=nr rfl
variable {ρ : Operand -> Value} {K : Value -> World -> Prop} {k : Value -> Prop} {S : Nat -> Prop} {d : Option Tmp} {ty : TypeId} {ps : String} {af : Array Edge} {g : Option (Nat × Bool)}
theorem zld(v:Value)(alt:Prop):optK (some v) w K alt=K v w:=nr rfl
theorem zhx(v:Value)(alt:Prop)(m:Lck K alt):optL (some v) w K alt m=K v w:=nr rfl
theorem okL_some(v:Value)(m:Lck k k):okL (some v) k m=k v:=nr rfl
theorem okV_some(v:Value):okV (some v) k=k v:=nr rfl
theorem v_move(x:Operand):opV P ⟨d,.move x,ty,ps,af,g⟩ ρ w K=optL (some (ρ x)) w K False .mk:=nr rfl
theorem v_assign(x:Operand):opV P ⟨d,.assign x,ty,ps,af,g⟩ ρ w K=optL (some (ρ x)) w K False .mk:=nr rfl
def pickV:Value->Value->Value->Option Value
 | .bool t,a,b=>some (bif t then a else b)
 |_,_,_=>Option.none
theorem v_pick(c a b:Operand):opV P ⟨d,.pick c a b,ty,ps,af,g⟩ ρ w K=optL (pickV (ρ c) (ρ a) (ρ b)) w K False .mk:=by
 unfold opV;dsimp only;cases ρ c<;>rfl
theorem v_bin(op:BinOp)(t:TypeId)(x y:Operand)(yt:TypeId):
  opV P ⟨d,.binOp op t x y yt,ty,ps,af,g⟩ ρ w K=optL (binV P op t (ρ x) (ρ y)) w K (opW P ⟨d,.binOp op t x y yt,ty,ps,af,g⟩ ρ w K) .mk:=nr rfl
theorem v_un(op:UnOp)(t:TypeId)(x:Operand):opV P ⟨d,.unOp op t x,ty,ps,af,g⟩ ρ w K=optL (unV op (ρ x)) w K (opW P ⟨d,.unOp op t x,ty,ps,af,g⟩ ρ w K) .mk:=nr rfl
def ldVal(P:Program)(w:World)(t:TypeId):Value->Option Value
 | .pointer p=>ldP P w t p
 |_=>Option.none
theorem v_load(t:TypeId)(x:Operand):opV P ⟨d,.load t x,ty,ps,af,g⟩ ρ w K=optL (ldVal P w t (ρ x)) w K False .mk:=by
 unfold opV;dsimp only;cases ρ x<;>rfl
theorem v_store(t:TypeId)(a x:Operand):opV P ⟨d,.store t a x,ty,ps,af,g⟩ ρ w K=stL P t (ρ a) (ρ x) w K .mk:=nr rfl
theorem v_ixA(t:TypeId)(x i:Operand):opV P ⟨d,.indexAddr t x i,ty,ps,af,g⟩ ρ w K=optL (ixA P t (ρ x) (ρ i)) w K (opW P ⟨d,.indexAddr t x i,ty,ps,af,g⟩ ρ w K) .mk:=nr rfl
theorem v_ix(t:TypeId)(x i:Operand):opV P ⟨d,.index t x i,ty,ps,af,g⟩ ρ w K=optL (ixS P t (ρ x) (ρ i)) w K (opW P ⟨d,.index t x i,ty,ps,af,g⟩ ρ w K) .mk:=nr rfl
theorem v_slice(t:TypeId)(x:Operand)(lo hi mx:Option Operand):
  opV P ⟨d,.slice t x lo hi mx,ty,ps,af,g⟩ ρ w K=optL (slV P t (ρ x) (lo.map ρ) (hi.map ρ) (mx.map ρ)) w K (opW P ⟨d,.slice t x lo hi mx,ty,ps,af,g⟩ ρ w K) .mk:=nr rfl
theorem v_ext(x:Operand)(i:Nat):opV P ⟨d,.extract x i,ty,ps,af,g⟩ ρ w K=optL (exV i (ρ x)) w K False .mk:=nr rfl
theorem v_conv(s t:TypeId)(x:Operand):opV P ⟨d,.convert s t x,ty,ps,af,g⟩ ρ w K=optL (cvV P s t (ρ x)) w K (opW P ⟨d,.convert s t x,ty,ps,af,g⟩ ρ w K) .mk:=nr rfl
theorem v_field(s:TypeId)(x:Operand)(f:Nat):opV P ⟨d,.fieldAddr s x f,ty,ps,af,g⟩ ρ w K=optL (fdA P s (ρ x) f) w K (opW P ⟨d,.fieldAddr s x f,ty,ps,af,g⟩ ρ w K) .mk:=nr rfl
def ncV:Value->Option Value
 | .pointer (some a)=>some (.pointer (some a))
 |_=>Option.none
theorem ncV_some{p:Option Addr}(h:p.isSome=true):ncV (.pointer p)=some (.pointer p):=by cases p<;>first|rfl|cases h
theorem ncV_pt(a:Addr):ncV (.pointer (some a))=some (.pointer (some a)):=nr rfl
theorem v_nc(x:Operand):opV P ⟨d,.nilCheck x,ty,ps,af,g⟩ ρ w K↔
  optL (ncV (ρ x)) w K (match ρ x with| .pointer Option.none=>False| .pointer (some _)=>False|_=>opW P ⟨d,.nilCheck x,ty,ps,af,g⟩ ρ w K) .mk:=by
 unfold opV optL optK ncV;dsimp only
 cases ρ x<;>first|exact Iff.rfl| (rename_i p;cases p<;>simp)
theorem v_func(fn:Go.Fn)(f c:Array Operand):opV P ⟨d,.makeFunc fn f c,ty,ps,af,g⟩ ρ w K=optL (some (.func fn (f.map ρ) (c.map ρ))) w K False .mk:=nr rfl
theorem v_box(e:TypeId)(x:Operand):opV P ⟨d,.box e x,ty,ps,af,g⟩ ρ w K=K (.pointer (some ⟨w.heap.size,0,Option.none⟩)) (w.alloc (.cells (ρ x).cells e)):=nr rfl
theorem v_alloc(e:TypeId):opV P ⟨d,.alloc e,ty,ps,af,g⟩ ρ w K=(match tyZ P e with|some z=>K (.pointer (some ⟨w.heap.size,0,Option.none⟩)) (w.alloc (.cells z.cells e))|Option.none=>False):=nr rfl
theorem v_map(t:TypeId):opV P ⟨d,.makeMap t Option.none,ty,ps,af,g⟩ ρ w K=K (.map (some w.heap.size)) (w.alloc (.map #[] 0)):=nr rfl
theorem v_build(t:TypeId)(parts:Array (Nat×Operand)):opV P ⟨d,.build t parts,ty,ps,af,g⟩ ρ w K=
  (zbC P t=true/\optL (bdV P t (parts.toList.map fun p=>(p.1,ρ p.2))) w K False .mk):=nr rfl
theorem v_bs(t:TypeId)(m:Nat)(parts:Array (Nat×Operand)):opV P ⟨d,.buildSlice t m parts,ty,ps,af,g⟩ ρ w K=bsL P t m (parts.toList.map fun p=>(p.1,ρ p.2)) w K .mk:=nr rfl
theorem v_call(f:Operand)(args:Array Operand)(ts:Array TypeId):opV P ⟨d,.call ⟨.value f,args,ts⟩,ty,ps,af,g⟩ ρ w K=callL P (ρ f) (args.map ρ) w K .mk:=nr rfl
theorem v_len(x:Operand)(t:TypeId):opV P ⟨d,.call ⟨.builtin .len,#[x],#[t]⟩,ty,ps,af,g⟩ ρ w K=optL (lenV P t (ρ x)) w K (opW P ⟨d,.call ⟨.builtin .len,#[x],#[t]⟩,ty,ps,af,g⟩ ρ w K) .mk:=nr rfl
theorem v_append(a:Array Operand)(t:Array TypeId):opV P ⟨d,.call ⟨.builtin .append,a,t⟩,ty,ps,af,g⟩ ρ w K=opL P ⟨d,.call ⟨.builtin .append,a,t⟩,ty,ps,af,g⟩ ρ w K .mk:=nr rfl
theorem v_copy(a:Array Operand)(t:Array TypeId):opV P ⟨d,.call ⟨.builtin .copy,a,t⟩,ty,ps,af,g⟩ ρ w K=opL P ⟨d,.call ⟨.builtin .copy,a,t⟩,ty,ps,af,g⟩ ρ w K .mk:=nr rfl
theorem v_mkS(t:TypeId)(x y:Operand):opV P ⟨d,.makeSlice t x y,ty,ps,af,g⟩ ρ w K=opL P ⟨d,.makeSlice t x y,ty,ps,af,g⟩ ρ w K .mk:=nr rfl
theorem v_mapU(t:TypeId)(m x y:Operand):opV P ⟨d,.mapUpdate t m x y,ty,ps,af,g⟩ ρ w K=opL P ⟨d,.mapUpdate t m x y,ty,ps,af,g⟩ ρ w K .mk:=nr rfl
theorem v_look(t:TypeId)(x y:Operand)(b:Bool):opV P ⟨d,.lookup t x y b,ty,ps,af,g⟩ ρ w K=opL P ⟨d,.lookup t x y b,ty,ps,af,g⟩ ρ w K .mk:=nr rfl
theorem v_range(t:TypeId)(x:Operand):opV P ⟨d,.range t x,ty,ps,af,g⟩ ρ w K=opL P ⟨d,.range t x,ty,ps,af,g⟩ ρ w K .mk:=nr rfl
theorem v_next(x:Operand)(b:Bool):opV P ⟨d,.next x b,ty,ps,af,g⟩ ρ w K=opL P ⟨d,.next x b,ty,ps,af,g⟩ ρ w K .mk:=nr rfl
theorem zkm(f:FuncId)(first captured args:Array Value):callL P (.func (.func f) first captured) args w K .mk=callQ P f (first++args++captured) w K .mk (zar P f):=by
 unfold callL zg5
 dsimp only
 cases zar P f<;>rfl
end
section
variable {P : Program} {t e : TypeId} {k : IntKind} {a b : Int}
theorem b_add:binV P .add t (.int k a) (.int k b)=some (.int k (k.wrap (a+b))):=by simp[binV]
theorem b_sub:binV P .sub t (.int k a) (.int k b)=some (.int k (k.wrap (a - b))):=by simp[binV]
theorem b_mul:binV P .mul t (.int k a) (.int k b)=some (.int k (k.wrap (a*b))):=by simp[binV]
theorem b_lss:binV P .lss t (.int k a) (.int k b)=some (.bool (decide (a<b))):=by simp[binV]
theorem b_leq:binV P .leq t (.int k a) (.int k b)=some (.bool (decide (a<=b))):=by simp[binV]
theorem b_gtr:binV P .gtr t (.int k a) (.int k b)=some (.bool (decide (b<a))):=by simp[binV]
theorem b_geq:binV P .geq t (.int k a) (.int k b)=some (.bool (decide (b<=a))):=by simp[binV]
theorem b_eql:binV P .eql t (.int k a) (.int k b)=some (.bool (decide (a=b))):=by simp[binV]
theorem b_neq:binV P .neq t (.int k a) (.int k b)=some (.bool (!decide (a=b))):=by simp[binV]
theorem b_quo(h:¬b=0):binV P .quo t (.int k a) (.int k b)=some (.int k (k.wrap (a.tdiv b))):=by simp[binV,h]
theorem b_rem(h:¬b=0):binV P .rem t (.int k a) (.int k b)=some (.int k (a.tmod b)):=by simp[binV,h]
theorem b_shr1:binV P .shr t (.int .u64 a) (.int .u64 1)=some (.int .u64 (a.fdiv 2)):=by simp[binV,IntKind.bits]
theorem wrap_u64{x:Int}(h1:0<=x)(h2:x<=18446744073709551615):IntKind.u64.wrap x=x:=by
 simp[IntKind.wrap,IntKind.bits,IntKind.signed];omega
theorem wrap_u32{x:Int}(h1:0<=x)(h2:x<=4294967295):IntKind.u32.wrap x=x:=by
 simp[IntKind.wrap,IntKind.bits,IntKind.signed];omega
theorem fdiv_two(n:Nat):((n:Int)).fdiv 2=((n / 2:Nat):Int):=by
 rw[Int.fdiv_eq_ediv_of_nonneg _ (by omega)];rfl
variable {s u : List UInt8}
theorem zfB:((⟨s.toArray⟩:ByteArray)=⟨u.toArray⟩)↔s=u:=by
 constructor
 ·intro h
  have:=congrArg (fun x:ByteArray=>x.data.toList) h
  simpa using this
 ·intro h;rw[h]
theorem b_seql:binV P .eql t (vs s) (vs u)=some (.bool (decide (s=u))):=by simp[binV,zfB]
theorem b_sneq:binV P .neq t (vs s) (vs u)=some (.bool (!decide (s=u))):=by simp[binV,zfB]
theorem b_slss:binV P .lss t (vs s) (vs u)=some (.bool (zdj s u)):=by simp[binV]
theorem b_sgtr:binV P .gtr t (vs s) (vs u)=some (.bool (!(zdj s u||decide (s=u)))):=by simp[binV,zfB]
theorem b_sadd(h:s.length+u.length<=9223372036854775807):binV P .add t (vs s) (vs u)=some (vs (s++u)):=by
 have h1:(⟨s.toArray⟩:ByteArray).size=s.length:=rfl
 have h2:(⟨u.toArray⟩:ByteArray).size=u.length:=rfl
 have h3:IntKind.i64.max=9223372036854775807:=by decide
 have h4:¬(((s.length+u.length:Nat):Int)>9223372036854775807):=by omega
 simp only[binV,h1,h2,h3,if_neg h4,Option.some.injEq,Value.string.injEq]
 apply ByteArray.ext
 simp
variable {p q : Bool} {x : Option Addr}
def binB(P:Program)(op:BinOp)(t:Option TypeDesc)(p q:Bool):Option Value:=
 match op,t with
 | .eql,some .bool=>some (.bool (p==q))
 | .neq,some .bool=>some (.bool (!(p==q)))
 |_,_=>Option.none
theorem b_bool(op:BinOp):binV P op t (.bool p) (.bool q)=binB P op (tyU P t) p q:=by
 simp only[binV,binB];cases op<;>try rfl
theorem b_beql:binB P .eql (some .bool) p q=some (.bool (p==q)):=nr rfl
theorem b_bneq:binB P .neq (some .bool) p q=some (.bool (!(p==q))):=nr rfl
def binP(op:BinOp)(t:Option TypeDesc)(x:Option Addr):Option Value:=
 match op,t with
 | .eql,some (.pointer _)=>some (.bool x.isNone)
 | .neq,some (.pointer _)=>some (.bool (!x.isNone))
 |_,_=>Option.none
theorem b_ptr(op:BinOp):binV P op t (.pointer x) (.pointer Option.none)=binP op (tyU P t) x:=by
 simp only[binV,binP];cases x<;>cases op<;>try rfl
theorem b_peql:binP .eql (some (.pointer e)) x=some (.bool x.isNone):=nr rfl
theorem b_pneq:binP .neq (some (.pointer e)) x=some (.bool (!x.isNone)):=nr rfl
theorem u_not:unV .not (.bool p)=some (.bool (!p)):=by simp[unV]
theorem u_neg:unV .neg (.int k a)=some (.int k (k.wrap (0 - a))):=by simp[unV]
variable {ad : Option Addr} {n c : Nat} {w : World}
def lenD(o:Option TypeDesc)(v:Value):Option Value:=
 match o,v with
 |some .string,.string s=>some (vi s.size)
 |some (.slice _),.slice _ n _=>some (vi n)
 |some (.array n _),_=>some (vi n)
 |_,_=>Option.none
theorem l_D(v:Value):lenV P t v=lenD (tyU P t) v:=by unfold lenV lenD;rfl
theorem l_slice:lenD (some (.slice e)) (.slice ad n c)=some (.int .i64 n):=nr rfl
theorem l_str:lenD (some .string) (vs s)=some (.int .i64 s.length):=nr rfl
def ixD(P:Program)(o:Option TypeDesc)(x i:Value):Option Value:=
 match o,x,i with
 |some (.slice e),.slice a n _,.int _ j=>if 0<=j/\j<n/\a.isSome=true then(bif (P.info? e).isSome then some (.pointer (adr a (j.toNat*tyS P e))) else Option.none) else Option.none
 |some (.array n e),.pointer a,.int _ j=>if 0<=j/\j<n/\a.isSome=true then(bif (P.info? e).isSome then some (.pointer (adr a (j.toNat*tyS P e))) else Option.none) else Option.none
 |_,_,_=>Option.none
theorem i_D(x i:Value):ixA P t x i=ixD P (tyU P t) x i:=by unfold ixA ixD;rfl
theorem zlG{j:Int}(h0:0<=j)(h1:j<n)(h2:ad.isSome=true):
  ixD P (some (.slice e)) (.slice ad n c) (.int k j)=(bif (P.info? e).isSome then some (.pointer (adr ad (j.toNat*tyS P e))) else Option.none):=by simp[ixD,h0,h1,h2]
theorem i_slice1{x:Addr}{j:Int}(h0:0<=j)(h1:j<n):
  ixD P (some (.slice e)) (.slice (some x) n c) (.int k j)=(bif (P.info? e).isSome then some (.pointer (adr (some x) (j.toNat*tyS P e))) else Option.none):=zlG h0 h1 rfl
theorem i_array1{x:Addr}{m:Nat}{j:Int}(h0:0<=j)(h1:j<m):
  ixD P (some (.array m e)) (.pointer (some x)) (.int k j)=(bif (P.info? e).isSome then some (.pointer (adr (some x) (j.toNat*tyS P e))) else Option.none):=by simp[ixD,h0,h1]
theorem i_array{m:Nat}{j:Int}(h0:0<=j)(h1:j<m)(h2:ad.isSome=true):
  ixD P (some (.array m e)) (.pointer ad) (.int k j)=(bif (P.info? e).isSome then some (.pointer (adr ad (j.toNat*tyS P e))) else Option.none):=by simp[ixD,h0,h1,h2]
def ixSD(o:Option TypeDesc)(x i:Value):Option Value:=
 match o,x,i with
 |some .string,.string s,.int _ j=>if 0<=j then(s.data.toList[j.toNat]?).map (fun c=> .int .u8 c.toNat) else Option.none
 |_,_,_=>Option.none
theorem i_SD(x i:Value):ixS P t x i=ixSD (tyU P t) x i:=by unfold ixS ixSD;rfl
theorem i_str{j:Int}(h0:0<=j)(h1:j.toNat<s.length):ixSD (some .string) (vs s) (.int k j)=some (.int .u8 (s[j.toNat]'h1).toNat):=by
 simp[ixSD,h0,h1]
def slD(P:Program)(o:Option TypeDesc)(x:Value)(lo hi mx:Option Value):Option Value:=
 match o,x,mx with
 |some .string,.string s,Option.none=>match slB lo,slH hi s.size with
  |some l,some h=>if l<=h/\h<=s.size then some (.string (s.extract l h)) else Option.none
  |_,_=>Option.none
 |some (.slice e),.slice a n c,_=>match slB lo,slH hi n,slH mx c with
  |some l,some h,some m=>if l<=h/\h<=m/\m<=c/\(mx.isSome=true->hi.isSome=true) then
    (bif (P.info? e).isSome then some (.slice (if m=l then a else adr a (l*tyS P e)) (h - l) (m - l)) else Option.none)
   else Option.none
  |_,_,_=>Option.none
 |_,_,_=>Option.none
theorem s_D(x:Value)(lo hi mx:Option Value):slV P t x lo hi mx=slD P (tyU P t) x lo hi mx:=by unfold slV slD;rfl
def bdN(o:Option Value)(d:Nat):Nat:=match o with|some (.int _ i)=>i.toNat|_=>d
def bdOk(o:Option Value):Prop:=match o with|some (.int _ i)=>0<=i|some _=>False|Option.none=>True
theorem slB_eq{o:Option Value}(h:bdOk o):slB o=some (bdN o 0):=by
 cases o with
 |none=>rfl
 |some v=>cases v<;>first|exact h.elim| (simp only[bdOk]at h;simp[slB,bdN,h])
theorem slH_eq{o:Option Value}{m:Nat}(h:bdOk o):slH o m=some (bdN o m):=by
 cases o with
 |none=>rfl
 |some v=>cases v<;>first|exact h.elim| (simp only[bdOk]at h;simp[slH,bdN,h])
theorem zbP{i:Int}{m:Nat}:bdN (some (.int k i)) m=i.toNat:=nr rfl
theorem zdF{m:Nat}:bdN Option.none m=m:=nr rfl
theorem zkY{lo hi:Option Value}(h1:bdOk lo)(h2:bdOk hi)(h3:bdN lo 0<=bdN hi s.length)(h4:bdN hi s.length<=s.length):
  slD P (some .string) (vs s) lo hi Option.none=some (vs ((s.drop (bdN lo 0)).take (bdN hi s.length - bdN lo 0))):=by
 have e3:(⟨s.toArray⟩:ByteArray).size=s.length:=rfl
 have e4:∀l m,(⟨s.toArray⟩:ByteArray).extract l m=⟨((s.drop l).take (m - l)).toArray⟩:=fun l m=>by
  apply ByteArray.ext
  rw[ByteArray.data_extract]
  simp[List.take_drop]
 simp[slD,slB_eq h1,e3,slH_eq h2,h3,h4,e4]
theorem s_str{l m:Int}{k':IntKind}(h1:0<=l)(h3:l<=m)(h4:m<=s.length):
  slD P (some .string) (vs s) (some (.int k l)) (some (.int k' m)) Option.none=some (vs ((s.drop l.toNat).take (m.toNat - l.toNat))):=
 zkY h1 (show 0<=m by omega) (by simp only[zbP];omega) (by simp only[zbP];omega)
theorem s_strl{l:Int}(h1:0<=l)(h4:l<=s.length):
  slD P (some .string) (vs s) (some (.int k l)) Option.none Option.none=some (vs (s.drop l.toNat)):=by
 rw[zkY (lo:=some (.int k l)) (hi:=Option.none) h1 trivial (by simp only[zbP,zdF];omega) (Nat.le_refl _)]
 simp only[zbP,zdF]
 rw[List.take_of_length_le (by simp)]
theorem s_strh{m:Int}{k':IntKind}(h1:0<=m)(h4:m<=s.length):
  slD P (some .string) (vs s) Option.none (some (.int k' m)) Option.none=some (vs (s.take m.toNat)):=by
 rw[zkY (lo:=Option.none) (hi:=some (.int k' m)) trivial h1 (by simp only[zbP,zdF];omega) (by simp only[zbP];omega)]
 simp[zbP,zdF]
theorem s_sl0{lo hi:Option Value}(h1:bdOk lo)(h2:bdOk hi)(h3:bdN lo 0<=bdN hi n)(h4:bdN hi n<=c):
  slD P (some (.slice e)) (.slice ad n c) lo hi Option.none=
   (bif (P.info? e).isSome then some (.slice (if c=bdN lo 0 then ad else adr ad (bdN lo 0*tyS P e)) (bdN hi n - bdN lo 0) (c - bdN lo 0)) else Option.none):=by
 have hm:slH Option.none c=some c:=rfl
 simp[slD,slB_eq h1,slH_eq h2,h3,h4,hm]
theorem s_sl{l m:Int}{k':IntKind}(h1:0<=l)(h3:l<=m)(h4:m<=c):
  slD P (some (.slice e)) (.slice ad n c) (some (.int k l)) (some (.int k' m)) Option.none=
   (bif (P.info? e).isSome then some (.slice (if c=l.toNat then ad else adr ad (l.toNat*tyS P e)) (m.toNat - l.toNat) (c - l.toNat)) else Option.none):=
 s_sl0 h1 (show 0<=m by omega) (by simp only[zbP];omega) (by simp only[zbP];omega)
theorem s_sll{l:Int}(h1:0<=l)(h3:l<=n)(h4:n<=c):
  slD P (some (.slice e)) (.slice ad n c) (some (.int k l)) Option.none Option.none=
   (bif (P.info? e).isSome then some (.slice (if c=l.toNat then ad else adr ad (l.toNat*tyS P e)) (n - l.toNat) (c - l.toNat)) else Option.none):=
 s_sl0 h1 trivial (by simp only[zbP,zdF];omega) h4
theorem s_slh{m:Int}{k':IntKind}(h1:0<=m)(h4:m<=c):
  slD P (some (.slice e)) (.slice ad n c) Option.none (some (.int k' m)) Option.none=
   (bif (P.info? e).isSome then some (.slice (if c=0 then ad else adr ad (0*tyS P e)) (m.toNat - 0) (c - 0)) else Option.none):=
 s_sl0 trivial h1 (by simp only[zdF];omega) (by simp only[zbP];omega)
theorem zlA(p:Option Addr):ldVal P w t (.pointer p)=ldP P w t p:=by rfl
theorem ex_tuple(l:List Value)(i:Nat):exV i (.tuple l.toArray)=l[i]?:=by simp[exV]
def cvD(o o':Option TypeDesc)(x:Value):Option Value:=
 match o,o',x with
 |some (.int _),some (.int k),.int _ n=>some (.int k (k.wrap n))
 |_,_,_=>Option.none
theorem c_D{t':TypeId}(x:Value):cvV P t t' x=cvD (tyU P t) (tyU P t') x:=by unfold cvV cvD;rfl
theorem c_int{k' k'':IntKind}:cvD (some (.int k')) (some (.int k'')) (.int k a)=some (.int k'' (k''.wrap a)):=nr rfl
theorem ldP_D(p:Option Addr):ldP P w t p=(bif tyA P t then ldP P w t p else bif (tyU P t).isSome then zad w p else Option.none):=by
 cases hA:tyA P t with
 |true=>rfl
 |false=>
  cases hs:(tyU P t).isSome with
  |true=>simp only[cond_false,cond_true];exact ldP_cell hA hs
  |false=>
   cases p with
   |none=>rfl
   |some x=>simp[ldP,ldV,hA,hs]
def ldA(P:Program)(w:World)(t:TypeId)(p:Option Addr):Option Value:=ldP P w t p
def ldX(P:Program)(w:World)(t:TypeId)(p:Option Addr):Bool->Bool->Option Value
 |true,_=>ldA P w t p
 |false,true=>zad w p
 |false,false=>Option.none
theorem ldP_X(p:Option Addr):ldP P w t p=ldX P w t p (tyA P t) (tyU P t).isSome:=by
 rw[ldP_D]
 cases tyA P t<;>cases (tyU P t).isSome<;>rfl
theorem ldX_one(p:Option Addr):ldX P w t p false true=zad w p:=nr rfl
theorem ldX_agg(p:Option Addr)(b:Bool):ldX P w t p true b=ldA P w t p:=nr rfl
theorem wrap_i64{x:Int}(h1: -9223372036854775808<=x)(h2:x<=9223372036854775807):IntKind.i64.wrap x=x:=zkz h1 h2
theorem wrap_u8{x:Int}(h1:0<=x)(h2:x<=255):IntKind.u8.wrap x=x:=zfd h1 h2
end
section
variable {P : Program} {r : Option Nat} {n : Nat} {Q : Post} {f : Sto -> List Deferred -> World -> Prop} {σ : Sto} {ds : List Deferred} {w : World}
theorem W_mid{x y:Code}(M:Sto->List Deferred->World->Prop)(h1:W P r n x (zdH M Q) σ ds w)(h2:∀σ ds w,M σ ds w->W P r n y Q σ ds w):W P r n (.seq x y) Q σ ds w:=
 zf8 (zaw h1 fun e σ ds w hq=>by cases e<;>first|exact h2 _ _ _ hq|exact hq)
theorem zas(h:f σ ds w):zdH f Q .normal σ ds w:=h
theorem zds{id:Nat}(h:Q (.exit id) σ ds w):zdH f Q (.exit id) σ ds w:=h
theorem zd1(h:Q .ret σ ds w):zdH f Q .ret σ ds w:=h
theorem zbO{id:Nat}(h:Q .normal σ ds w):zc6 id Q .normal σ ds w:=h
theorem zdE{id:Nat}(h:Q .ret σ ds w):zc6 id Q .ret σ ds w:=h
theorem zbZ{id:Nat}(h:Q .normal σ ds w):zc6 id Q (.exit id) σ ds w:=by
 show(if id=id then Q .normal σ ds w else Q (.exit id) σ ds w);rw[if_pos rfl];exact h
theorem zb6{id id':Nat}(hne:Nat.beq id' id=false)(h:Q (.exit id') σ ds w):zc6 id Q (.exit id') σ ds w:=by
 show(if id'=id then Q .normal σ ds w else Q (.exit id') σ ds w);rw[if_neg (Nat.ne_of_beq_eq_false hne)];exact h
inductive Ctl:Prop->Prop->Prop
 |seq {P:Program} {r:Option Nat} {n:Nat} {x y:Code} {Q:Post} {σ:Sto} {ds:List Deferred} {w:World}:Ctl (W P r n (.seq x y) Q σ ds w) (W P r n x (zdH (fun σ ds w=>W P r n y Q σ ds w) Q) σ ds w)
 |block {P:Program} {r:Option Nat} {n:Nat} {id:Nat} {c:Code} {Q:Post} {σ:Sto} {ds:List Deferred} {w:World}:Ctl (W P r n (.block id c) Q σ ds w) (W P r n c (zc6 id Q) σ ds w)
 |skip {P:Program} {r:Option Nat} {n:Nat} {Q:Post} {σ:Sto} {ds:List Deferred} {w:World}:Ctl (W P r n .skip Q σ ds w) (Q .normal σ ds w)
 |ret {P:Program} {r:Option Nat} {n:Nat} {Q:Post} {σ:Sto} {ds:List Deferred} {w:World}:Ctl (W P r n .ret Q σ ds w) (Q .ret σ ds w)
 |exit {P:Program} {r:Option Nat} {n:Nat} {id:Nat} {Q:Post} {σ:Sto} {ds:List Deferred} {w:World}:Ctl (W P r n (.exit id) Q σ ds w) (Q (.exit id) σ ds w)
 |tn {f:Sto->List Deferred->World->Prop} {Q:Post} {σ:Sto} {ds:List Deferred} {w:World}:Ctl (zdH f Q .normal σ ds w) (f σ ds w)
 |te {f:Sto->List Deferred->World->Prop} {id:Nat} {Q:Post} {σ:Sto} {ds:List Deferred} {w:World}:Ctl (zdH f Q (.exit id) σ ds w) (Q (.exit id) σ ds w)
 |tr {f:Sto->List Deferred->World->Prop} {Q:Post} {σ:Sto} {ds:List Deferred} {w:World}:Ctl (zdH f Q .ret σ ds w) (Q .ret σ ds w)
 |bn {id:Nat} {Q:Post} {σ:Sto} {ds:List Deferred} {w:World}:Ctl (zc6 id Q .normal σ ds w) (Q .normal σ ds w)
 |br {id:Nat} {Q:Post} {σ:Sto} {ds:List Deferred} {w:World}:Ctl (zc6 id Q .ret σ ds w) (Q .ret σ ds w)
 |bs {id:Nat} {Q:Post} {σ:Sto} {ds:List Deferred} {w:World}:Ctl (zc6 id Q (.exit id) σ ds w) (Q .normal σ ds w)
 |bo {id id':Nat} {Q:Post} {σ:Sto} {ds:List Deferred} {w:World} (hne:Nat.beq id' id=false):Ctl (zc6 id Q (.exit id') σ ds w) (Q (.exit id') σ ds w)
theorem c_r{p q:Prop}(hq:q)(h:Ctl p q:=by (with_reducible constructor)<;>exact rfl):p:=by
 cases h with
 |seq=>exact zf8 hq
 |block=>exact zmk hq
 |skip=>exact zh3 hq
 |ret=>exact zks hq
 |exit=>exact zfY hq
 |tn=>exact hq
 |te=>exact hq
 |tr=>exact hq
 |bn=>exact hq
 |br=>exact hq
 |bs=>exact zbZ hq
 |bo hne=>exact zb6 hne hq
theorem zfn{fn:Func}{R:Value->World->Prop}{e:Exit}(he:e= .normal\/e= .ret){l:List ResultVar}{rs:List Value}(hl:fn.results.toList=l)(hr:resV P fn.ntmps σ w l=some rs)
  (h:R (resT rs) w):retQ P fn R e σ [] w:=⟨he,trivial,rs,by rw[hl];exact hr,h⟩
theorem resV_tmp(t:Tmp):resV P n σ w [.tmp t]=some [ev n σ (.tmp t)]:=rfl
theorem resV_nil:resV P n σ w []=some []:=rfl
theorem zk4{fn:Func}{R:Value->World->Prop}{e:Exit}(he:e= .normal\/e= .ret){t:Tmp}{m:Nat}{v:Value}(hl:fn.results.toList=[.tmp t])(hm:fn.ntmps=m)(hv:ev m σ (.tmp t)=v)
  (h:R v w):retQ P fn R e σ [] w:=by
 refine zfn he hl (resV_tmp t) ?_
 rw[hm,hv];exact h
theorem zaC{fn:Func}{R:Value->World->Prop}{e:Exit}(he:e= .normal\/e= .ret)(hl:fn.results.toList=[])
  (h:R (.tuple #[]) w):retQ P fn R e σ [] w:=zfn he hl resV_nil h
end
section
variable {P : Program} {gd : Nat -> Option Tmp} {n : Nat} {σ : Sto} {w : World} {ops : List Oper} {S : Nat -> Prop} {isB : Nat -> Bool} {K : Sto -> World -> Prop} {i : Nat} {pl : List (Nat × Bool)}
def drawQ(P:Program)(gd:Nat->Option Tmp)(ops:List Oper)(n:Nat)(S:Nat->Prop)(isB:Nat->Bool)(pl:List (Nat×Bool))(σ:Sto)(w:World)(K:Sto->World->Prop):Option Oper->Prop
 |some o=>if zcE gd n σ o.guard=true then quV P S o (ev n σ) w (fun v=>zbY P gd ops n S isB pl (putS σ o.dst v) w K) else zbY P gd ops n S isB pl (putS σ o.dst undef) w K
 |Option.none=>False
def drawA(P:Program)(gd:Nat->Option Tmp)(ops:List Oper)(n:Nat)(S:Nat->Prop)(isB:Nat->Bool)(b:Bool)(pl:List (Nat×Bool))(σ:Sto)(w:World)(K:Sto->World->Prop):Option Oper->Prop
 |some o=>if zcE gd n σ o.guard=true then opV P o (ev n σ) w (fun v w'=>(b=true\/Keep S w w')/\zbY P gd ops n S isB pl (putS σ o.dst v) w' K) else zbY P gd ops n S isB pl (putS σ o.dst undef) w K
 |Option.none=>False
theorem drawV_q:zbY P gd ops n S isB ((i,true)::pl) σ w K=drawQ P gd ops n S isB pl σ w K (nthO ops i):=by
 unfold drawQ;rw[zbY];cases nthO ops i<;>rfl
theorem drawV_a:zbY P gd ops n S isB ((i,false)::pl) σ w K=drawA P gd ops n S isB (isB i) pl σ w K (nthO ops i):=by
 unfold drawA;rw[zbY];cases nthO ops i<;>rfl
variable {d : Option Tmp} {op : Op} {ty : TypeId} {ps : String} {af : Array Edge}
theorem zke:drawQ P gd ops n S isB pl σ w K (some ⟨d,op,ty,ps,af,Option.none⟩)=quV P S ⟨d,op,ty,ps,af,Option.none⟩ (ev n σ) w (fun v=>zbY P gd ops n S isB pl (putS σ d v) w K):=nr rfl
theorem zkf{b:Bool}:drawA P gd ops n S isB b pl σ w K (some ⟨d,op,ty,ps,af,Option.none⟩)=
 opV P ⟨d,op,ty,ps,af,Option.none⟩ (ev n σ) w (fun v w'=>(b=true\/Keep S w w')/\zbY P gd ops n S isB pl (putS σ d v) w' K):=nr rfl
theorem ziI{j:Nat}{c:Bool}:drawQ P gd ops n S isB pl σ w K (some ⟨d,op,ty,ps,af,some (j,c)⟩)=
 iteL (zcE gd n σ (some (j,c))) (quV P S ⟨d,op,ty,ps,af,some (j,c)⟩ (ev n σ) w (fun v=>zbY P gd ops n S isB pl (putS σ d v) w K)) (zbY P gd ops n S isB pl (putS σ d undef) w K) .mk:=nr rfl
theorem ziJ{b:Bool}{j:Nat}{c:Bool}:drawA P gd ops n S isB b pl σ w K (some ⟨d,op,ty,ps,af,some (j,c)⟩)=
 iteL (zcE gd n σ (some (j,c))) (opV P ⟨d,op,ty,ps,af,some (j,c)⟩ (ev n σ) w (fun v w'=>(b=true\/Keep S w w')/\zbY P gd ops n S isB pl (putS σ d v) w' K))
  (zbY P gd ops n S isB pl (putS σ d undef) w K) .mk:=nr rfl
theorem zln{o:Oper}{l:List Oper}:nthO (o::l) 0=some o:=nr rfl
theorem zlo{o:Oper}{l:List Oper}{i:Nat}:nthO (o::l) (i+1)=nthO l i:=nr rfl
variable {ρ : Operand -> Value} {k : Value -> Prop} {g : Option (Nat × Bool)}
theorem q_move(x:Operand):quV P S ⟨d,.move x,ty,ps,af,g⟩ ρ w k=okL (some (ρ x)) k .mk:=nr rfl
theorem q_assign(x:Operand):quV P S ⟨d,.assign x,ty,ps,af,g⟩ ρ w k=okL (some (ρ x)) k .mk:=nr rfl
theorem q_pick(c a b:Operand):quV P S ⟨d,.pick c a b,ty,ps,af,g⟩ ρ w k=okL (pickV (ρ c) (ρ a) (ρ b)) k .mk:=by
 unfold quV;dsimp only;cases ρ c<;>rfl
theorem q_bin(op:BinOp)(t:TypeId)(x y:Operand)(yt:TypeId):quV P S ⟨d,.binOp op t x y yt,ty,ps,af,g⟩ ρ w k=okL (binV P op t (ρ x) (ρ y)) k .mk:=nr rfl
theorem q_un(op:UnOp)(t:TypeId)(x:Operand):quV P S ⟨d,.unOp op t x,ty,ps,af,g⟩ ρ w k=okL (unV op (ρ x)) k .mk:=nr rfl
def offV(S:Nat->Prop):Value->Prop| .pointer p=>offS S p|_=>False
theorem q_load(t:TypeId)(x:Operand):quV P S ⟨d,.load t x,ty,ps,af,g⟩ ρ w k=(offV S (ρ x)/\okL (ldVal P w t (ρ x)) k .mk):=by
 unfold quV offV ldVal okL;dsimp only;cases ρ x<;>simp[okV]
theorem offV_ptr(p:Option Addr):offV S (.pointer p)=offS S p:=nr rfl
theorem q_ixA(t:TypeId)(x i:Operand):quV P S ⟨d,.indexAddr t x i,ty,ps,af,g⟩ ρ w k=okL (ixA P t (ρ x) (ρ i)) k .mk:=nr rfl
theorem q_ix(t:TypeId)(x i:Operand):quV P S ⟨d,.index t x i,ty,ps,af,g⟩ ρ w k=okL (ixS P t (ρ x) (ρ i)) k .mk:=nr rfl
theorem q_slice(t:TypeId)(x:Operand)(lo hi mx:Option Operand):quV P S ⟨d,.slice t x lo hi mx,ty,ps,af,g⟩ ρ w k=okL (slV P t (ρ x) (lo.map ρ) (hi.map ρ) (mx.map ρ)) k .mk:=nr rfl
theorem q_ext(x:Operand)(i:Nat):quV P S ⟨d,.extract x i,ty,ps,af,g⟩ ρ w k=okL (exV i (ρ x)) k .mk:=nr rfl
theorem q_conv(s t:TypeId)(x:Operand):quV P S ⟨d,.convert s t x,ty,ps,af,g⟩ ρ w k=okL (cvV P s t (ρ x)) k .mk:=nr rfl
theorem q_field(s:TypeId)(x:Operand)(f:Nat):quV P S ⟨d,.fieldAddr s x f,ty,ps,af,g⟩ ρ w k=okL (fdA P s (ρ x) f) k .mk:=nr rfl
theorem q_nc(x:Operand):quV P S ⟨d,.nilCheck x,ty,ps,af,g⟩ ρ w k↔okL (ncV (ρ x)) k .mk:=by
 unfold quV okL okV ncV;dsimp only
 cases ρ x<;>first|exact Iff.rfl| (rename_i p;cases p<;>simp)
theorem q_func(fn:Go.Fn)(f c:Array Operand):quV P S ⟨d,.makeFunc fn f c,ty,ps,af,g⟩ ρ w k=okL (some (.func fn (f.map ρ) (c.map ρ))) k .mk:=nr rfl
theorem q_len(x:Operand)(t:TypeId):quV P S ⟨d,.call ⟨.builtin .len,#[x],#[t]⟩,ty,ps,af,g⟩ ρ w k=okL (lenV P t (ρ x)) k .mk:=nr rfl
theorem q_build(t:TypeId)(parts:Array (Nat×Operand)):quV P S ⟨d,.build t parts,ty,ps,af,g⟩ ρ w k=
  (zbC P t=true/\okL (bdV P t (parts.toList.map fun p=>(p.1,ρ p.2))) k .mk):=nr rfl
theorem q_look(t:TypeId)(m key:Operand)(ok:Bool):quV P S ⟨d,.lookup t m key ok,ty,ps,af,g⟩ ρ w k=
  ((∀r,ρ m= .map (some r)->¬S r)/\okL (lkV P w t (ρ m) (ρ key) ok) k .mk):=nr rfl
end
theorem zlR(v:Value)(l:List Value):getL (v::l) 0=v:=nr rfl
theorem zlS(v:Value)(l:List Value)(i:Nat):getL (v::l) (i+1)=getL l i:=nr rfl
theorem zjY(t:Bool)(a b:Value):pickV (.bool t) a b=some (bif t then a else b):=nr rfl
theorem m1{α β:Type}(f:α->β)(a:α):(some a).map f=some (f a):=nr rfl
theorem m2{α β:Type}(f:α->β):(Option.none:Option α).map f=Option.none:=nr rfl
theorem m3{α:Type}(a:α):(some a).isSome=true:=nr rfl
theorem m4{α β:Type}(f:α->β)(l:List α):l.toArray.map f=(l.map f).toArray:=by simp
theorem m5{α β:Type}(f:α->β)(a:α)(l:List α):(a::l).map f=f a::l.map f:=nr rfl
theorem m6{α β:Type}(f:α->β):([]:List α).map f=[]:=nr rfl
theorem m7{α:Type}(l:List α):[]++l=l:=nr rfl
theorem m8{α:Type}(l:List α):l++ []=l:=by simp
theorem m9{α:Type}(l m:List α):l.toArray++m.toArray=(l++m).toArray:=by simp
theorem m10{α:Type}(a:α)(l m:List α):(a::l)++m=a::(l++m):=nr rfl
theorem m11{α:Type}(a b:α):(bif true then a else b)=a:=nr rfl
theorem m12{α:Type}(a b:α):(bif false then a else b)=b:=nr rfl
theorem m13{α:Type}(a:α)(l:List α):(a::l)[0]? =some a:=nr rfl
theorem m14{α:Type}(a:α)(l:List α)(i:Nat):(a::l)[i+1]? =l[i]?:=by simp
attribute [go_sem ↓] putS_at putS_no v_alloc v_nc zle  opsV_nil zj0 zl2 v_move v_assign v_pick v_bin v_un v_load v_ixA v_ix v_slice v_ext v_conv v_field v_func v_call v_len v_store v_box v_bs v_build v_map v_append v_copy v_mkS v_mapU v_look v_range v_next ev_const ev_tmp ev_func upd_at drawV_q drawV_a zke zkf ziI ziJ q_move q_assign q_pick q_bin q_un q_load q_ixA q_ix q_slice q_ext q_conv q_field q_nc q_func q_len q_build q_look
theorem m15(n:Nat):0+n=n:=by omega
attribute [go_sem] callQ_t callQ_f b_shr1 wrap_u64 wrap_u32 fdiv_two bq1 bq2 bq3 bq4 zhx okL_some iteL_t iteL_f ncV_pt ncV_some Option.isNone_some Option.isNone_none Option.isSome_some Bool.not_true Bool.not_false bi1 bi2 bi3 bi4 m16 i_slice1 i_array1 za6 m15 zld  okV_some  zla  zlb  zkL  zlR  zlS  zjY  b_add  b_sub  b_mul  b_lss  b_leq  b_gtr  b_geq  b_eql  b_neq  b_seql  b_sneq  b_slss  b_sgtr  b_sadd  b_bool  b_beql  b_bneq  b_ptr  b_peql  b_pneq  u_not  u_neg  l_D  l_slice  l_str  i_D  zlG  i_array  i_SD  i_str  s_D  s_str  s_strl  s_strh  s_sl  s_sll  s_slh  c_D  c_int  zlA  ldP_X  ldX_one  ldX_agg  ex_tuple  wrap_i64  wrap_u8  zkm  zkr  zfW  offV_ptr  offS_no  zln zlo m1  m2  m3  m4  m5  m6  m7  m8  m9  m10  m11  m12  m13  m14  Int.toNat_natCast  Nat.mul_one  true_and and_true
attribute [go_sem] Nat.reduceLT Nat.reduceEqDiff Nat.reduceSub
attribute [go_sem ↓] reduceIte
/-! the short rules:their last arguments are found by simp -/
section
variable {α : Type} {a b : α}
theorem vq0(h:a=b:=by simp only[go_sem]):a=b:=h 
theorem vq1{P1:Prop}(p1:P1)(h:P1->a=b:=by intro h1;simp only[go_sem,h1]):a=b:=h p1
theorem vq2{P1:Prop}{P2:Prop}(p1:P1)(p2:P2)(h:P1->P2->a=b:=by intro h1 h2;simp only[go_sem,h1,h2]):a=b:=h p1 p2
theorem vr0(h:a=b:=by first| (simp only[go_sem];done)| (simp only[go_sem];rfl)):a=b:=h 
theorem vr1{P1:Prop}(p1:P1)(h:P1->a=b:=by intro h1;first| (simp only[go_sem,h1];done)| (simp only[go_sem,h1];rfl)):a=b:=h p1
end
section
variable {P : Program} {r : Option Nat} {n : Nat} {Q : Post} {σ : Sto} {ds : List Deferred} {w : World}
theorem rg0{id:Nat}{ops:Array Oper}{σ1:Sto}{w1:World}(h:Q .normal σ1 ds w1)(hs:∀(gd:Nat->Option Tmp) (K:Sto->World->Prop),gd=dstL ops.toList->(opsV P gd n ops.toList σ w K=K σ1 w1):=by intro gd K hgd;(simp (disch:=first|omega|assumption|rfl) only[go_sem])<;>exact rfl)(hd:za0 ops=true:=by rfl):
  W P r n (.region id ops false) Q σ ds w:=zb7 hd fun gd K hgd hK=>(hs gd K hgd).mpr (hK _ _ h)
theorem rg1{P1:Prop}{id:Nat}{ops:Array Oper}{σ1:Sto}{w1:World}(p1:P1)(h:Q .normal σ1 ds w1)(hs:P1->∀(gd:Nat->Option Tmp) (K:Sto->World->Prop),gd=dstL ops.toList->(opsV P gd n ops.toList σ w K=K σ1 w1):=by intro h1 gd K hgd;(simp (disch:=first|omega|assumption|rfl) only[go_sem,h1])<;>exact rfl)(hd:za0 ops=true:=by rfl):
  W P r n (.region id ops false) Q σ ds w:=zb7 hd fun gd K hgd hK=>(hs p1 gd K hgd).mpr (hK _ _ h)
theorem rg2{P1:Prop}{P2:Prop}{id:Nat}{ops:Array Oper}{σ1:Sto}{w1:World}(p1:P1)(p2:P2)(h:Q .normal σ1 ds w1)(hs:P1->P2->∀(gd:Nat->Option Tmp) (K:Sto->World->Prop),gd=dstL ops.toList->(opsV P gd n ops.toList σ w K=K σ1 w1):=by intro h1 h2 gd K hgd;(simp (disch:=first|omega|assumption|rfl) only[go_sem,h1,h2])<;>exact rfl)(hd:za0 ops=true:=by rfl):
  W P r n (.region id ops false) Q σ ds w:=zb7 hd fun gd K hgd hK=>(hs p1 p2 gd K hgd).mpr (hK _ _ h)
theorem rg3{P1:Prop}{P2:Prop}{P3:Prop}{id:Nat}{ops:Array Oper}{σ1:Sto}{w1:World}(p1:P1)(p2:P2)(p3:P3)(h:Q .normal σ1 ds w1)(hs:P1->P2->P3->∀(gd:Nat->Option Tmp) (K:Sto->World->Prop),gd=dstL ops.toList->(opsV P gd n ops.toList σ w K=K σ1 w1):=by intro h1 h2 h3 gd K hgd;(simp (disch:=first|omega|assumption|rfl) only[go_sem,h1,h2,h3])<;>exact rfl)(hd:za0 ops=true:=by rfl):
  W P r n (.region id ops false) Q σ ds w:=zb7 hd fun gd K hgd hK=>(hs p1 p2 p3 gd K hgd).mpr (hK _ _ h)
theorem rg4{P1:Prop}{P2:Prop}{P3:Prop}{P4:Prop}{id:Nat}{ops:Array Oper}{σ1:Sto}{w1:World}(p1:P1)(p2:P2)(p3:P3)(p4:P4)(h:Q .normal σ1 ds w1)(hs:P1->P2->P3->P4->∀(gd:Nat->Option Tmp) (K:Sto->World->Prop),gd=dstL ops.toList->(opsV P gd n ops.toList σ w K=K σ1 w1):=by intro h1 h2 h3 h4 gd K hgd;(simp (disch:=first|omega|assumption|rfl) only[go_sem,h1,h2,h3,h4])<;>exact rfl)(hd:za0 ops=true:=by rfl):
  W P r n (.region id ops false) Q σ ds w:=zb7 hd fun gd K hgd hK=>(hs p1 p2 p3 p4 gd K hgd).mpr (hK _ _ h)
theorem rg5{P1:Prop}{P2:Prop}{P3:Prop}{P4:Prop}{P5:Prop}{id:Nat}{ops:Array Oper}{σ1:Sto}{w1:World}(p1:P1)(p2:P2)(p3:P3)(p4:P4)(p5:P5)(h:Q .normal σ1 ds w1)(hs:P1->P2->P3->P4->P5->∀(gd:Nat->Option Tmp) (K:Sto->World->Prop),gd=dstL ops.toList->(opsV P gd n ops.toList σ w K=K σ1 w1):=by intro h1 h2 h3 h4 h5 gd K hgd;(simp (disch:=first|omega|assumption|rfl) only[go_sem,h1,h2,h3,h4,h5])<;>exact rfl)(hd:za0 ops=true:=by rfl):
  W P r n (.region id ops false) Q σ ds w:=zb7 hd fun gd K hgd hK=>(hs p1 p2 p3 p4 p5 gd K hgd).mpr (hK _ _ h)
theorem rg7{P1:Prop}{P2:Prop}{P3:Prop}{P4:Prop}{P5:Prop}{P6:Prop}{P7:Prop}{id:Nat}{ops:Array Oper}{σ1:Sto}{w1:World}(p1:P1)(p2:P2)(p3:P3)(p4:P4)(p5:P5)(p6:P6)(p7:P7)(h:Q .normal σ1 ds w1)(hs:P1->P2->P3->P4->P5->P6->P7->∀(gd:Nat->Option Tmp) (K:Sto->World->Prop),gd=dstL ops.toList->(opsV P gd n ops.toList σ w K=K σ1 w1):=by intro h1 h2 h3 h4 h5 h6 h7 gd K hgd;(simp (disch:=first|omega|assumption|rfl) only[go_sem,h1,h2,h3,h4,h5,h6,h7])<;>exact rfl)(hd:za0 ops=true:=by rfl):
  W P r n (.region id ops false) Q σ ds w:=zb7 hd fun gd K hgd hK=>(hs p1 p2 p3 p4 p5 p6 p7 gd K hgd).mpr (hK _ _ h)
theorem rg8{P1:Prop}{P2:Prop}{P3:Prop}{P4:Prop}{P5:Prop}{P6:Prop}{P7:Prop}{P8:Prop}{id:Nat}{ops:Array Oper}{σ1:Sto}{w1:World}(p1:P1)(p2:P2)(p3:P3)(p4:P4)(p5:P5)(p6:P6)(p7:P7)(p8:P8)(h:Q .normal σ1 ds w1)(hs:P1->P2->P3->P4->P5->P6->P7->P8->∀(gd:Nat->Option Tmp) (K:Sto->World->Prop),gd=dstL ops.toList->(opsV P gd n ops.toList σ w K=K σ1 w1):=by intro h1 h2 h3 h4 h5 h6 h7 h8 gd K hgd;(simp (disch:=first|omega|assumption|rfl) only[go_sem,h1,h2,h3,h4,h5,h6,h7,h8])<;>exact rfl)(hd:za0 ops=true:=by rfl):
  W P r n (.region id ops false) Q σ ds w:=zb7 hd fun gd K hgd hK=>(hs p1 p2 p3 p4 p5 p6 p7 p8 gd K hgd).mpr (hK _ _ h)
theorem rg9{P1:Prop}{P2:Prop}{P3:Prop}{P4:Prop}{P5:Prop}{P6:Prop}{P7:Prop}{P8:Prop}{P9:Prop}{id:Nat}{ops:Array Oper}{σ1:Sto}{w1:World}(p1:P1)(p2:P2)(p3:P3)(p4:P4)(p5:P5)(p6:P6)(p7:P7)(p8:P8)(p9:P9)(h:Q .normal σ1 ds w1)(hs:P1->P2->P3->P4->P5->P6->P7->P8->P9->∀(gd:Nat->Option Tmp) (K:Sto->World->Prop),gd=dstL ops.toList->(opsV P gd n ops.toList σ w K=K σ1 w1):=by intro h1 h2 h3 h4 h5 h6 h7 h8 h9 gd K hgd;(simp (disch:=first|omega|assumption|rfl) only[go_sem,h1,h2,h3,h4,h5,h6,h7,h8,h9])<;>exact rfl)(hd:za0 ops=true:=by rfl):
  W P r n (.region id ops false) Q σ ds w:=zb7 hd fun gd K hgd hK=>(hs p1 p2 p3 p4 p5 p6 p7 p8 p9 gd K hgd).mpr (hK _ _ h)
theorem rq{id:Nat}{ops:Array Oper}(h:∀(gd:Nat->Option Tmp) (K:Sto->World->Prop),gd=dstL ops.toList->(∀σ' w',Q .normal σ' ds w'->K σ' w')->opsV P gd n ops.toList σ w K)(hd:za0 ops=true:=by rfl):
  W P r n (.region id ops false) Q σ ds w:=zb7 hd h
theorem wc0{c:Operand}{x y:Code}{t:Bool}(ht:t=true->W P r n x Q σ ds w)(hf:t=false->W P r n y Q σ ds w)(hc:ev n σ c= .bool t:=by simp only[go_sem];rfl):W P r n (.cond c x y) Q σ ds w:=zay (hc) ht hf
theorem rt0{fn:Func}{R:Value->World->Prop}{e:Exit}{t:Tmp}{m:Nat}{v:Value}(hm:fn.ntmps=m)(h:R v w)(hl:fn.results.toList=[.tmp t]:=by exact rfl)(hv:ev m σ (.tmp t)=v:=by simp only[go_sem];rfl)(he:e= .normal\/e= .ret:=by simp):retQ P fn R e σ [] w:=zk4 he hl hm (hv) h
theorem rt1{P1:Prop}{fn:Func}{R:Value->World->Prop}{e:Exit}{t:Tmp}{m:Nat}{v:Value}(p1:P1)(hm:fn.ntmps=m)(h:R v w)(hl:fn.results.toList=[.tmp t]:=by exact rfl)(hv:P1->ev m σ (.tmp t)=v:=by intro h1;simp only[go_sem,h1];rfl)(he:e= .normal\/e= .ret:=by simp):retQ P fn R e σ [] w:=zk4 he hl hm (hv p1) h
end
theorem gk(j t:Nat){L:List Oper}{gd:Nat->Option Tmp}(hgd:gd=dstL L)(h:dstL L j=some t):∀n σ b,zcE gd n σ (some (j,b))=zbS (ev n σ (.tmp t)) b:=fun n σ b=>by rw[zaY,show gd j=some t by rw[hgd];exact h];rfl
theorem ci(i:Nat):(i:Int)+1=((i+1:Nat):Int):=by push_cast;rfl
theorem cj(i:Nat):(0:Int)<=(i:Int):=Int.natCast_nonneg i
structure Gtz(p q:Prop):Prop where
  of:q->p
section
variable {P : Program} {r : Option Nat} {n : Nat} {Q : Post} {σ : Sto} {ds : List Deferred} {w : World} {p q s : Prop}
theorem zfF:Gtz p p:=⟨id⟩
theorem zlL(h:Ctl p q)(k:Gtz q s):Gtz p s:=⟨fun g=>c_r (k.of g) h⟩
theorem gtz_r{id:Nat}{ops:Array Oper}{σ1:Sto}{w1:World}(hs:∀(gd:Nat->Option Tmp) (K:Sto->World->Prop),gd=dstL ops.toList->opsV P gd n ops.toList σ w K=K σ1 w1)(hd:za0 ops=true)(k:Gtz (Q .normal σ1 ds w1) q):
    Gtz (W P r n (.region id ops false) Q σ ds w) q:=⟨fun g=>zb7 hd fun gd K hgd hK=>(hs gd K hgd).mpr (hK _ _ (k.of g))⟩
theorem gz(h:p)(hq:s)(hs:p->Gtz q s:=by
    intro h1
    repeat (first
      | (apply zlL;· (with_reducible constructor)<;>exact rfl)
      | (apply gtz_r;(intro gd K hgd;(simp (disch:=first|omega|assumption|rfl) only[go_sem,h1])<;>with_reducible exact rfl);rfl))
    exact zfF):q:=(hs h).of hq
theorem rqz{id:Nat}{ops:Array Oper}(h:∀(gd:Nat->Option Tmp) (K:Sto->World->Prop),gd=dstL ops.toList->(∀σ' w',Q .normal σ' ds w'->K σ' w')->opsV P gd n ops.toList σ w K)(hc:Gtz p (W P r n (.region id ops false) Q σ ds w)/\za0 ops=true:=by
    constructor
    · repeat (apply zlL;· (with_reducible constructor)<;>exact rfl)
      exact zfF
    · rfl):p:=hc.1.of (zb7 hc.2 h)
theorem wcz{c:Operand}{x y:Code}{t:Bool}(ht:t=true->W P r n x Q σ ds w)(hf:t=false->W P r n y Q σ ds w)(hg:Gtz p (W P r n (.cond c x y) Q σ ds w)/\ev n σ c= .bool t:=by
    constructor
    · repeat (apply zlL;· (with_reducible constructor)<;>exact rfl)
      exact zfF
    · simp only[go_sem];rfl):p:=hg.1.of (zay hg.2 ht hf)
theorem en{K:Sto->World->Prop}(hK:∀σ' w',Q .normal σ' ds w'->K σ' w')(hq:q)(hc:Gtz (Q .normal σ ds w) q:=by
    repeat (apply zlL;· (with_reducible constructor)<;>exact rfl)
    exact zfF):K σ w:=hK _ _ (hc.of hq)
theorem gz0(hq:s)(hs:Gtz q s:=by
    repeat (first
      | (apply zlL;· (with_reducible constructor)<;>exact rfl)
      | (apply gtz_r;(intro gd K hgd;(simp (disch:=first|omega|assumption|rfl) only[go_sem])<;>with_reducible exact rfl);rfl))
    exact zfF):q:=hs.of hq
theorem sgz(h:p)(hq:q)(hs:p->(s=q):=by intro h1;(first| (simp (disch:=first|omega|assumption|rfl) only[go_sem,h1])|skip)<;>exact rfl):s:=(hs h).mpr hq
theorem sg0(hq:q)(hs:s=q:=by (first| (simp (disch:=first|omega|assumption|rfl) only[go_sem])|skip)<;>exact rfl):s:=hs.mpr hq
end
theorem yxs{α:Type _}{o:Option α}(h:o.isSome=true):∃a,o=some a:=Option.isSome_iff_exists.1 h
theorem ydT{p:Prop}[Decidable p]:(decide p=true)=p:=decide_eq_true_eq
theorem ydF{p:Prop}[Decidable p]:(decide p=false)↔¬p:=decide_eq_false_iff_not
theorem yn0(n:Nat):0+n=n:=Nat.zero_add n
theorem ylm{α:Type _}{β:Type _}{xs:List α}(f:α->β):(xs.map f).length=xs.length:=List.length_map f
theorem yla{α:Type _}(xs ys zs:List α):xs++ys++zs=xs++(ys++zs):=List.append_assoc xs ys zs
theorem ynl(n:Nat):n<=n:=Nat.le_refl n
theorem yet{p:Prop}[inst:Decidable p](h:p):decide p=true:=decide_eq_true h
theorem yef{p:Prop}[inst:Decidable p](h:¬p):decide p=false:=decide_eq_false h
theorem az1{a:Prop}(h:a):a:=h
theorem az2{a b:Prop}(h1:a)(h2:b):a/\b:=⟨h1,h2⟩
theorem az3{a b c:Prop}(h1:a)(h2:b)(h3:c):a/\b/\c:=⟨h1,h2,h3⟩
theorem az4{a b c d:Prop}(h1:a)(h2:b)(h3:c)(h4:d):a/\b/\c/\d:=⟨h1,h2,h3,h4⟩
theorem az5{a b c d e:Prop}(h1:a)(h2:b)(h3:c)(h4:d)(h5:e):a/\b/\c/\d/\e:=⟨h1,h2,h3,h4,h5⟩
theorem az6{a b c d e f:Prop}(h1:a)(h2:b)(h3:c)(h4:d)(h5:e)(h6:f):a/\b/\c/\d/\e/\f:=⟨h1,h2,h3,h4,h5,h6⟩
theorem az7{a b c d e f g:Prop}(h1:a)(h2:b)(h3:c)(h4:d)(h5:e)(h6:f)(h7:g):a/\b/\c/\d/\e/\f/\g:=⟨h1,h2,h3,h4,h5,h6,h7⟩
end Go.Proofs.YtahbdamijngmmaaGreat
namespace Go.Proofs.YtahbdamijngmmaaGreat
open Go
structure KeepB(n0:Nat)(C:Nat->Prop)(w w':World):Prop where
 os:w'.os=w.os
 tape:w'.tape=w.tape
 output:w'.output=w.output
 size:w.heap.size<=w'.heap.size
 block:∀b,b<n0->¬C b->w'.heap[b]? =w.heap[b]?
 drawn:w.drawn<=w'.drawn
theorem KeepB.refl(n0:Nat)(C:Nat->Prop)(w:World):KeepB n0 C w w:=⟨rfl,rfl,rfl,ynl _,fun _ _ _=>rfl,ynl _⟩
theorem KeepB.trans{n0:Nat}{C:Nat->Prop}{a b c:World}(h:KeepB n0 C a b)(k:KeepB n0 C b c):KeepB n0 C a c:=
 ⟨k.os.trans h.os,k.tape.trans h.tape,k.output.trans h.output,Nat.le_trans h.size k.size,fun i hi hc=>(k.block i hi hc).trans (h.block i hi hc),Nat.le_trans h.drawn k.drawn⟩
theorem Keep.toB{n0:Nat}{C S:Nat->Prop}{a b:World}(h:Keep S a b)(hn:n0<=a.heap.size)(hS:∀i,i<n0->S i->C i):KeepB n0 C a b:=
 ⟨h.os,h.tape,h.output,h.size,fun i hi hc=>h.block i (by omega) (fun hs=>hc (hS i hi hs)),h.drawn⟩
theorem KeepB.mono{n0 n1:Nat}{C D:Nat->Prop}{a b:World}(h:KeepB n0 C a b)(hn:n1<=n0)(hC:∀i,i<n1->C i->D i):KeepB n1 D a b:=
 ⟨h.os,h.tape,h.output,h.size,fun i hi hd=>h.block i (by omega) (fun hc=>hd (hC i hi hc)),h.drawn⟩
theorem KeepB.keep{C:Nat->Prop}{a b:World}(h:KeepB a.heap.size C a b):Keep C a b:=⟨h.os,h.tape,h.output,h.size,h.block,h.drawn⟩
def Yld(P:Program)(l:Nat)(args:Array Value)(w:World)(R:Value->World->Prop):Prop:=zg5 P (.func (.yield l) #[] #[]) args w R
theorem Yld.mono{P:Program}{l:Nat}{args:Array Value}{w:World}{R R':Value->World->Prop}(h:Yld P l args w R)(hr:∀v w,R v w->R' v w):Yld P l args w R':=zgM hr h
def span(n k:Nat):Nat->Prop:=fun b=>n<=b/\b<n+k
def IterG{α:Type}(P:Program)(g:FuncId)(cap:Array Value)(W0:World)(n0:Nat)(C:Nat->Prop)(own:Nat)(Pre:List α->α->Prop)(Full:List α->Prop)(enc:α->World->Array Value->Prop):Prop:=
 ∀(l:Nat) (J Jx:List α->World->Prop) (W:World),Ext W0 W->n0<=W.heap.size->
  (∀pre A B,J pre A->Keep (span W.heap.size own) A B->J pre B)->(∀pre A B,Jx pre A->Keep (span W.heap.size own) A B->Jx pre B)->
  (∀pre x A args,Pre pre x->J pre A->W.heap.size+own<=A.heap.size->KeepB n0 C W A->enc x A args->Yld P l args A (fun v B=>
   (v= .bool true/\J (pre++ [x]) B/\KeepB n0 C A B/\∀b,span W.heap.size own b->B.heap[b]? =A.heap[b]?)\/(v= .bool false/\Jx (pre++ [x]) B)))->
  J [] W->Fn P g (#[.func (.yield l) #[] #[]]++cap) W (fun _ B=>(∃xs,Full xs/\J xs B)\/∃pre x,Pre pre x/\Jx (pre++ [x]) B)
def Iter{α:Type}(P:Program)(g:FuncId)(cap:Array Value)(W0:World)(n0:Nat)(C:Nat->Prop)(xs:List α)(enc:α->World->Array Value->Prop):Prop:=
 ∀(l:Nat) (J Jx:List α->World->Prop) (W:World),Ext W0 W->n0<=W.heap.size->
  (∀pre A B,J pre A->Ext A B->J pre B)->(∀pre A B,Jx pre A->Ext A B->Jx pre B)->
  (∀pre x suf A args,xs=pre++x::suf->J pre A->KeepB n0 C W A->enc x A args->Yld P l args A (fun v B=>
   (v= .bool true/\J (pre++ [x]) B/\KeepB n0 C A B)\/(v= .bool false/\Jx (pre++ [x]) B)))->
  J [] W->Fn P g (#[.func (.yield l) #[] #[]]++cap) W (fun _ B=>J xs B\/∃pre x suf,xs=pre++x::suf/\Jx (pre++ [x]) B)
theorem Iter.toG{α:Type}{P:Program}{g:FuncId}{cap:Array Value}{W0:World}{n0:Nat}{C:Nat->Prop}{xs:List α}{enc:α->World->Array Value->Prop}(h:Iter P g cap W0 n0 C xs enc):
  IterG P g cap W0 n0 C 0 (fun pre x=>∃suf,xs=pre++x::suf) (fun l=>l=xs) enc:=fun l J Jx W h1 h2 h3 h4 h5 h6=>
 Fn.mono (h l J Jx W h1 h2 (fun pre A B hj hk=>h3 pre A B hj (hk.mono (fun _ _ h=>h.elim))) (fun pre A B hj hk=>h4 pre A B hj (hk.mono (fun _ _ h=>h.elim)))
  (fun pre x suf A args e hj hk he=>Yld.mono (h5 pre x A args ⟨suf,e⟩ hj (by have:=hk.size;omega) hk he) (fun v B hr=>by
   rcases hr with ⟨h1,h2,h3,_⟩|hr
   ·exact .inl ⟨h1,h2,h3⟩
   ·exact .inr hr)) h6) (fun v B hr=>by
  rcases hr with hr| ⟨pre,x,suf,e,hr⟩
  ·exact .inl ⟨xs,rfl,hr⟩
  ·exact .inr ⟨pre,x,⟨suf,e⟩,hr⟩)
def zdP(σ:Sto):List (Tmp×Value)->Sto
 | []=>σ
 | (t,v)::l=>zdP (upd σ t v) l
theorem zcZ(n:Nat)(ds:List Deferred):∀(l:List (Tmp×Value)) (σ:Sto),l.foldl (fun t (p,v)=>t.setIfInBounds p v) (act n σ ds).tmps=(act n (zdP σ l) ds).tmps
 | [],_=>rfl
 | (p,v)::l,σ=>by
  simp only[List.foldl_cons,zmi];exact zcZ n ds l (upd σ p v)
theorem zkV(σ:Sto):zdP σ []=σ:=nr rfl
theorem zjW(σ:Sto)(t:Tmp)(v:Value)(l:List (Tmp×Value)):zdP σ ((t,v)::l)=zdP (upd σ t v) l:=nr rfl
theorem zip_l(l:List Tmp)(m:List Value):(l.toArray.zip m.toArray).toList=l.zip m:=by simp
theorem zip_cons(a:Tmp)(b:Value)(l:List Tmp)(m:List Value):(a::l).zip (b::m)=(a,b)::l.zip m:=nr rfl
theorem zip_nil:([]:List Tmp).zip ([]:List Value)=[]:=nr rfl
attribute [go_sem] zkV zjW zip_l zip_cons zip_nil
def two(D:Nat):Nat->Prop:=fun b=>b=D\/b=D+1
theorem zaH{w:World}{r:Nat}{o:Obj}{S:Nat->Prop}(hr:S r):Keep S w (w.putObj r o):=
 ⟨rfl,rfl,rfl,by simp,fun b _ hb=>World.putObj_heap_other (fun e=>hb (e▸hr)),ynl _⟩
def zk2{α:Type}(I:List α->World->Prop)(Ix:Code->List α->World->Prop)(n2:Nat)(C:Nat->Prop)(pre':List α)(A:World):Post
 | .normal,_,_,B=>I pre' B/\KeepB n2 C A B
 | .ret,_,_,B=>Ix .ret pre' B/\KeepB n2 C A B
 | .exit id,_,_,B=>Ix (.exit id) pre' B/\KeepB n2 C A B
 | .goto t,_,_,B=>Ix (.goto t) pre' B/\KeepB n2 C A B
 |_,_,_,_=>False
def zeX(fn:FuncId)(tmps:Array Value)(ps:Array Tmp)(assign body:Code)(D:Nat)(st:LoopState)(pe:Option Code):Loop:=
 {state:=st,pending:=pe,fn,tmps,params:=ps,assign,body,defers:=D}
theorem W_rangeG{α:Type}{P:Program}{n:Nat}{f:Operand}{ps:Array Tmp}{assign body:Code}{Q:Post}{σ:Sto}{ds:List Deferred}{w:World}
  {g:FuncId} {cap:Array Value} {W0:World} {n0:Nat} {C:Nat->Prop} {own:Nat} {Pre:List α->α->Prop} {Full:List α->Prop} {enc:α->World->Array Value->Prop}
  (hf:ev n σ f= .func (.func g) #[] cap) (hc:zar P g=true) (hit:IterG P g cap W0 n0 C own Pre Full enc) (hW0:Ext W0 w) (hn0:n0<=w.heap.size) (hCn:∀b,C b->b<w.heap.size)
  (henc:∀x A args,enc x A args->args.size=ps.size)
  (I:List α->World->Prop) (Ix:Code->List α->World->Prop)
  (hI:∀pre A B,I pre A->Keep (span w.heap.size (2+own)) A B->I pre B)
  (hIx:∀c pre A B,Ix c pre A->Keep (span w.heap.size (2+own)) A B->Ix c pre B)
  (h0:I [] w)
  (hround:∀(l:Nat) (pre:List α) (x:α) (A:World) (args:Array Value),Pre pre x->w.heap.size+2+own<=A.heap.size->I pre A->enc x A args->
   W P (some l) n assign (zdH (fun σ1 ds1 A1=>ds1=[]/\KeepB (w.heap.size+2+own) C A A1/\∀A2,Keep (two w.heap.size) A1 A2->W P (some l) n body (zk2 I Ix (w.heap.size+2+own) C (pre++ [x]) A2) σ1 [] A2) (fun _ _ _ _=>False))
    (zdP σ (ps.zip args).toList) [] A)
  (hdone:∀xs w',Full xs->w.heap.size+2<=w'.heap.size->I xs w'->w'.heap[w.heap.size]? =some (.deferred (some []))->Q .normal σ ({target:= .collected w.heap.size,args:=#[]}::ds) w')
  (hstop:∀c pre x w',w.heap.size+2<=w'.heap.size->Pre pre x->Ix c (pre++ [x]) w'->w'.heap[w.heap.size]? =some (.deferred (some []))->
   W P .none n c Q σ ({target:= .collected w.heap.size,args:=#[]}::ds) w'):
  W P .none n (.rangeFunc f ps assign body) Q σ ds w:=by
 refine wpIn_rangeFunc ?_;intro fn _;generalize hrec:zeX fn (act n σ ds).tmps ps assign body w.heap.size=rec;obtain⟨W1,hW1⟩:∃W1,(w.alloc (.deferred (some []))).alloc (.loop (rec .ready .none))=W1:=⟨_,rfl⟩;have hsz1:W1.heap.size=w.heap.size+2:=by rw[←hW1];simp
 have hL1:W1.heap[w.heap.size+1]? =some (.loop (rec .ready .none)):=by
  rw[←hW1];have:=World.alloc_heap_new (w.alloc (.deferred (some []))) (.loop (rec .ready .none));rwa [World.size_alloc]at this
 have hK1:W1.heap[w.heap.size]? =some (.deferred (some [])):=by
  rw[←hW1];exact(RowKit.Below.heap_alloc _ _ _ (by simp)).trans (World.alloc_heap_new w _)
 have hE1:Ext w W1:=by rw[←hW1];exact(Ext.alloc w _).trans (Ext.alloc _ _)
 have hI1:I [] W1:=hI _ _ _ h0 (hE1.mono (fun _ _ h=>h.elim));have hl2:two w.heap.size (w.heap.size+1):= .inr rfl;have hl2':span w.heap.size (2+own) (w.heap.size+1):=by unfold span;omega
 refine⟨w.heap.size+1,[{target:= .collected w.heap.size,args:=#[]}],W1,{target:= .fn (.func g) cap,args:=#[.func (.yield (w.heap.size+1)) #[] #[]]},W1,g,
  #[.func (.yield (w.heap.size+1)) #[] #[]]++cap,W1,?_,?_,?_,?_,zdy,?_⟩
 ·rw[←hW1,←hrec];exact run_enterLoop_outer _ _ _ _ _
 ·simp only[resolve,zcy,hf];simp[Deferred.ofValue,ev]
 ·intro f' hf';trivial
 ·simp only[invoke];exact zct hc
 ·-- the iterator's contract
  have hsp:∀{n:Nat} b,b<n->span W1.heap.size own b->span w.heap.size (2+own) b:=fun b _ h=>by unfold span at*;omega
  have hCl:∀b,two w.heap.size b->¬C b:=fun b hb hcb=>by have:=hCn b hcb;rcases hb with rfl|rfl<;>omega
  refine zc2 (CallsIn.mono (hit (w.heap.size+1)
   (fun pre B=>I pre B/\w.heap.size+2<=B.heap.size/\B.heap[w.heap.size+1]? =some (.loop (rec .ready .none))/\B.heap[w.heap.size]? =some (.deferred (some [])))
   (fun pre B=>∃c,Ix c pre B/\w.heap.size+2<=B.heap.size/\B.heap[w.heap.size+1]? =some (.loop (rec .done (some c)))/\B.heap[w.heap.size]? =some (.deferred (some [])))
   W1 (hW0.trans hE1) (by omega) ?_ ?_ ?_ ⟨hI1,by omega,hL1,hK1⟩) ?_)
  ·rintro pre A B ⟨hi,hs,hl,hk⟩ hAB;exact⟨hI _ _ _ hi (hAB.mono hsp),Nat.le_trans hs hAB.size,(hAB.block _ (by omega) (by unfold span;omega)).trans hl,(hAB.block _ (by omega) (by unfold span;omega)).trans hk⟩
  ·rintro pre A B ⟨c,hi,hs,hl,hk⟩ hAB;exact⟨c,hIx _ _ _ _ hi (hAB.mono hsp),Nat.le_trans hs hAB.size,(hAB.block _ (by omega) (by unfold span;omega)).trans hl,(hAB.block _ (by omega) (by unfold span;omega)).trans hk⟩
  ·-- one round
   rintro pre x A args hxs ⟨hi,hs,hl,hk⟩ hsA _ hx;have hy:=run_yield (P:=P) (args:=args) hl (by rw[←hrec];exact henc x A args hx);unfold Yld zg5
   dsimp only
   rw[show (#[]++args:Array Value)=args from by simp];rw[hy,←hrec]
   dsimp only[zeX,opR]
   refine zcV (r:= .none) (n:=0) (roundIn_of_wpIn (F:=fw .none) (n:=0) trivial ?_);have hin:(fw .none).inRound (w.heap.size+1)=fw (some (w.heap.size+1)):=rfl;rw[hin];have hfold:(ps.zip args).foldl (fun t (x:Tmp×Value)=>t.setIfInBounds x.1 x.2) (act n σ ds).tmps=(act n (zdP σ (ps.zip args).toList) []).tmps:=by
    rw[←Array.foldl_toList];exact zcZ n ds _ σ
   have hst:({tmps:=(ps.zip args).foldl (fun t (x:Tmp×Value)=>t.setIfInBounds x.1 x.2) (act n σ ds).tmps,defers:=[]}:Act)=act n (zdP σ (ps.zip args).toList) []:=by
    rw[hfold];rfl
   have hr:=hround (w.heap.size+1) pre x A args hxs (by omega) hi hx;unfold W at hr;rw[←hst]at hr;refine wpIn_mono hr ?_;rintro e a A1 ⟨σ1,ds1,rfl,hq⟩;cases e with
   |normal=>
    obtain⟨rfl,hA1,hbody⟩:=hq;have hlA1:A1.heap[w.heap.size+1]? =some (.loop (rec .ready .none)):=(hA1.block _ (by omega) (hCl _ hl2)).trans hl;have hkA1:A1.heap[w.heap.size]? =some (.deferred (some [])):=(hA1.block _ (by omega) (hCl _ (.inl rfl))).trans hk;have hlt1:w.heap.size+1<A1.heap.size:=(Array.getElem?_eq_some_iff.1 hlA1).1;refine⟨_,run_beginRound hlA1 (by rw[←hrec];rfl),?_⟩;have hb:=hbody _ (zaH (w:=A1) (r:=w.heap.size+1) (o:= .loop {rec .ready .none with state:= .busy}) hl2);refine wpIn_mono hb ?_;have hlA2:(A1.putObj (w.heap.size+1) (.loop {rec .ready .none with state:= .busy})).heap[w.heap.size+1]? =some (.loop {rec .ready .none with state:= .busy}):=World.putObj_heap_same hlt1;have hkA2:(A1.putObj (w.heap.size+1) (.loop {rec .ready .none with state:= .busy})).heap[w.heap.size]? =some (.deferred (some [])):=(World.putObj_heap_other (by omega)).trans hkA1;have fin:∀(jump:Option Code) (B:World),KeepB (w.heap.size+2+own) C (A1.putObj (w.heap.size+1) (.loop {rec .ready .none with state:= .busy})) B->
      (Instr.endRound (w.heap.size+1) jump).run P B= .ok (.bool jump.isNone) (B.putObj (w.heap.size+1) (.loop (rec (if jump.isNone then .ready else .done) jump)))/\
      w.heap.size+2<=(B.putObj (w.heap.size+1) (.loop (rec (if jump.isNone then .ready else .done) jump))).heap.size/\
      (B.putObj (w.heap.size+1) (.loop (rec (if jump.isNone then .ready else .done) jump))).heap[w.heap.size+1]? =some (.loop (rec (if jump.isNone then .ready else .done) jump))/\
      (B.putObj (w.heap.size+1) (.loop (rec (if jump.isNone then .ready else .done) jump))).heap[w.heap.size]? =some (.deferred (some []))/\
      KeepB n0 C A (B.putObj (w.heap.size+1) (.loop (rec (if jump.isNone then .ready else .done) jump)))/\
      ∀b,span W1.heap.size own b->(B.putObj (w.heap.size+1) (.loop (rec (if jump.isNone then .ready else .done) jump))).heap[b]? =A.heap[b]?:=by
     intro jump B hB;have hlB:=(hB.block _ (by omega) (hCl _ hl2)).trans hlA2;have hkB:=(hB.block _ (by omega) (hCl _ (.inl rfl))).trans hkA2;have hltB:w.heap.size+1<B.heap.size:=(Array.getElem?_eq_some_iff.1 hlB).1;refine⟨?_,by simp;omega,World.putObj_heap_same hltB,(World.putObj_heap_other (by omega)).trans hkB,?_,?_⟩
     ·have:=run_endRound (P:=P) jump hlB;rw[←hrec]at this ⊢;exact this
     ·refine(hA1.mono (by omega) (fun _ _ h=>h)).trans (KeepB.trans ?_ ((hB.mono (by omega) (fun _ _ h=>h)).trans ?_))
      ·exact(zaH (S:=two w.heap.size) hl2).toB (by omega) (fun i hi hs=>by rcases hs with rfl|rfl<;>omega)
      ·exact(zaH (S:=two w.heap.size) hl2).toB (by omega) (fun i hi hs=>by rcases hs with rfl|rfl<;>omega)
     ·intro b hb;unfold span at hb;have hCb:¬C b:=fun h=>by have:=hCn b h;omega
      exact(World.putObj_heap_other (by omega)).trans ((hB.block b (by omega) hCb).trans ((World.putObj_heap_other (by omega)).trans (hA1.block b (by omega) hCb)))
    rintro e a B ⟨σ2,ds2,rfl,hq⟩;cases e with
    |normal=>
     obtain⟨hi',hB⟩:=hq;obtain⟨h1,h2,h3,h4,h5,h6⟩:=fin .none B hB;exact⟨_,_,h1,_,rfl,.inl ⟨rfl,⟨hI _ _ _ hi' (zaH hl2'),h2,h3.trans (by rw[←hrec];rfl),h4⟩,h5,h6⟩⟩
    |ret=>
     obtain⟨hi',hB⟩:=hq;obtain⟨h1,h2,h3,h4,h5,_⟩:=fin (some .ret) B hB;exact⟨_,_,h1,_,rfl,.inr ⟨rfl,_,hIx _ _ _ _ hi' (zaH hl2'),h2,h3.trans (by rw[←hrec];rfl),h4⟩⟩
    |exit id=>
     obtain⟨hi',hB⟩:=hq;obtain⟨h1,h2,h3,h4,h5,_⟩:=fin (some (.exit id)) B hB;exact⟨_,_,h1,_,rfl,.inr ⟨rfl,_,hIx _ _ _ _ hi' (zaH hl2'),h2,h3.trans (by rw[←hrec];rfl),h4⟩⟩
    |goto t=>
     obtain⟨hi',hB⟩:=hq;obtain⟨h1,h2,h3,h4,h5,_⟩:=fin (some (.goto t)) B hB;exact⟨_,_,h1,_,rfl,.inr ⟨rfl,_,hIx _ _ _ _ hi' (zaH hl2'),h2,h3.trans (by rw[←hrec];rfl),h4⟩⟩
    |panic c=>exact hq.elim
    |outgrown=>exact hq.elim
   |ret=>exact hq.elim
   |exit id=>exact hq.elim
   |goto t=>exact hq.elim
   |panic c=>exact hq.elim
   |outgrown=>exact hq.elim
  ·rintro e B ⟨v,rfl,h⟩;rcases h with ⟨xs,hfull,hi,hs,hl,hk⟩| ⟨pre,x,hxs,c,hi,hs,hl,hk⟩
   ·have hend:=run_endLoop (P:=P) hl (by rw[←hrec];simp[zeX]);have hp:(rec LoopState.ready .none).pending= .none:=by rw[←hrec];rfl
    rw[hp]at hend;refine⟨.none,_,hend,?_⟩;exact⟨σ,_,rfl,hdone xs _ hfull (by simp;omega) (hI _ _ _ hi (zaH hl2')) ((World.putObj_heap_other (by omega)).trans hk)⟩
   ·have hend:=run_endLoop (P:=P) hl (by rw[←hrec];simp[zeX]);have hp:(rec LoopState.done (some c)).pending=some c:=by rw[←hrec];rfl
    rw[hp]at hend;refine⟨some c,_,hend,?_⟩;exact hstop c pre x _ (by simp;omega) hxs (hIx _ _ _ _ hi (zaH hl2')) ((World.putObj_heap_other (by omega)).trans hk)
theorem zdW{α:Type}{P:Program}{n:Nat}{f:Operand}{ps:Array Tmp}{assign body:Code}{Q:Post}{σ:Sto}{ds:List Deferred}{w:World}
  {g:FuncId} {cap:Array Value} {W0:World} {n0:Nat} {C:Nat->Prop} {xs:List α} {enc:α->World->Array Value->Prop}
  (hf:ev n σ f= .func (.func g) #[] cap) (hc:zar P g=true) (hit:Iter P g cap W0 n0 C xs enc) (hW0:Ext W0 w) (hn0:n0<=w.heap.size) (hCn:∀b,C b->b<w.heap.size)
  (henc:∀x A args,enc x A args->args.size=ps.size)
  (I:List α->World->Prop) (Ix:Code->List α->World->Prop)
  (hI:∀pre A B,I pre A->Keep (two w.heap.size) A B->I pre B)
  (hIx:∀c pre A B,Ix c pre A->Keep (two w.heap.size) A B->Ix c pre B)
  (h0:I [] w)
  (hround:∀(l:Nat) (pre:List α) (x:α) (suf:List α) (A:World) (args:Array Value),xs=pre++x::suf->w.heap.size+2<=A.heap.size->I pre A->enc x A args->
   W P (some l) n assign (zdH (fun σ1 ds1 A1=>ds1=[]/\KeepB (w.heap.size+2) C A A1/\∀A2,Keep (two w.heap.size) A1 A2->W P (some l) n body (zk2 I Ix (w.heap.size+2) C (pre++ [x]) A2) σ1 [] A2) (fun _ _ _ _=>False))
    (zdP σ (ps.zip args).toList) [] A)
  (hdone:∀w',w.heap.size+2<=w'.heap.size->I xs w'->w'.heap[w.heap.size]? =some (.deferred (some []))->Q .normal σ ({target:= .collected w.heap.size,args:=#[]}::ds) w')
  (hstop:∀c pre x suf w',w.heap.size+2<=w'.heap.size->xs=pre++x::suf->Ix c (pre++ [x]) w'->w'.heap[w.heap.size]? =some (.deferred (some []))->
   W P .none n c Q σ ({target:= .collected w.heap.size,args:=#[]}::ds) w'):
  W P .none n (.rangeFunc f ps assign body) Q σ ds w:= 
 W_rangeG hf hc hit.toG hW0 hn0 hCn henc I Ix (fun pre A B hi hk=>hI pre A B hi (hk.mono (fun b _ h=>by unfold span at h;unfold two;omega))) (fun c pre A B hi hk=>hIx c pre A B hi (hk.mono (fun b _ h=>by unfold span at h;unfold two;omega))) h0 (fun l pre x A args ⟨suf,e⟩=>hround l pre x suf A args e) (fun ys w' e=>by subst e;exact hdone w')
  (fun c pre x w' hs ⟨suf,e⟩=>hstop c pre x suf w' hs e)
theorem zd6{P:Program}{fn:Func}{R:Value->World->Prop}{e:Exit}{σ:Sto}{w:World}(he:e= .normal\/e= .ret){t:Tmp}{m D:Nat}{v:Value}(hl:fn.results.toList=[.tmp t])(hm:fn.ntmps=m)
  (hv:ev m σ (.tmp t)=v) (hD:w.heap[D]? =some (.deferred (some []))) (h:∀w',Keep (fun b=>b=D) w w'->w'.heap.size=w.heap.size->R v w'):
  retQ P fn R e σ [{target:= .collected D,args:=#[]}] w:=by
 refine⟨he,⟨D,rfl,hD,trivial⟩,[v],?_,h _ (zaH rfl) (by simp[shut])⟩;rw[hl,hm,←hv];rfl
theorem zk5{P:Program}{fn:Func}{R:Value->World->Prop}{e:Exit}{σ:Sto}{w:World}(he:e= .normal\/e= .ret){t t':Tmp}{m D:Nat}{v v':Value}(hl:fn.results.toList=[.tmp t,.tmp t'])(hm:fn.ntmps=m)
  (hv:ev m σ (.tmp t)=v) (hv':ev m σ (.tmp t')=v') (hD:w.heap[D]? =some (.deferred (some []))) (h:∀w',Keep (fun b=>b=D) w w'->w'.heap.size=w.heap.size->R (.tuple #[v,v']) w'):
  retQ P fn R e σ [{target:= .collected D,args:=#[]}] w:=by
 refine⟨he,⟨D,rfl,hD,trivial⟩,[v,v'],?_,h _ (zaH rfl) (by simp[shut])⟩;rw[hl,hm,←hv,←hv'];rfl
theorem zfV{α:Type}:∀(a:Ask α) (w:World),w.drawn<=(w.ask a).2.drawn
 | .done _,w=>Nat.le_refl _
 | .ask what range k,w=>by
  unfold World.ask
  dsimp only
  split
  ·exact zfV _ _
  ·exact Nat.le_trans (Nat.le_succ _) (zfV (k _) {w with drawn:=w.drawn+1})
theorem zkH(w:World)(c:Sys):w.drawn<=(w.sys c).2.drawn:=by
 have h:=zfV (Kernel.perform c w.os) w
 unfold World.sys
 split
 ·exact Nat.le_refl _
 ·rename_i heq;rw[heq]at h;exact h
theorem zfg{p:Program}{w w':World}{at_:Addr}{u:TypeId}{k:Addr}{v:Value}{b:Bool}{l:List Addr}(h:w.viewStore p at_ u k v b= .ok (w',l)):w'.drawn=w.drawn:=by
 unfold World.viewStore at h
 simp only[bind,Except.bind,pure,Except.pure,throw,throwThe,MonadExceptOf.throw]at h
 repeat' split at h
 all_goals first
  | (cases h;done)
  | (cases h;rfl)
theorem zf7{p:Program}{w w':World}{a:Addr}{v:Value}{b:Bool}{l:List Addr}(h:w.farStore p a v b= .ok (w',l)):w'.drawn=w.drawn:=by
 unfold World.farStore at h
 split at h
 ·split at h
  ·rename_i r hr
   cases h
   exact zfg hr
  ·cases h
 ·cases h
theorem zaX{α:Type}{P:Program}:∀(s:Sem α) (w:World) (v:α) (w':World),s.run P w= .ok v w'->w.drawn<=w'.drawn
 | .pure a,w,v,w',h=>by simp only[Sem.run]at h;cases h;exact Nat.le_refl _
 | .load m a k,w,v,w',h=>by
  simp only[Sem.run]at h
  split at h
  ·exact zaX _ _ _ _ h
  ·split at h
   ·exact zaX _ _ _ _ h
   ·cases h
 | .store m a x k,w,v,w',h=>by
  have hgo:(match w.cell? a with
   |some _=>if w.frozen? a then Result.halt (.unsupported (.unsafePointer "a write to bytes that a string shares")) w else k.run P (w.setCell a x)
   |Option.none=>match w.farStore P a x (m== .atomic) with
    | .ok (w,_)=>k.run P w
    | .error h=> .halt h w)=Result.ok v w'->w.drawn<=w'.drawn:=fun h=>by
   split at h
   ·split at h
    ·cases h
    ·have:=zaX k _ _ _ h;exact this
   ·split at h
    ·rename_i hf
     have:=zf7 hf
     have h2:=zaX k _ _ _ h
     omega
    ·cases h
  cases x<;>first| (simp only[Sem.run]at h;cases h;done)| (simp only[Sem.run]at h;exact hgo h)
 | .new o k,w,v,w',h=>by simp only[Sem.run]at h;exact zaX (k _) {w with heap:=w.heap.push o} _ _ h
 | .shape r k,w,v,w',h=>by simp only[Sem.run]at h;exact zaX _ _ _ _ h
 | .freeze a n k,w,v,w',h=>by
  simp only[Sem.run]at h
  have:=zaX k _ _ _ h
  have e:(w.freeze a n).drawn=w.drawn:=by unfold World.freeze;split<;>rfl
  rwa [e]at this
 | .frozen a k,w,v,w',h=>by simp only[Sem.run]at h;exact zaX _ _ _ _ h
 | .getObj r k,w,v,w',h=>by
  simp only[Sem.run]at h
  split at h
  ·cases h
  ·exact zaX _ _ _ _ h
  ·cases h
 | .setObj r o k,w,v,w',h=>by
  simp only[Sem.run]at h
  split at h
  ·cases h
  ·exact zaX k {w with heap:=w.heap.setIfInBounds r o} _ _ h
  ·cases h
 | .choose q k,w,v,w',h=>by
  simp only[Sem.run]at h
  split at h
  ·exact zaX _ _ _ _ h
  ·exact Nat.le_trans (Nat.le_succ _) (zaX (k _) {w with drawn:=w.drawn+1} _ _ h)
 | .sys c k,w,v,w',h=>by
  simp only[Sem.run]at h
  exact Nat.le_trans (zkH w c) (zaX _ _ _ _ h)
 | .program k,w,v,w',h=>by simp only[Sem.run]at h;exact zaX _ _ _ _ h
 | .mark m k,w,v,w',h=>by simp only[Sem.run]at h;exact zaX k _ _ _ h
 | .halt h0,w,v,w',h=>by simp only[Sem.run]at h;cases h
def zaf(c:UInt8):Value:= .int .u8 c.toNat
section
variable {P : Program} {d : Option Tmp} {ty : TypeId} {ps : String} {af : Array Edge} {g : Option (Nat × Bool)} {ρ : Operand -> Value} {w : World} {K : Value -> World -> Prop}
theorem zgj{w w':World}{row:Option Nat}(h:w.grownBy w' row)(hd:w.drawn<=w'.drawn):Keep (fun b=>some b=row) w w':=⟨h.os,h.tape,h.output,h.size,h.block,hd⟩
theorem zbN{b:Nat}{cur:Array Value}{e:TypeId}{fr:Nat×Nat}(h:w.heap[b]? =some (.cells cur e fr))(j:Nat):w.cell? ⟨b,j,.none⟩=cur[j]?:=by
 simp[World.cell?,h]
theorem zhJ{b:Nat}{cur:Array Value}{e:TypeId}{fr:Nat×Nat}(h:w.heap[b]? =some (.cells cur e fr))(j:Nat):w.frozen? ⟨b,j,.none⟩=(decide (fr.1<=j) && decide (j<fr.2)):=by
 obtain⟨lo,hi⟩:=fr;simp[World.frozen?,h]
theorem zi9(w:World)(b j:Nat)(v:Value):Keep (fun i=>i=b) w (w.setCell ⟨b,j,.none⟩ v):=
 ⟨rfl,rfl,rfl,by simp,fun i _ hne=>RowKit.Below.heap_setCell w _ v i hne,ynl _⟩
theorem zho{b j:Nat}{v:Value}{cur:Array Value}{e:TypeId}{fr:Nat×Nat}(h:w.heap[b]? =some (.cells cur e fr)):
  (w.setCell ⟨b,j,.none⟩ v).heap[b]? =some (.cells (cur.setIfInBounds j v) e fr):=by
 simp[World.setCell,Array.getElem?_modify,h]
theorem zda{t:TypeId}{b j:Nat}{v:Value}{cur:Array Value}{e:TypeId}{fr:Nat×Nat}(hs:tyS P t=1)(hi:(P.info? t).isSome=true)(hv:one v=true)
  (hb:w.heap[b]? =some (.cells cur e fr)) (hj:j<cur.size) (hf:fr.2<=j\/j<fr.1)
  (h:∀w',w'.heap.size=w.heap.size->w'.heap[b]? =some (.cells (cur.setIfInBounds j v) e fr)->Keep (fun i=>i=b) w w'->K undef w'):
  stK P t (.pointer (some ⟨b,j,.none⟩)) v w K:=by
 have hc:v.cells=#[v]:=by cases v<;>first|rfl| (simp[one]at hv)
 refine⟨by rw[hc,hs];rfl,hi,w.setCell ⟨b,j,.none⟩ v,?_,h _ (by simp) (zho hb) (zi9 w b j v)⟩;rw[hc];have h1:(w.cell? ⟨b,j,.none⟩).isSome=true:=by rw[zbN hb];simp[hj]
 have h2:w.frozen? ⟨b,j,.none⟩=false:=by
  rw[zhJ hb];rcases hf with hf|hf
  ·simp;omega
  ·simp;omega
 simp[stC,zfb,hv,h1,h2]
theorem zau(w:World)(o:Obj):(w.alloc o).heap[w.heap.size]? =some o:=World.alloc_heap_new w o
theorem zai(w:World)(o:Obj):(w.alloc o).heap.size=w.heap.size+1:=by simp
theorem zjy{s t e:TypeId}{x:Operand}{l:List UInt8}(hs:tyU P s=some .string)(hd:tyU P t=some (.slice e))(he:tyU P e=some (.int .u8))(hx:ρ x=vs l)
  (h:∀(c:Nat) (cur:Array Value) (w':World),l.length<=c->cur.size=c->cur.toList.take l.length=l.map zaf->Ext w w'->w'.heap.size=w.heap.size+1->
   w'.heap[w.heap.size]? =some (.cells cur e (c,c+1))->K (.slice (some ⟨w.heap.size,0,.none⟩) l.length c) w'):
  optK (cvD (some .string) (some (.slice e)) (vs l)) w K (opW P ⟨d,.convert s t x,ty,ps,af,g⟩ ρ w K):=by
 have hrun:=run_bytes_of_string (P:=P) w s t e ⟨l.toArray⟩ hs hd he;have hsz:(⟨l.toArray⟩:ByteArray).size=l.length:=rfl;rw[hsz]at hrun;have hge:=grownCap_ge w l.length 0 e;generalize grownCap w l.length 0 e=c at hrun hge;have hbs:(bytesRow ⟨l.toArray⟩ c).size=c:=by simp[bytesRow,hsz];omega
 rw[hbs]at hrun;show opR P K ((do pure (.value (←convert s t (ρ x))):Sem Next).run P w);rw[hx];refine zaO hrun (h c _ _ hge hbs ?_ (Ext.drew_alloc w _) (by simp) (World.alloc_heap_new w.drew _));unfold bytesRow;simp only[Array.toList_append,Array.toList_map];rw[List.take_append_of_le_length (by simp),List.take_of_length_le (by simp)]
 rfl
theorem zbh{s t e:TypeId}{x:Operand}{a:Option Addr}{c:Nat}{l:List UInt8}(hs:tyU P s=some (.slice e))(hd:tyU P t=some .string)(he:tyU P e=some (.int .u8))
  (hx:ρ x= .slice a l.length c) (hl:∀j (hj:j<l.length),zad w (adr a j)=some (zaf l[j])) (h:K (vs l) w):
  optK (cvD (some (.slice e)) (some .string) (.slice a l.length c)) w K (opW P ⟨d,.convert s t x,ty,ps,af,g⟩ ρ w K):=by
 show opR P K ((do pure (.value (←convert s t (ρ x))):Sem Next).run P w);rw[hx];cases a with
 |none=>
  cases l with
  |nil=>
   refine zaO (v:=vs []) (w':=w) ?_ h;simp[convert,underlying,program,Sem.run,show P.underlying s=_ from hs,show P.underlying t=_ from hd,show P.underlying e=_ from he,Conv.bytesToString]
   rfl
  |cons c l=>have:=hl 0 (by simp);simp[zad,adr]at this
 |some a=>
  have:=run_convert_bytes_back (P:=P) w s t e a c l hs he hd (fun j hj=>by
   have:=hl j hj;simpa [zad,adr,zaf] using this)
  exact zaO this h
def Src1(w:World)(u:Value)(m:Nat)(size:Nat)(news:List Value):Prop:=
 ∃a c,u= .slice a m c/\news.length=m*size/\∀j (h:j<news.length),zad w (adr a j)=some news[j]
theorem Src1.of_row{u:Value}{l:List Value}(h:Row w u l):Src1 w u l.length 1 l:=by
 obtain⟨a,c,rfl,_,hl⟩:=h;exact⟨a,c,rfl,by simp,hl⟩
theorem zdb{b:Builtin}{s x:Operand}{ts:Array TypeId}{r:Result Value}
  (h:∀v w',(Builtin.append_ ts ty #[ρ s,ρ x]).run P w= .ok v w'->K v w') (hr:∃v w',(Builtin.append_ ts ty #[ρ s,ρ x]).run P w= .ok v w'):
  opW P ⟨d,.call ⟨.builtin .append,#[s,x],ts⟩,ty,ps,af,g⟩ ρ w K:=by
 obtain⟨v,w',hv⟩:=hr;simp only[opW,execOp,Sem.run_bind,resolve];simp only[Sem.run_pure,Result.andThen_ok,invoke,builtin];exact zaO (s:=Builtin.append_ ts ty (Array.map ρ #[s,x])) (by simpa using hv) (h v w' hv)
theorem zd9{B:Nat}{s x:Operand}{t e:TypeId}{inf:TypeInfo}{z:Value}{size bytes:Nat}(ht:tyU P t=some (.slice e))(hi:P.info? e=some inf)(hz:inf.zero=some z)
  (hsize:inf.size=size) (hby:inf.bytes=bytes) (hzs:z.cells.size=size) (hsz:0<size) {v u:Value} (hv:ρ s=v) (hu:ρ x=u) {n m:Nat} {xs news:List Value}
  (hown:w.ownsRow B e size v n xs) (hsrc:Src1 w u m size news) (h1:∀q∈news,one q=true) (h63:n+m<=maxLen) (hbytes:(n+m)*bytes<=140737488355328) (hB:B<=w.heap.size)
  (h:∀v' w',w'.ownsRow B e size v' (n+m) (xs++news)->Keep (fun b=>some b=v.ownBlock) w w'->((v'= .slice .none 0 0↔v= .slice .none 0 0/\m=0)/\∀b,some b=v'.ownBlock->some b=v.ownBlock\/w.heap.size<=b)->K v' w'):
  opW P ⟨d,.call ⟨.builtin .append,#[s,x],#[t,t]⟩,ty,ps,af,g⟩ ρ w K:=by
 obtain⟨a,c,rfl,hl,hc⟩:=hsrc;have h1':∀q∈news,q.oneCell'=true:=fun q hq=>by
  have:=h1 q hq;cases q<;>first|rfl| (simp[one]at this)
 have key:∃v' w',(Builtin.append_ #[t,t] ty #[v,.slice a m c]).run P w= .ok v' w'/\w'.ownsRow B e size v' (n+m) (xs++news)/\w.grownBy w' v.ownBlock/\
   (v'= .slice .none 0 0↔v= .slice .none 0 0/\m=0):=by
  cases a with
  |some a=>
   exact run_append_own (P:=P) w B t ty e inf z size bytes ht hi hz hsize hby hzs hsz v n xs hown a m c news hl (fun j q hj=>by
    obtain⟨hlt,rfl⟩:=List.getElem?_eq_some_iff.1 hj;have:=hc j hlt;simpa [zad,adr] using this) h1' h63 hbytes hB
  |none=>
   have hn0:news=[]:=by
    cases news with
    |nil=>rfl
    |cons q r=>have:=hc 0 (by simp);simp[zad,adr]at this
   subst hn0;have hm0:m=0:=by
    rcases Nat.mul_eq_zero.1 hl.symm with h|h
    ·exact h
    ·omega
   subst hm0;refine⟨v,w,?_,by simpa using hown,⟨rfl,rfl,rfl,ynl _,fun _ _ _=>rfl⟩,by simp⟩;have hs':inf.size=size:=hsize;rcases hown.2 with ⟨rfl,rfl⟩| ⟨g,cap,cur,rfl,_,_,hnc,_⟩
   ·simp[Builtin.append_,underlying,program,Sem.run,show P.underlying t=_ from ht,sizeOf,typeInfo,hi,Builtin.lenOf,Builtin.firstCells]
   ·simp[Builtin.append_,underlying,program,Sem.run,show P.underlying t=_ from ht,sizeOf,typeInfo,hi,Builtin.lenOf,Builtin.firstCells,hnc,storeCells]
 obtain⟨v',w',hr,h2,h3,h4⟩:=key;refine zdb (b:= .append) (r:= .ok v' w') (fun v1 w1 hr1=>?_) ⟨v',w',by rw[hv,hu];exact hr⟩;rw[hv,hu,hr]at hr1;cases hr1;refine h v' w' h2 (zgj h3 (zaX _ _ _ _ hr)) ⟨h4,fun b hb=>?_⟩;cases a with
 |none=>
  have:v'=v:=by
   have hn0:news=[]:=by
    cases news with
    |nil=>rfl
    |cons q r=>have:=hc 0 (by simp);simp[zad,adr]at this
   subst hn0;have hm0:m=0:=by
    rcases Nat.mul_eq_zero.1 hl.symm with h|h
    ·exact h
    ·omega
   subst hm0;have hx:=hown.2;rcases hown.2 with ⟨rfl,rfl⟩| ⟨g,cap,cur,rfl,_,_,hnc,_⟩
   ·simp[Builtin.append_,underlying,program,Sem.run,show P.underlying t=_ from ht,sizeOf,typeInfo,hi,Builtin.lenOf,Builtin.firstCells]at hr;exact hr.1.symm
   ·simp[Builtin.append_,underlying,program,Sem.run,show P.underlying t=_ from ht,sizeOf,typeInfo,hi,Builtin.lenOf,Builtin.firstCells,hnc,storeCells]at hr;exact hr.1.symm
  exact .inl (this▸hb)
 |some a=>
  have hnews:∀j u,news[j]? =some u->w.cell? (a.add j)=some u:=fun j q hj=>by
   obtain⟨hlt,rfl⟩:=List.getElem?_eq_some_iff.1 hj;have:=hc j hlt;simpa [zad,adr] using this
  rcases hown.2 with ⟨rfl,rfl⟩| ⟨g,cap,cur,rfl,hbg,hg,hnc,hcm,hcs,htake⟩
  ·obtain⟨v2,w2,k1,k2,_⟩:=run_append_own (P:=P) w w.heap.size t ty e inf z size bytes ht hi hz hsize hby hzs hsz _ 0 xs (⟨hown.1,.inl ⟨rfl,rfl⟩⟩) a m c news hl hnews h1' h63 hbytes (ynl _);rw[k1]at hr;cases hr;rcases k2.2 with ⟨rfl,_⟩| ⟨g,cap,cur,rfl,hg,_⟩
   ·cases hb
   ·cases hb;exact .inr hg
  ·by_cases hroom:n+m<=cap
   ·obtain⟨w2,k1,_⟩:=run_append_fits (P:=P) w B t ty e inf size ht hi hsize g n cap xs hown a m c news hl hnews h1' hroom;rw[k1]at hr;cases hr;exact .inl hb
   ·have holds:∀j u,xs[j]? =some u->w.cell? ((⟨g,0,.none⟩:Addr).add j)=some u:=hown.cells (g:=g) rfl;subst hsize hby;have k1:=run_append_grow (P:=P) w t ty e inf z ht hi hz ⟨g,0,.none⟩ n cap xs hown.1 holds a m c news hl hnews (by omega) (by simp only[maxLen]at h63;omega) (growslice_fits (by omega) hbytes);rw[k1]at hr;cases hr;cases hb;exact .inr (ynl _)
end
section
variable {P : Program} {d : Option Tmp} {ty : TypeId} {ps : String} {af : Array Edge} {g : Option (Nat × Bool)} {ρ : Operand -> Value} {w : World} {K : Value -> World -> Prop}
theorem Row.of_owns{B:Nat}{e:TypeId}{v:Value}{n:Nat}{xs:List Value}(h:w.ownsRow B e 1 v n xs):Row w v xs:=by
 obtain⟨hl,h⟩:=h;rw[Nat.mul_one]at hl;rcases h with ⟨rfl,rfl⟩| ⟨g,cap,cur,rfl,_,hg,hn,_,hcs,hx⟩
 ·have:xs=[]:=List.length_eq_zero_iff.1 hl;subst this;exact⟨.none,0,rfl,ynl _,fun j h=>by simp at h⟩
 ·refine⟨_,_,by rw[hl],by omega,fun j hj=>?_⟩;rw[za6];show w.cell? _=_;rw[zbN hg,←Array.getElem?_toList,yn0];have:xs[j]? =some xs[j]:=List.getElem?_eq_getElem hj;rw[←this,←hx,List.getElem?_take,if_pos (by omega)]
def RowB(base:Nat)(w:World)(v:Value)(l:List Value):Prop:=Row w v l/\∀a n c,v= .slice (some a) n c->base<=a.block/\a.block<w.heap.size
theorem RowB.of_owns{B:Nat}{e:TypeId}{v:Value}{n:Nat}{xs:List Value}(h:w.ownsRow B e 1 v n xs):RowB B w v xs:=by
 refine⟨Row.of_owns h,fun a m c hv=>?_⟩;rcases h.2 with ⟨h1,_⟩| ⟨g,cap,cur,h1,hg,hb,_⟩
 ·rw[h1]at hv;cases hv
 ·rw[h1]at hv;cases hv;exact⟨hg,(Array.getElem?_eq_some_iff.1 hb).1⟩
theorem Row.blocks{x:World}{v:Value}{l:List Value}(h:Row w v l)(hb:∀a n c,v= .slice (some a) n c->x.heap[a.block]? =w.heap[a.block]?):Row x v l:=by
 obtain⟨a,c,rfl,hc,hl⟩:=h;refine⟨a,c,rfl,hc,fun j hj=>?_⟩;cases a with
 |none=>exact hl j hj
 |some a=>
  have:=hb a _ _ rfl;have h2:=hl j hj;show x.cell? (a.add j)=_;have hbl:(a.add j).block=a.block:=by unfold Addr.add;split<;>rfl
  rw[World.cell?_of_block (w:=w) (by rw[hbl];exact this)];exact h2
theorem set1{A:Array Value}(h:A.size=1)(v:Value):A.setIfInBounds 0 v=#[v]:=by
 obtain⟨l⟩:=A
 match l,h with
 | [x],_=>rfl
theorem ziN{t e:TypeId}{z v:Value}(hu:tyU P t=some (.slice e))(hz:tyZ P e=some z)(hs:tyS P e=1)(hz1:z.cells=#[z])(hv:v.cells=#[v]):
  bsC P t 1 [(0,v)]=some (e,#[v]):=by
 simp[bsC,hu,hz,hs,hz1,Instr.fill,hv];exact set1 (by simp) v
end
def Own(B:Nat)(w:World)(e:TypeId)(v:Value)(l:List Value):Prop:=w.ownsRow B e 1 v l.length l
section
variable {P : Program} {d : Option Tmp} {ty : TypeId} {ps : String} {af : Array Edge} {g : Option (Nat × Bool)} {ρ : Operand -> Value} {w : World} {K : Value -> World -> Prop}
theorem Own.slice{B:Nat}{e:TypeId}{v:Value}{l:List Value}(h:Own B w e v l):∃a c,v= .slice a l.length c:=by
 rcases h.2 with ⟨rfl,h0⟩| ⟨g,cap,cur,rfl,_⟩
 ·exact⟨_,_,by rw[h0]⟩
 ·exact⟨_,_,rfl⟩
theorem Own.row{B:Nat}{e:TypeId}{v:Value}{l:List Value}(h:Own B w e v l):Row w v l:=Row.of_owns h
theorem Own.rowB{B:Nat}{e:TypeId}{v:Value}{l:List Value}(h:Own B w e v l):RowB B w v l:=RowB.of_owns h
theorem Own.nil(B:Nat)(w:World)(e:TypeId):Own B w e (.slice .none 0 0) []:=⟨rfl,.inl ⟨rfl,rfl⟩⟩
theorem Own.ge{B:Nat}{e:TypeId}{v:Value}{l:List Value}(h:Own B w e v l){b:Nat}(hb:some b=v.ownBlock):B<=b/\b<w.heap.size:=by
 rcases h.2 with ⟨rfl,_⟩| ⟨g,cap,cur,rfl,hg,hc,_⟩
 ·cases hb
 ·cases hb;exact⟨hg,(Array.getElem?_eq_some_iff.1 hc).1⟩
theorem Own.keep{B:Nat}{e:TypeId}{v:Value}{l:List Value}{x:World}{S:Nat->Prop}(h:Own B w e v l)(hk:Keep S w x)(hS:∀b,some b=v.ownBlock->¬S b):Own B x e v l:=by
 obtain⟨h1,h2⟩:=h;refine⟨h1,?_⟩;rcases h2 with h2| ⟨g,cap,cur,hv,hb,hg,rest⟩
 ·exact .inl h2
 ·exact .inr ⟨g,cap,cur,hv,hb,(hk.block _ (Array.getElem?_eq_some_iff.1 hg).1 (hS _ (by rw[hv];rfl))).trans hg,rest⟩
theorem Own.ext{B:Nat}{e:TypeId}{v:Value}{l:List Value}{x:World}(h:Own B w e v l)(hk:Ext w x):Own B x e v l:=h.keep hk (fun _ _ h=>h)
theorem Own.mono{B B':Nat}{e:TypeId}{v:Value}{l:List Value}(h:Own B w e v l)(hB:B'<=B):Own B' w e v l:=by
 obtain⟨h1,h2⟩:=h;refine⟨h1,?_⟩;rcases h2 with h2| ⟨g,cap,cur,hv,hb,rest⟩
 ·exact .inl h2
 ·exact .inr ⟨g,cap,cur,hv,by omega,rest⟩
theorem zdk{t e:TypeId}{z v:Value}(hu:tyU P t=some (.slice e))(hz:tyZ P e=some z)(hs:tyS P e=1)(hz1:z.cells=#[z])(hv:v.cells=#[v])
  (h:∀w1,Ext w w1->w1.heap.size=w.heap.size+1->Own w.heap.size w1 e (.slice (some ⟨w.heap.size,0,.none⟩) 1 1) [v]->K (.slice (some ⟨w.heap.size,0,.none⟩) 1 1) w1):bsL P t 1 [(0,v)] w K .mk:=by
 unfold bsL bsK;rw[ziN hu hz hs hz1 hv];exact h _ (Ext.alloc w _) (zai w _) ⟨rfl,.inr ⟨w.heap.size,1,#[v],rfl,ynl _,zau w _,ynl _,by decide,rfl,rfl⟩⟩
theorem set2{A:Array Value}(h:A.size=2)(u v:Value):(A.setIfInBounds 0 u).setIfInBounds 1 v=#[u,v]:=by
 obtain⟨l⟩:=A
 match l,h with
 | [x,y],_=>rfl
theorem bs_two{t e:TypeId}{z u v:Value}(hu:tyU P t=some (.slice e))(hz:tyZ P e=some z)(hs:tyS P e=1)(hz1:z.cells=#[z])(hu1:u.cells=#[u])(hv:v.cells=#[v])
  (h:∀w1,Ext w w1->w1.heap.size=w.heap.size+1->Own w.heap.size w1 e (.slice (some ⟨w.heap.size,0,.none⟩) 2 2) [u,v]->K (.slice (some ⟨w.heap.size,0,.none⟩) 2 2) w1):bsL P t 2 [(0,u),(1,v)] w K .mk:=by
 unfold bsL bsK;have:bsC P t 2 [(0,u),(1,v)]=some (e,#[u,v]):=by
  simp[bsC,hu,hz,hs,hz1,Instr.fill,hu1,hv];exact set2 (by simp) u v
 rw[this];exact h _ (Ext.alloc w _) (zai w _) ⟨rfl,.inr ⟨w.heap.size,2,#[u,v],rfl,ynl _,zau w _,ynl _,by decide,rfl,rfl⟩⟩
theorem zmd{t e:TypeId}{z:Value}(hu:tyU P t=some (.slice e))(hz:tyZ P e=some z)(hs:tyS P e=1)(hz1:z.cells=#[z])
  (h:∀w1,Ext w w1->w1.heap.size=w.heap.size+1->Own w.heap.size w1 e (.slice (some ⟨w.heap.size,0,.none⟩) 0 0) []->K (.slice (some ⟨w.heap.size,0,.none⟩) 0 0) w1):bsL P t 0 [] w K .mk:=by
 unfold bsL bsK;have:bsC P t 0 []=some (e,#[]):=by simp[bsC,hu,hz,hs,hz1,Instr.fill]
 rw[this];exact h _ (Ext.alloc w _) (zai w _) ⟨rfl,.inr ⟨w.heap.size,0,#[],rfl,ynl _,zau w _,ynl _,by decide,rfl,rfl⟩⟩
theorem zcv{B:Nat}{s x:Operand}{t e:TypeId}{inf:TypeInfo}{z:Value}{bytes:Nat}{v u:Value}{l news:List Value}(hown:Own B w e v l)(hrow:Row w u news)
  (ht:tyU P t=some (.slice e)) (hi:P.info? e=some inf) (hz:inf.zero=some z)
  (hsize:inf.size=1) (hby:inf.bytes=bytes) (hzs:z.cells.size=1) (hv:ρ s=v) (hu:ρ x=u) 
  (h1:∀q∈news,one q=true) (hlen:l.length+news.length<=1000000000000) (hbytes:bytes<=100) (hB:B<=w.heap.size)
  (h:∀v' w',Own B w' e v' (l++news)->(∀w0,Ext w0 w->w0.heap.size<=B->Ext w0 w')->Keep (fun b=>some b=v.ownBlock) w w'->(∀b,some b=v'.ownBlock->some b=v.ownBlock\/w.heap.size<=b)->K v' w'):
  opW P ⟨d,.call ⟨.builtin .append,#[s,x],#[t,t]⟩,ty,ps,af,g⟩ ρ w K:=by
 refine zd9 (B:=B) (m:=news.length) (xs:=l) (n:=l.length) ht hi hz hsize hby hzs (by decide) hv hu hown (Src1.of_row hrow) h1 (by simp[maxLen];omega) ?_ hB ?_
 ·have:(l.length+news.length)*bytes<=1000000000000*100:=Nat.mul_le_mul hlen hbytes;omega
 ·intro v' w' ho hk hw;refine h v' w' (by simpa [Own] using ho) (fun w0 hE hB0=>?_) hk hw.2;exact Keep.to_ext hE rfl (fun b hb=>by have:=(Own.ge (l:=l) hown hb).1;omega) hk
theorem v_min(a:Array Operand)(t:Array TypeId):opV P ⟨d,.call ⟨.builtin .min,a,t⟩,ty,ps,af,g⟩ ρ w K=opL P ⟨d,.call ⟨.builtin .min,a,t⟩,ty,ps,af,g⟩ ρ w K .mk:=nr rfl
theorem zlh{x y:Operand}{ts:Array TypeId}{k:IntKind}{a b:Int}(hx:ρ x= .int k a)(hy:ρ y= .int k b)(h:K (.int k (min a b)) w):opW P ⟨d,.call ⟨.builtin .min,#[x,y],ts⟩,ty,ps,af,g⟩ ρ w K:=by
 simp only[opW,execOp,Sem.run_bind,resolve];simp only[Sem.run_pure,Result.andThen_ok,invoke,builtin];refine zaO (s:=Builtin.min_ ts ty (Array.map ρ #[x,y])) (v:= .int k (min a b)) (w':=w) ?_ h;simp[Builtin.min_,hx,hy,Builtin.min2,Sem.run,List.foldlM];omega
end
attribute [go_sem] b_quo b_rem
attribute [go_sem ↓] v_min
set_option maxRecDepth 100000
theorem tyUs:(tyU Tryz.prog 3=some (.int (IntKind.i64)))/\
 (tyU Tryz.prog 4=some (.bool))/\
 (tyU Tryz.prog 5=some (.int (IntKind.u8)))/\
 (tyU Tryz.prog 9=some (.string))/\
 (tyU Tryz.prog 21=some (.int (IntKind.i32)))/\
 (tyU Tryz.prog 22=some (.slice 116))/\
 (tyU Tryz.prog 23=some (.slice 3))/\
 (tyU Tryz.prog 26=some (.slice 9))/\
 (tyU Tryz.prog 27=some (.slice 9))/\
 (tyU Tryz.prog 31=some (.slice 44))/\
 (tyU Tryz.prog 32=some (.int (IntKind.i64)))/\
 (tyU Tryz.prog 35=some (.slice 46))/\
 (tyU Tryz.prog 38=some (.slice 143))/\
 (tyU Tryz.prog 56=some (.int (IntKind.u16)))/\
 (tyU Tryz.prog 57=some (.slice 27))/\
 (tyU Tryz.prog 62=some (.slice 26))/\
 (tyU Tryz.prog 67=some (.slice 91))/\
 (tyU Tryz.prog 70=some (.slice 77))/\
 (tyU Tryz.prog 90=some (.slice 5))/\
 (tyU Tryz.prog 92=some (.slice 80))/\
 (tyU Tryz.prog 110=some (.slice 119))/\
 (tyU Tryz.prog 113=some (.array 4 5))/\
 (tyU Tryz.prog 114=some (.slice 122))/\
 (tyU Tryz.prog 117=some (.slice 131))/\
 (tyU Tryz.prog 120=some (.slice 201))/\
 (tyU Tryz.prog 125=some (.slice 210))/\
 (tyU Tryz.prog 135=some (.slice 217))/\
 (tyU Tryz.prog 141=some (.slice 128))/\
 (tyU Tryz.prog 147=some (.pointer 237))/\
 (tyU Tryz.prog 150=some (.slice 238))/\
 (tyU Tryz.prog 157=some (.pointer 161))/\
 (tyU Tryz.prog 158=some (.map 250 4))/\
 (tyU Tryz.prog 159=some (.slice 164))/\
 (tyU Tryz.prog 165=some (.map 3 91))/\
 (tyU Tryz.prog 167=some (.slice 172))/\
 (tyU Tryz.prog 168=some (.slice 84))/\
 (tyU Tryz.prog 181=some (.slice 197))/\
 (tyU Tryz.prog 182=some (.slice 382))/\
 (tyU Tryz.prog 195=some (.slice 199))/\
 (tyU Tryz.prog 199=some (.int (IntKind.u32)))/\
 (tyU Tryz.prog 202=some (.map 9 4))/\
 (tyU Tryz.prog 215=some (.slice 219))/\
 (tyU Tryz.prog 221=some (.slice 226))/\
 (tyU Tryz.prog 235=some (.pointer 303))/\
 (tyU Tryz.prog 238=some (.array 2 27))/\
 (tyU Tryz.prog 248=some (.array 4 3))/\
 (tyU Tryz.prog 252=some (.slice 208))/\
 (tyU Tryz.prog 253=some (.slice 312))/\
 (tyU Tryz.prog 262=some (.int (IntKind.u64)))/\
 (tyU Tryz.prog 276=some (.slice 279))/\
 (tyU Tryz.prog 280=some (.pointer 282))/\
 (tyU Tryz.prog 288=some (.array 10 9))/\
 (tyU Tryz.prog 291=some (.slice 21))/\
 (tyU Tryz.prog 301=some (.map 9 235))/\
 (tyU Tryz.prog 315=some (.int (IntKind.i64)))/\
 (tyU Tryz.prog 324=some (.int (IntKind.u64)))/\
 (tyU Tryz.prog 347=some (.pointer 5))/\
 (tyU Tryz.prog 368=some (.int (IntKind.u64)))/\
 (tyU Tryz.prog 372=some (.pointer 3))/\
 (tyU Tryz.prog 422=some (.slice 400)):=by
 refine⟨?_,?_,?_,?_,?_,?_,?_,?_,?_,?_,?_,?_,?_,?_,?_,?_,?_,?_,?_,?_,?_,?_,?_,?_,?_,?_,?_,?_,?_,?_,?_,?_,?_,?_,?_,?_,?_,?_,?_,?_,?_,?_,?_,?_,?_,?_,?_,?_,?_,?_,?_,?_,?_,?_,?_,?_,?_,?_,?_,?_⟩
 all_goals rfl
theorem tySs:(tyS Tryz.prog 3=1)/\
 (tyS Tryz.prog 4=1)/\
 (tyS Tryz.prog 5=1)/\
 (tyS Tryz.prog 9=1)/\
 (tyS Tryz.prog 21=1)/\
 (tyS Tryz.prog 22=1)/\
 (tyS Tryz.prog 23=1)/\
 (tyS Tryz.prog 25=4)/\
 (tyS Tryz.prog 26=1)/\
 (tyS Tryz.prog 27=1)/\
 (tyS Tryz.prog 30=1)/\
 (tyS Tryz.prog 31=1)/\
 (tyS Tryz.prog 32=1)/\
 (tyS Tryz.prog 35=1)/\
 (tyS Tryz.prog 38=1)/\
 (tyS Tryz.prog 40=4)/\
 (tyS Tryz.prog 44=2)/\
 (tyS Tryz.prog 46=2)/\
 (tyS Tryz.prog 56=1)/\
 (tyS Tryz.prog 57=1)/\
 (tyS Tryz.prog 62=1)/\
 (tyS Tryz.prog 67=1)/\
 (tyS Tryz.prog 70=1)/\
 (tyS Tryz.prog 77=2)/\
 (tyS Tryz.prog 80=6)/\
 (tyS Tryz.prog 84=6)/\
 (tyS Tryz.prog 90=1)/\
 (tyS Tryz.prog 91=2)/\
 (tyS Tryz.prog 92=1)/\
 (tyS Tryz.prog 98=4)/\
 (tyS Tryz.prog 110=1)/\
 (tyS Tryz.prog 112=4)/\
 (tyS Tryz.prog 113=4)/\
 (tyS Tryz.prog 114=1)/\
 (tyS Tryz.prog 116=6)/\
 (tyS Tryz.prog 117=1)/\
 (tyS Tryz.prog 119=6)/\
 (tyS Tryz.prog 120=1)/\
 (tyS Tryz.prog 122=2)/\
 (tyS Tryz.prog 125=1)/\
 (tyS Tryz.prog 128=2)/\
 (tyS Tryz.prog 131=2)/\
 (tyS Tryz.prog 135=1)/\
 (tyS Tryz.prog 137=4)/\
 (tyS Tryz.prog 141=1)/\
 (tyS Tryz.prog 143=6)/\
 (tyS Tryz.prog 147=1)/\
 (tyS Tryz.prog 150=1)/\
 (tyS Tryz.prog 155=1)/\
 (tyS Tryz.prog 157=1)/\
 (tyS Tryz.prog 158=1)/\
 (tyS Tryz.prog 159=1)/\
 (tyS Tryz.prog 161=2)/\
 (tyS Tryz.prog 164=7)/\
 (tyS Tryz.prog 165=1)/\
 (tyS Tryz.prog 167=1)/\
 (tyS Tryz.prog 168=1)/\
 (tyS Tryz.prog 172=7)/\
 (tyS Tryz.prog 181=1)/\
 (tyS Tryz.prog 182=1)/\
 (tyS Tryz.prog 184=5)/\
 (tyS Tryz.prog 194=1)/\
 (tyS Tryz.prog 195=1)/\
 (tyS Tryz.prog 197=5)/\
 (tyS Tryz.prog 199=1)/\
 (tyS Tryz.prog 201=7)/\
 (tyS Tryz.prog 202=1)/\
 (tyS Tryz.prog 204=1)/\
 (tyS Tryz.prog 208=5)/\
 (tyS Tryz.prog 210=7)/\
 (tyS Tryz.prog 215=1)/\
 (tyS Tryz.prog 217=6)/\
 (tyS Tryz.prog 219=2)/\
 (tyS Tryz.prog 221=1)/\
 (tyS Tryz.prog 226=2)/\
 (tyS Tryz.prog 235=1)/\
 (tyS Tryz.prog 237=2)/\
 (tyS Tryz.prog 238=2)/\
 (tyS Tryz.prog 242=1)/\
 (tyS Tryz.prog 243=1)/\
 (tyS Tryz.prog 248=4)/\
 (tyS Tryz.prog 250=6)/\
 (tyS Tryz.prog 252=1)/\
 (tyS Tryz.prog 253=1)/\
 (tyS Tryz.prog 255=5)/\
 (tyS Tryz.prog 262=1)/\
 (tyS Tryz.prog 276=1)/\
 (tyS Tryz.prog 279=2)/\
 (tyS Tryz.prog 280=1)/\
 (tyS Tryz.prog 282=2)/\
 (tyS Tryz.prog 288=10)/\
 (tyS Tryz.prog 291=1)/\
 (tyS Tryz.prog 301=1)/\
 (tyS Tryz.prog 303=3)/\
 (tyS Tryz.prog 305=1)/\
 (tyS Tryz.prog 306=1)/\
 (tyS Tryz.prog 312=2)/\
 (tyS Tryz.prog 315=1)/\
 (tyS Tryz.prog 324=1)/\
 (tyS Tryz.prog 340=4)/\
 (tyS Tryz.prog 347=1)/\
 (tyS Tryz.prog 350=1)/\
 (tyS Tryz.prog 351=1)/\
 (tyS Tryz.prog 352=1)/\
 (tyS Tryz.prog 368=1)/\
 (tyS Tryz.prog 372=1)/\
 (tyS Tryz.prog 376=1)/\
 (tyS Tryz.prog 382=2)/\
 (tyS Tryz.prog 389=1)/\
 (tyS Tryz.prog 400=4)/\
 (tyS Tryz.prog 415=1)/\
 (tyS Tryz.prog 422=1):=by
 refine⟨?_,?_,?_,?_,?_,?_,?_,?_,?_,?_,?_,?_,?_,?_,?_,?_,?_,?_,?_,?_,?_,?_,?_,?_,?_,?_,?_,?_,?_,?_,?_,?_,?_,?_,?_,?_,?_,?_,?_,?_,?_,?_,?_,?_,?_,?_,?_,?_,?_,?_,?_,?_,?_,?_,?_,?_,?_,?_,?_,?_,?_,?_,?_,?_,?_,?_,?_,?_,?_,?_,?_,?_,?_,?_,?_,?_,?_,?_,?_,?_,?_,?_,?_,?_,?_,?_,?_,?_,?_,?_,?_,?_,?_,?_,?_,?_,?_,?_,?_,?_,?_,?_,?_,?_,?_,?_,?_,?_,?_,?_,?_,?_⟩
 all_goals rfl
theorem tyAs:(tyA Tryz.prog 3=false)/\
 (tyA Tryz.prog 4=false)/\
 (tyA Tryz.prog 5=false)/\
 (tyA Tryz.prog 9=false)/\
 (tyA Tryz.prog 21=false)/\
 (tyA Tryz.prog 22=false)/\
 (tyA Tryz.prog 23=false)/\
 (tyA Tryz.prog 25=true)/\
 (tyA Tryz.prog 26=false)/\
 (tyA Tryz.prog 27=false)/\
 (tyA Tryz.prog 30=false)/\
 (tyA Tryz.prog 31=false)/\
 (tyA Tryz.prog 32=false)/\
 (tyA Tryz.prog 35=false)/\
 (tyA Tryz.prog 38=false)/\
 (tyA Tryz.prog 40=true)/\
 (tyA Tryz.prog 44=true)/\
 (tyA Tryz.prog 46=true)/\
 (tyA Tryz.prog 56=false)/\
 (tyA Tryz.prog 57=false)/\
 (tyA Tryz.prog 62=false)/\
 (tyA Tryz.prog 67=false)/\
 (tyA Tryz.prog 70=false)/\
 (tyA Tryz.prog 77=true)/\
 (tyA Tryz.prog 80=true)/\
 (tyA Tryz.prog 84=true)/\
 (tyA Tryz.prog 90=false)/\
 (tyA Tryz.prog 91=true)/\
 (tyA Tryz.prog 92=false)/\
 (tyA Tryz.prog 98=true)/\
 (tyA Tryz.prog 110=false)/\
 (tyA Tryz.prog 112=true)/\
 (tyA Tryz.prog 113=true)/\
 (tyA Tryz.prog 114=false)/\
 (tyA Tryz.prog 116=true)/\
 (tyA Tryz.prog 117=false)/\
 (tyA Tryz.prog 119=true)/\
 (tyA Tryz.prog 120=false)/\
 (tyA Tryz.prog 122=true)/\
 (tyA Tryz.prog 125=false)/\
 (tyA Tryz.prog 128=true)/\
 (tyA Tryz.prog 131=true)/\
 (tyA Tryz.prog 135=false)/\
 (tyA Tryz.prog 137=true)/\
 (tyA Tryz.prog 141=false)/\
 (tyA Tryz.prog 143=true)/\
 (tyA Tryz.prog 147=false)/\
 (tyA Tryz.prog 150=false)/\
 (tyA Tryz.prog 155=false)/\
 (tyA Tryz.prog 157=false)/\
 (tyA Tryz.prog 158=false)/\
 (tyA Tryz.prog 159=false)/\
 (tyA Tryz.prog 161=true)/\
 (tyA Tryz.prog 164=true)/\
 (tyA Tryz.prog 165=false)/\
 (tyA Tryz.prog 167=false)/\
 (tyA Tryz.prog 168=false)/\
 (tyA Tryz.prog 172=true)/\
 (tyA Tryz.prog 181=false)/\
 (tyA Tryz.prog 182=false)/\
 (tyA Tryz.prog 184=true)/\
 (tyA Tryz.prog 194=false)/\
 (tyA Tryz.prog 195=false)/\
 (tyA Tryz.prog 197=true)/\
 (tyA Tryz.prog 199=false)/\
 (tyA Tryz.prog 201=true)/\
 (tyA Tryz.prog 202=false)/\
 (tyA Tryz.prog 204=false)/\
 (tyA Tryz.prog 208=true)/\
 (tyA Tryz.prog 210=true)/\
 (tyA Tryz.prog 215=false)/\
 (tyA Tryz.prog 217=true)/\
 (tyA Tryz.prog 219=true)/\
 (tyA Tryz.prog 221=false)/\
 (tyA Tryz.prog 226=true)/\
 (tyA Tryz.prog 235=false)/\
 (tyA Tryz.prog 237=true)/\
 (tyA Tryz.prog 238=true)/\
 (tyA Tryz.prog 242=false)/\
 (tyA Tryz.prog 243=false)/\
 (tyA Tryz.prog 248=true)/\
 (tyA Tryz.prog 250=true)/\
 (tyA Tryz.prog 252=false)/\
 (tyA Tryz.prog 253=false)/\
 (tyA Tryz.prog 255=true)/\
 (tyA Tryz.prog 262=false)/\
 (tyA Tryz.prog 276=false)/\
 (tyA Tryz.prog 279=true)/\
 (tyA Tryz.prog 280=false)/\
 (tyA Tryz.prog 282=true)/\
 (tyA Tryz.prog 288=true)/\
 (tyA Tryz.prog 291=false)/\
 (tyA Tryz.prog 301=false)/\
 (tyA Tryz.prog 303=true)/\
 (tyA Tryz.prog 305=false)/\
 (tyA Tryz.prog 306=false)/\
 (tyA Tryz.prog 312=true)/\
 (tyA Tryz.prog 315=false)/\
 (tyA Tryz.prog 324=false)/\
 (tyA Tryz.prog 340=true)/\
 (tyA Tryz.prog 347=false)/\
 (tyA Tryz.prog 350=false)/\
 (tyA Tryz.prog 351=false)/\
 (tyA Tryz.prog 352=false)/\
 (tyA Tryz.prog 368=false)/\
 (tyA Tryz.prog 372=false)/\
 (tyA Tryz.prog 376=false)/\
 (tyA Tryz.prog 382=true)/\
 (tyA Tryz.prog 389=false)/\
 (tyA Tryz.prog 400=true)/\
 (tyA Tryz.prog 415=false)/\
 (tyA Tryz.prog 422=false):=by
 refine⟨?_,?_,?_,?_,?_,?_,?_,?_,?_,?_,?_,?_,?_,?_,?_,?_,?_,?_,?_,?_,?_,?_,?_,?_,?_,?_,?_,?_,?_,?_,?_,?_,?_,?_,?_,?_,?_,?_,?_,?_,?_,?_,?_,?_,?_,?_,?_,?_,?_,?_,?_,?_,?_,?_,?_,?_,?_,?_,?_,?_,?_,?_,?_,?_,?_,?_,?_,?_,?_,?_,?_,?_,?_,?_,?_,?_,?_,?_,?_,?_,?_,?_,?_,?_,?_,?_,?_,?_,?_,?_,?_,?_,?_,?_,?_,?_,?_,?_,?_,?_,?_,?_,?_,?_,?_,?_,?_,?_,?_,?_,?_,?_⟩
 all_goals rfl
theorem tyNs:((tyU Tryz.prog 25).isSome=true)/\
 ((tyU Tryz.prog 30).isSome=true)/\
 ((tyU Tryz.prog 40).isSome=true)/\
 ((tyU Tryz.prog 44).isSome=true)/\
 ((tyU Tryz.prog 46).isSome=true)/\
 ((tyU Tryz.prog 77).isSome=true)/\
 ((tyU Tryz.prog 80).isSome=true)/\
 ((tyU Tryz.prog 84).isSome=true)/\
 ((tyU Tryz.prog 91).isSome=true)/\
 ((tyU Tryz.prog 98).isSome=true)/\
 ((tyU Tryz.prog 112).isSome=true)/\
 ((tyU Tryz.prog 116).isSome=true)/\
 ((tyU Tryz.prog 119).isSome=true)/\
 ((tyU Tryz.prog 122).isSome=true)/\
 ((tyU Tryz.prog 128).isSome=true)/\
 ((tyU Tryz.prog 131).isSome=true)/\
 ((tyU Tryz.prog 137).isSome=true)/\
 ((tyU Tryz.prog 143).isSome=true)/\
 ((tyU Tryz.prog 155).isSome=true)/\
 ((tyU Tryz.prog 161).isSome=true)/\
 ((tyU Tryz.prog 164).isSome=true)/\
 ((tyU Tryz.prog 172).isSome=true)/\
 ((tyU Tryz.prog 184).isSome=true)/\
 ((tyU Tryz.prog 194).isSome=true)/\
 ((tyU Tryz.prog 197).isSome=true)/\
 ((tyU Tryz.prog 201).isSome=true)/\
 ((tyU Tryz.prog 204).isSome=true)/\
 ((tyU Tryz.prog 208).isSome=true)/\
 ((tyU Tryz.prog 210).isSome=true)/\
 ((tyU Tryz.prog 217).isSome=true)/\
 ((tyU Tryz.prog 219).isSome=true)/\
 ((tyU Tryz.prog 226).isSome=true)/\
 ((tyU Tryz.prog 237).isSome=true)/\
 ((tyU Tryz.prog 242).isSome=true)/\
 ((tyU Tryz.prog 243).isSome=true)/\
 ((tyU Tryz.prog 250).isSome=true)/\
 ((tyU Tryz.prog 255).isSome=true)/\
 ((tyU Tryz.prog 279).isSome=true)/\
 ((tyU Tryz.prog 282).isSome=true)/\
 ((tyU Tryz.prog 303).isSome=true)/\
 ((tyU Tryz.prog 305).isSome=true)/\
 ((tyU Tryz.prog 306).isSome=true)/\
 ((tyU Tryz.prog 312).isSome=true)/\
 ((tyU Tryz.prog 340).isSome=true)/\
 ((tyU Tryz.prog 350).isSome=true)/\
 ((tyU Tryz.prog 351).isSome=true)/\
 ((tyU Tryz.prog 352).isSome=true)/\
 ((tyU Tryz.prog 376).isSome=true)/\
 ((tyU Tryz.prog 382).isSome=true)/\
 ((tyU Tryz.prog 389).isSome=true)/\
 ((tyU Tryz.prog 400).isSome=true)/\
 ((tyU Tryz.prog 415).isSome=true):=by
 refine⟨?_,?_,?_,?_,?_,?_,?_,?_,?_,?_,?_,?_,?_,?_,?_,?_,?_,?_,?_,?_,?_,?_,?_,?_,?_,?_,?_,?_,?_,?_,?_,?_,?_,?_,?_,?_,?_,?_,?_,?_,?_,?_,?_,?_,?_,?_,?_,?_,?_,?_,?_,?_⟩
 all_goals rfl
theorem tyZs:(tyZ Tryz.prog 3=some (.int .i64 0))/\
 (tyZ Tryz.prog 4=some (.bool false))/\
 (tyZ Tryz.prog 5=some (.int .u8 0))/\
 (tyZ Tryz.prog 9=some (vs []))/\
 (tyZ Tryz.prog 21=some (.int .i32 0))/\
 (tyZ Tryz.prog 22=some (.slice .none 0 0))/\
 (tyZ Tryz.prog 23=some (.slice .none 0 0))/\
 (tyZ Tryz.prog 25=some (.agg #[.slice .none 0 0,.slice .none 0 0,.int .i64 0,.int .i64 0]))/\
 (tyZ Tryz.prog 26=some (.slice .none 0 0))/\
 (tyZ Tryz.prog 27=some (.slice .none 0 0))/\
 (tyZ Tryz.prog 30=some (.nilFunc))/\
 (tyZ Tryz.prog 31=some (.slice .none 0 0))/\
 (tyZ Tryz.prog 32=some (.int .i64 0))/\
 (tyZ Tryz.prog 35=some (.slice .none 0 0))/\
 (tyZ Tryz.prog 38=some (.slice .none 0 0))/\
 (tyZ Tryz.prog 40=some (.agg #[.slice .none 0 0,.slice .none 0 0,.int .i64 0,.int .i64 0]))/\
 (tyZ Tryz.prog 44=some (.agg #[.slice .none 0 0,.bool false]))/\
 (tyZ Tryz.prog 46=some (.agg #[.slice .none 0 0,.bool false]))/\
 (tyZ Tryz.prog 56=some (.int .u16 0))/\
 (tyZ Tryz.prog 57=some (.slice .none 0 0))/\
 (tyZ Tryz.prog 62=some (.slice .none 0 0))/\
 (tyZ Tryz.prog 67=some (.slice .none 0 0))/\
 (tyZ Tryz.prog 70=some (.slice .none 0 0))/\
 (tyZ Tryz.prog 77=some (.agg #[.int .i64 0,.slice .none 0 0]))/\
 (tyZ Tryz.prog 80=some (.agg #[.int .i64 0,.slice .none 0 0,.int .i64 0,.int .i64 0,.bool false,.int .i64 0]))/\
 (tyZ Tryz.prog 84=some (.agg #[.int .i64 0,.slice .none 0 0,.int .i64 0,.int .i64 0,.bool false,.int .i64 0]))/\
 (tyZ Tryz.prog 90=some (.slice .none 0 0))/\
 (tyZ Tryz.prog 91=some (.agg #[.int .i64 0,.slice .none 0 0]))/\
 (tyZ Tryz.prog 92=some (.slice .none 0 0))/\
 (tyZ Tryz.prog 98=some (.agg #[.int .i64 0,.slice .none 0 0,.int .i64 0,.slice .none 0 0]))/\
 (tyZ Tryz.prog 110=some (.slice .none 0 0))/\
 (tyZ Tryz.prog 112=some (.agg #[.slice .none 0 0,.slice .none 0 0,.int .i64 0,.int .i64 0]))/\
 (tyZ Tryz.prog 113=some (.agg #[.int .u8 0,.int .u8 0,.int .u8 0,.int .u8 0]))/\
 (tyZ Tryz.prog 114=some (.slice .none 0 0))/\
 (tyZ Tryz.prog 116=some (.agg #[.slice .none 0 0,.int .u8 0,.int .u8 0,.int .u8 0,.int .u8 0,.slice .none 0 0]))/\
 (tyZ Tryz.prog 117=some (.slice .none 0 0))/\
 (tyZ Tryz.prog 119=some (.agg #[.slice .none 0 0,.int .u8 0,.int .u8 0,.int .u8 0,.int .u8 0,.slice .none 0 0]))/\
 (tyZ Tryz.prog 120=some (.slice .none 0 0))/\
 (tyZ Tryz.prog 122=some (.agg #[.slice .none 0 0,.slice .none 0 0]))/\
 (tyZ Tryz.prog 125=some (.slice .none 0 0))/\
 (tyZ Tryz.prog 128=some (.agg #[.slice .none 0 0,.slice .none 0 0]))/\
 (tyZ Tryz.prog 131=some (.agg #[.slice .none 0 0,vs []]))/\
 (tyZ Tryz.prog 135=some (.slice .none 0 0))/\
 (tyZ Tryz.prog 137=some (.agg #[.slice .none 0 0,.slice .none 0 0,.int .i64 0,.int .i64 0]))/\
 (tyZ Tryz.prog 141=some (.slice .none 0 0))/\
 (tyZ Tryz.prog 143=some (.agg #[.slice .none 0 0,.int .u8 0,.int .u8 0,.int .u8 0,.int .u8 0,.slice .none 0 0]))/\
 (tyZ Tryz.prog 147=some (.pointer .none))/\
 (tyZ Tryz.prog 150=some (.slice .none 0 0))/\
 (tyZ Tryz.prog 155=some (.nilFunc))/\
 (tyZ Tryz.prog 157=some (.pointer .none))/\
 (tyZ Tryz.prog 158=some (.map .none))/\
 (tyZ Tryz.prog 159=some (.slice .none 0 0))/\
 (tyZ Tryz.prog 161=some (.agg #[.map .none,.slice .none 0 0]))/\
 (tyZ Tryz.prog 164=some (.agg #[.int .i64 0,.slice .none 0 0,.int .i64 0,.int .i64 0,.bool false,.int .i64 0,.slice .none 0 0]))/\
 (tyZ Tryz.prog 165=some (.map .none))/\
 (tyZ Tryz.prog 167=some (.slice .none 0 0))/\
 (tyZ Tryz.prog 168=some (.slice .none 0 0))/\
 (tyZ Tryz.prog 172=some (.agg #[.int .i64 0,.slice .none 0 0,.int .i64 0,.int .i64 0,.bool false,.int .i64 0,.slice .none 0 0]))/\
 (tyZ Tryz.prog 181=some (.slice .none 0 0))/\
 (tyZ Tryz.prog 182=some (.slice .none 0 0))/\
 (tyZ Tryz.prog 184=some (.agg #[.int .i64 0,.slice .none 0 0,.slice .none 0 0,.bool false,.slice .none 0 0]))/\
 (tyZ Tryz.prog 194=some (.nilFunc))/\
 (tyZ Tryz.prog 195=some (.slice .none 0 0))/\
 (tyZ Tryz.prog 197=some (.agg #[.int .i64 0,.slice .none 0 0,.slice .none 0 0,.slice .none 0 0,.slice .none 0 0]))/\
 (tyZ Tryz.prog 199=some (.int .u32 0))/\
 (tyZ Tryz.prog 201=some (.agg #[.slice .none 0 0,.int .u32 0,.int .i64 0,.slice .none 0 0,.slice .none 0 0,.slice .none 0 0,.slice .none 0 0]))/\
 (tyZ Tryz.prog 202=some (.map .none))/\
 (tyZ Tryz.prog 204=some (.nilFunc))/\
 (tyZ Tryz.prog 208=some (.agg #[.int .i64 0,.slice .none 0 0,.slice .none 0 0,.slice .none 0 0,.slice .none 0 0]))/\
 (tyZ Tryz.prog 210=some (.agg #[.slice .none 0 0,.int .u32 0,.int .i64 0,.slice .none 0 0,.slice .none 0 0,.slice .none 0 0,.slice .none 0 0]))/\
 (tyZ Tryz.prog 215=some (.slice .none 0 0))/\
 (tyZ Tryz.prog 217=some (.agg #[.slice .none 0 0,.int .u8 0,.int .u8 0,.int .u8 0,.int .u8 0,.slice .none 0 0]))/\
 (tyZ Tryz.prog 219=some (.agg #[.slice .none 0 0,vs []]))/\
 (tyZ Tryz.prog 221=some (.slice .none 0 0))/\
 (tyZ Tryz.prog 226=some (.agg #[.slice .none 0 0,.slice .none 0 0]))/\
 (tyZ Tryz.prog 235=some (.pointer .none))/\
 (tyZ Tryz.prog 237=some (.agg #[.pointer .none,.int .i64 0]))/\
 (tyZ Tryz.prog 238=some (.agg #[.slice .none 0 0,.slice .none 0 0]))/\
 (tyZ Tryz.prog 242=some (.nilFunc))/\
 (tyZ Tryz.prog 243=some (.nilFunc))/\
 (tyZ Tryz.prog 248=some (.agg #[.int .i64 0,.int .i64 0,.int .i64 0,.int .i64 0]))/\
 (tyZ Tryz.prog 250=some (.agg #[vs [],.int .i64 0,.int .i64 0,.int .i64 0,.int .i64 0,.bool false]))/\
 (tyZ Tryz.prog 252=some (.slice .none 0 0))/\
 (tyZ Tryz.prog 253=some (.slice .none 0 0))/\
 (tyZ Tryz.prog 255=some (.agg #[.int .i64 0,.slice .none 0 0,.slice .none 0 0,.bool false,.slice .none 0 0]))/\
 (tyZ Tryz.prog 262=some (.int .u64 0))/\
 (tyZ Tryz.prog 276=some (.slice .none 0 0))/\
 (tyZ Tryz.prog 279=some (.agg #[.int .i64 0,vs []]))/\
 (tyZ Tryz.prog 280=some (.pointer .none))/\
 (tyZ Tryz.prog 282=some (.agg #[.pointer .none,.slice .none 0 0]))/\
 (tyZ Tryz.prog 288=some (.agg #[vs [],vs [],vs [],vs [],vs [],vs [],vs [],vs [],vs [],vs []]))/\
 (tyZ Tryz.prog 291=some (.slice .none 0 0))/\
 (tyZ Tryz.prog 301=some (.map .none))/\
 (tyZ Tryz.prog 303=some (.agg #[.map .none,.bool false,.bool false]))/\
 (tyZ Tryz.prog 305=some (.nilFunc))/\
 (tyZ Tryz.prog 306=some (.nilFunc))/\
 (tyZ Tryz.prog 312=some (.agg #[.slice .none 0 0,.slice .none 0 0]))/\
 (tyZ Tryz.prog 315=some (.int .i64 0))/\
 (tyZ Tryz.prog 324=some (.int .u64 0))/\
 (tyZ Tryz.prog 340=some (.agg #[.slice .none 0 0,.int .i64 0,.int .u32 0,.slice .none 0 0]))/\
 (tyZ Tryz.prog 347=some (.pointer .none))/\
 (tyZ Tryz.prog 350=some (.nilFunc))/\
 (tyZ Tryz.prog 351=some (.nilFunc))/\
 (tyZ Tryz.prog 352=some (.nilFunc))/\
 (tyZ Tryz.prog 368=some (.int .u64 0))/\
 (tyZ Tryz.prog 372=some (.pointer .none))/\
 (tyZ Tryz.prog 376=some (.nilFunc))/\
 (tyZ Tryz.prog 382=some (.agg #[.slice .none 0 0,.slice .none 0 0]))/\
 (tyZ Tryz.prog 389=some (.pointer .none))/\
 (tyZ Tryz.prog 400=some (.agg #[.slice .none 0 0,.int .i64 0,.int .u32 0,.slice .none 0 0]))/\
 (tyZ Tryz.prog 415=some (.nilFunc))/\
 (tyZ Tryz.prog 422=some (.slice .none 0 0)):=by
 refine⟨?_,?_,?_,?_,?_,?_,?_,?_,?_,?_,?_,?_,?_,?_,?_,?_,?_,?_,?_,?_,?_,?_,?_,?_,?_,?_,?_,?_,?_,?_,?_,?_,?_,?_,?_,?_,?_,?_,?_,?_,?_,?_,?_,?_,?_,?_,?_,?_,?_,?_,?_,?_,?_,?_,?_,?_,?_,?_,?_,?_,?_,?_,?_,?_,?_,?_,?_,?_,?_,?_,?_,?_,?_,?_,?_,?_,?_,?_,?_,?_,?_,?_,?_,?_,?_,?_,?_,?_,?_,?_,?_,?_,?_,?_,?_,?_,?_,?_,?_,?_,?_,?_,?_,?_,?_,?_,?_,?_,?_,?_,?_,?_⟩
 all_goals rfl
theorem fdAs:(∀a:Addr,fdA Tryz.prog 25 (.pointer (some a)) 0=some (.pointer (adr (some a) 0)))/\
 (∀a:Addr,fdA Tryz.prog 25 (.pointer (some a)) 1=some (.pointer (adr (some a) 1)))/\
 (∀a:Addr,fdA Tryz.prog 25 (.pointer (some a)) 2=some (.pointer (adr (some a) 2)))/\
 (∀a:Addr,fdA Tryz.prog 25 (.pointer (some a)) 3=some (.pointer (adr (some a) 3)))/\
 (∀a:Addr,fdA Tryz.prog 40 (.pointer (some a)) 0=some (.pointer (adr (some a) 0)))/\
 (∀a:Addr,fdA Tryz.prog 40 (.pointer (some a)) 1=some (.pointer (adr (some a) 1)))/\
 (∀a:Addr,fdA Tryz.prog 40 (.pointer (some a)) 2=some (.pointer (adr (some a) 2)))/\
 (∀a:Addr,fdA Tryz.prog 40 (.pointer (some a)) 3=some (.pointer (adr (some a) 3)))/\
 (∀a:Addr,fdA Tryz.prog 44 (.pointer (some a)) 0=some (.pointer (adr (some a) 0)))/\
 (∀a:Addr,fdA Tryz.prog 44 (.pointer (some a)) 1=some (.pointer (adr (some a) 1)))/\
 (∀a:Addr,fdA Tryz.prog 46 (.pointer (some a)) 0=some (.pointer (adr (some a) 0)))/\
 (∀a:Addr,fdA Tryz.prog 46 (.pointer (some a)) 1=some (.pointer (adr (some a) 1)))/\
 (∀a:Addr,fdA Tryz.prog 77 (.pointer (some a)) 0=some (.pointer (adr (some a) 0)))/\
 (∀a:Addr,fdA Tryz.prog 77 (.pointer (some a)) 1=some (.pointer (adr (some a) 1)))/\
 (∀a:Addr,fdA Tryz.prog 80 (.pointer (some a)) 0=some (.pointer (adr (some a) 0)))/\
 (∀a:Addr,fdA Tryz.prog 80 (.pointer (some a)) 1=some (.pointer (adr (some a) 1)))/\
 (∀a:Addr,fdA Tryz.prog 80 (.pointer (some a)) 2=some (.pointer (adr (some a) 2)))/\
 (∀a:Addr,fdA Tryz.prog 80 (.pointer (some a)) 3=some (.pointer (adr (some a) 3)))/\
 (∀a:Addr,fdA Tryz.prog 80 (.pointer (some a)) 4=some (.pointer (adr (some a) 4)))/\
 (∀a:Addr,fdA Tryz.prog 80 (.pointer (some a)) 5=some (.pointer (adr (some a) 5)))/\
 (∀a:Addr,fdA Tryz.prog 84 (.pointer (some a)) 0=some (.pointer (adr (some a) 0)))/\
 (∀a:Addr,fdA Tryz.prog 84 (.pointer (some a)) 1=some (.pointer (adr (some a) 1)))/\
 (∀a:Addr,fdA Tryz.prog 84 (.pointer (some a)) 2=some (.pointer (adr (some a) 2)))/\
 (∀a:Addr,fdA Tryz.prog 84 (.pointer (some a)) 3=some (.pointer (adr (some a) 3)))/\
 (∀a:Addr,fdA Tryz.prog 84 (.pointer (some a)) 4=some (.pointer (adr (some a) 4)))/\
 (∀a:Addr,fdA Tryz.prog 84 (.pointer (some a)) 5=some (.pointer (adr (some a) 5)))/\
 (∀a:Addr,fdA Tryz.prog 91 (.pointer (some a)) 0=some (.pointer (adr (some a) 0)))/\
 (∀a:Addr,fdA Tryz.prog 91 (.pointer (some a)) 1=some (.pointer (adr (some a) 1)))/\
 (∀a:Addr,fdA Tryz.prog 98 (.pointer (some a)) 0=some (.pointer (adr (some a) 0)))/\
 (∀a:Addr,fdA Tryz.prog 98 (.pointer (some a)) 1=some (.pointer (adr (some a) 1)))/\
 (∀a:Addr,fdA Tryz.prog 98 (.pointer (some a)) 2=some (.pointer (adr (some a) 2)))/\
 (∀a:Addr,fdA Tryz.prog 98 (.pointer (some a)) 3=some (.pointer (adr (some a) 3)))/\
 (∀a:Addr,fdA Tryz.prog 112 (.pointer (some a)) 0=some (.pointer (adr (some a) 0)))/\
 (∀a:Addr,fdA Tryz.prog 112 (.pointer (some a)) 1=some (.pointer (adr (some a) 1)))/\
 (∀a:Addr,fdA Tryz.prog 112 (.pointer (some a)) 2=some (.pointer (adr (some a) 2)))/\
 (∀a:Addr,fdA Tryz.prog 112 (.pointer (some a)) 3=some (.pointer (adr (some a) 3)))/\
 (∀a:Addr,fdA Tryz.prog 116 (.pointer (some a)) 0=some (.pointer (adr (some a) 0)))/\
 (∀a:Addr,fdA Tryz.prog 116 (.pointer (some a)) 1=some (.pointer (adr (some a) 1)))/\
 (∀a:Addr,fdA Tryz.prog 116 (.pointer (some a)) 2=some (.pointer (adr (some a) 5)))/\
 (∀a:Addr,fdA Tryz.prog 119 (.pointer (some a)) 0=some (.pointer (adr (some a) 0)))/\
 (∀a:Addr,fdA Tryz.prog 119 (.pointer (some a)) 1=some (.pointer (adr (some a) 1)))/\
 (∀a:Addr,fdA Tryz.prog 119 (.pointer (some a)) 2=some (.pointer (adr (some a) 5)))/\
 (∀a:Addr,fdA Tryz.prog 122 (.pointer (some a)) 0=some (.pointer (adr (some a) 0)))/\
 (∀a:Addr,fdA Tryz.prog 122 (.pointer (some a)) 1=some (.pointer (adr (some a) 1)))/\
 (∀a:Addr,fdA Tryz.prog 128 (.pointer (some a)) 0=some (.pointer (adr (some a) 0)))/\
 (∀a:Addr,fdA Tryz.prog 128 (.pointer (some a)) 1=some (.pointer (adr (some a) 1)))/\
 (∀a:Addr,fdA Tryz.prog 131 (.pointer (some a)) 0=some (.pointer (adr (some a) 0)))/\
 (∀a:Addr,fdA Tryz.prog 131 (.pointer (some a)) 1=some (.pointer (adr (some a) 1)))/\
 (∀a:Addr,fdA Tryz.prog 137 (.pointer (some a)) 0=some (.pointer (adr (some a) 0)))/\
 (∀a:Addr,fdA Tryz.prog 137 (.pointer (some a)) 1=some (.pointer (adr (some a) 1)))/\
 (∀a:Addr,fdA Tryz.prog 137 (.pointer (some a)) 2=some (.pointer (adr (some a) 2)))/\
 (∀a:Addr,fdA Tryz.prog 137 (.pointer (some a)) 3=some (.pointer (adr (some a) 3)))/\
 (∀a:Addr,fdA Tryz.prog 143 (.pointer (some a)) 0=some (.pointer (adr (some a) 0)))/\
 (∀a:Addr,fdA Tryz.prog 143 (.pointer (some a)) 1=some (.pointer (adr (some a) 1)))/\
 (∀a:Addr,fdA Tryz.prog 143 (.pointer (some a)) 2=some (.pointer (adr (some a) 5)))/\
 (∀a:Addr,fdA Tryz.prog 161 (.pointer (some a)) 0=some (.pointer (adr (some a) 0)))/\
 (∀a:Addr,fdA Tryz.prog 161 (.pointer (some a)) 1=some (.pointer (adr (some a) 1)))/\
 (∀a:Addr,fdA Tryz.prog 164 (.pointer (some a)) 0=some (.pointer (adr (some a) 0)))/\
 (∀a:Addr,fdA Tryz.prog 164 (.pointer (some a)) 1=some (.pointer (adr (some a) 6)))/\
 (∀a:Addr,fdA Tryz.prog 172 (.pointer (some a)) 0=some (.pointer (adr (some a) 0)))/\
 (∀a:Addr,fdA Tryz.prog 172 (.pointer (some a)) 1=some (.pointer (adr (some a) 6)))/\
 (∀a:Addr,fdA Tryz.prog 184 (.pointer (some a)) 0=some (.pointer (adr (some a) 0)))/\
 (∀a:Addr,fdA Tryz.prog 184 (.pointer (some a)) 1=some (.pointer (adr (some a) 1)))/\
 (∀a:Addr,fdA Tryz.prog 184 (.pointer (some a)) 2=some (.pointer (adr (some a) 2)))/\
 (∀a:Addr,fdA Tryz.prog 184 (.pointer (some a)) 3=some (.pointer (adr (some a) 3)))/\
 (∀a:Addr,fdA Tryz.prog 184 (.pointer (some a)) 4=some (.pointer (adr (some a) 4)))/\
 (∀a:Addr,fdA Tryz.prog 197 (.pointer (some a)) 0=some (.pointer (adr (some a) 0)))/\
 (∀a:Addr,fdA Tryz.prog 197 (.pointer (some a)) 1=some (.pointer (adr (some a) 1)))/\
 (∀a:Addr,fdA Tryz.prog 197 (.pointer (some a)) 2=some (.pointer (adr (some a) 2)))/\
 (∀a:Addr,fdA Tryz.prog 197 (.pointer (some a)) 3=some (.pointer (adr (some a) 3)))/\
 (∀a:Addr,fdA Tryz.prog 197 (.pointer (some a)) 4=some (.pointer (adr (some a) 4)))/\
 (∀a:Addr,fdA Tryz.prog 201 (.pointer (some a)) 0=some (.pointer (adr (some a) 0)))/\
 (∀a:Addr,fdA Tryz.prog 201 (.pointer (some a)) 1=some (.pointer (adr (some a) 1)))/\
 (∀a:Addr,fdA Tryz.prog 201 (.pointer (some a)) 2=some (.pointer (adr (some a) 2)))/\
 (∀a:Addr,fdA Tryz.prog 208 (.pointer (some a)) 0=some (.pointer (adr (some a) 0)))/\
 (∀a:Addr,fdA Tryz.prog 208 (.pointer (some a)) 1=some (.pointer (adr (some a) 1)))/\
 (∀a:Addr,fdA Tryz.prog 208 (.pointer (some a)) 2=some (.pointer (adr (some a) 2)))/\
 (∀a:Addr,fdA Tryz.prog 208 (.pointer (some a)) 3=some (.pointer (adr (some a) 3)))/\
 (∀a:Addr,fdA Tryz.prog 208 (.pointer (some a)) 4=some (.pointer (adr (some a) 4)))/\
 (∀a:Addr,fdA Tryz.prog 210 (.pointer (some a)) 0=some (.pointer (adr (some a) 0)))/\
 (∀a:Addr,fdA Tryz.prog 210 (.pointer (some a)) 1=some (.pointer (adr (some a) 1)))/\
 (∀a:Addr,fdA Tryz.prog 210 (.pointer (some a)) 2=some (.pointer (adr (some a) 2)))/\
 (∀a:Addr,fdA Tryz.prog 217 (.pointer (some a)) 0=some (.pointer (adr (some a) 0)))/\
 (∀a:Addr,fdA Tryz.prog 217 (.pointer (some a)) 1=some (.pointer (adr (some a) 1)))/\
 (∀a:Addr,fdA Tryz.prog 217 (.pointer (some a)) 2=some (.pointer (adr (some a) 5)))/\
 (∀a:Addr,fdA Tryz.prog 219 (.pointer (some a)) 0=some (.pointer (adr (some a) 0)))/\
 (∀a:Addr,fdA Tryz.prog 219 (.pointer (some a)) 1=some (.pointer (adr (some a) 1)))/\
 (∀a:Addr,fdA Tryz.prog 226 (.pointer (some a)) 0=some (.pointer (adr (some a) 0)))/\
 (∀a:Addr,fdA Tryz.prog 226 (.pointer (some a)) 1=some (.pointer (adr (some a) 1)))/\
 (∀a:Addr,fdA Tryz.prog 237 (.pointer (some a)) 0=some (.pointer (adr (some a) 0)))/\
 (∀a:Addr,fdA Tryz.prog 237 (.pointer (some a)) 1=some (.pointer (adr (some a) 1)))/\
 (∀a:Addr,fdA Tryz.prog 250 (.pointer (some a)) 0=some (.pointer (adr (some a) 0)))/\
 (∀a:Addr,fdA Tryz.prog 250 (.pointer (some a)) 1=some (.pointer (adr (some a) 1)))/\
 (∀a:Addr,fdA Tryz.prog 250 (.pointer (some a)) 2=some (.pointer (adr (some a) 5)))/\
 (∀a:Addr,fdA Tryz.prog 255 (.pointer (some a)) 0=some (.pointer (adr (some a) 0)))/\
 (∀a:Addr,fdA Tryz.prog 255 (.pointer (some a)) 1=some (.pointer (adr (some a) 1)))/\
 (∀a:Addr,fdA Tryz.prog 255 (.pointer (some a)) 2=some (.pointer (adr (some a) 2)))/\
 (∀a:Addr,fdA Tryz.prog 255 (.pointer (some a)) 3=some (.pointer (adr (some a) 3)))/\
 (∀a:Addr,fdA Tryz.prog 255 (.pointer (some a)) 4=some (.pointer (adr (some a) 4)))/\
 (∀a:Addr,fdA Tryz.prog 279 (.pointer (some a)) 0=some (.pointer (adr (some a) 0)))/\
 (∀a:Addr,fdA Tryz.prog 279 (.pointer (some a)) 1=some (.pointer (adr (some a) 1)))/\
 (∀a:Addr,fdA Tryz.prog 282 (.pointer (some a)) 0=some (.pointer (adr (some a) 0)))/\
 (∀a:Addr,fdA Tryz.prog 282 (.pointer (some a)) 1=some (.pointer (adr (some a) 1)))/\
 (∀a:Addr,fdA Tryz.prog 303 (.pointer (some a)) 0=some (.pointer (adr (some a) 0)))/\
 (∀a:Addr,fdA Tryz.prog 303 (.pointer (some a)) 1=some (.pointer (adr (some a) 1)))/\
 (∀a:Addr,fdA Tryz.prog 303 (.pointer (some a)) 2=some (.pointer (adr (some a) 2)))/\
 (∀a:Addr,fdA Tryz.prog 312 (.pointer (some a)) 0=some (.pointer (adr (some a) 0)))/\
 (∀a:Addr,fdA Tryz.prog 312 (.pointer (some a)) 1=some (.pointer (adr (some a) 1)))/\
 (∀a:Addr,fdA Tryz.prog 340 (.pointer (some a)) 0=some (.pointer (adr (some a) 0)))/\
 (∀a:Addr,fdA Tryz.prog 340 (.pointer (some a)) 1=some (.pointer (adr (some a) 1)))/\
 (∀a:Addr,fdA Tryz.prog 340 (.pointer (some a)) 2=some (.pointer (adr (some a) 2)))/\
 (∀a:Addr,fdA Tryz.prog 340 (.pointer (some a)) 3=some (.pointer (adr (some a) 3)))/\
 (∀a:Addr,fdA Tryz.prog 382 (.pointer (some a)) 0=some (.pointer (adr (some a) 0)))/\
 (∀a:Addr,fdA Tryz.prog 382 (.pointer (some a)) 1=some (.pointer (adr (some a) 1)))/\
 (∀a:Addr,fdA Tryz.prog 400 (.pointer (some a)) 0=some (.pointer (adr (some a) 0)))/\
 (∀a:Addr,fdA Tryz.prog 400 (.pointer (some a)) 1=some (.pointer (adr (some a) 1)))/\
 (∀a:Addr,fdA Tryz.prog 400 (.pointer (some a)) 2=some (.pointer (adr (some a) 2)))/\
 (∀a:Addr,fdA Tryz.prog 400 (.pointer (some a)) 3=some (.pointer (adr (some a) 3))):=by
 refine⟨?_,?_,?_,?_,?_,?_,?_,?_,?_,?_,?_,?_,?_,?_,?_,?_,?_,?_,?_,?_,?_,?_,?_,?_,?_,?_,?_,?_,?_,?_,?_,?_,?_,?_,?_,?_,?_,?_,?_,?_,?_,?_,?_,?_,?_,?_,?_,?_,?_,?_,?_,?_,?_,?_,?_,?_,?_,?_,?_,?_,?_,?_,?_,?_,?_,?_,?_,?_,?_,?_,?_,?_,?_,?_,?_,?_,?_,?_,?_,?_,?_,?_,?_,?_,?_,?_,?_,?_,?_,?_,?_,?_,?_,?_,?_,?_,?_,?_,?_,?_,?_,?_,?_,?_,?_,?_,?_,?_,?_,?_,?_,?_,?_,?_,?_,?_,?_,?_⟩
 all_goals (intro a;kernel_rfl)
theorem fns1(f:Nat)(h:1<f)(k:f<258):zar Tryz.prog f=true:=(by decide+kernel:∀f,f<258->1<f->zar Tryz.prog f=true) f k h
theorem fns258(f:Nat)(h:258<f)(k:f<285):zar Tryz.prog f=true:=(by decide+kernel:∀f,f<285->258<f->zar Tryz.prog f=true) f k h
theorem fns285(f:Nat)(h:285<f)(k:f<294):zar Tryz.prog f=true:=(by decide+kernel:∀f,f<294->285<f->zar Tryz.prog f=true) f k h
theorem fns294(f:Nat)(h:294<f)(k:f<305):zar Tryz.prog f=true:=(by decide+kernel:∀f,f<305->294<f->zar Tryz.prog f=true) f k h
theorem fns305(f:Nat)(h:305<f)(k:f<322):zar Tryz.prog f=true:=(by decide+kernel:∀f,f<322->305<f->zar Tryz.prog f=true) f k h
theorem fnx:(zar Tryz.prog 258=false)/\
 (zar Tryz.prog 285=false)/\
 (zar Tryz.prog 294=false)/\
 (zar Tryz.prog 305=false)/\
 (zar Tryz.prog 322=false)/\
 (zar Tryz.prog 323=false)/\
 (zar Tryz.prog 324=false)/\
 (zar Tryz.prog 325=false)/\
 (zar Tryz.prog 326=false)/\
 (zar Tryz.prog 327=false)/\
 (zar Tryz.prog 328=false)/\
 (zar Tryz.prog 329=false)/\
 (zar Tryz.prog 330=false)/\
 (zar Tryz.prog 331=false)/\
 (zar Tryz.prog 332=false)/\
 (zar Tryz.prog 333=false)/\
 (zar Tryz.prog 334=false)/\
 (zar Tryz.prog 335=false)/\
 (zar Tryz.prog 336=false)/\
 (zar Tryz.prog 337=false)/\
 (zar Tryz.prog 338=false)/\
 (zar Tryz.prog 339=false)/\
 (zar Tryz.prog 340=false)/\
 (zar Tryz.prog 341=false)/\
 (zar Tryz.prog 342=false):=by
 refine⟨?_,?_,?_,?_,?_,?_,?_,?_,?_,?_,?_,?_,?_,?_,?_,?_,?_,?_,?_,?_,?_,?_,?_,?_,?_⟩
 all_goals rfl
theorem tyIs(t:Nat)(h:t<423):(Tryz.prog.info? t).isSome=true:=(by decide+kernel:∀t,t<423->(Tryz.prog.info? t).isSome=true) t h
attribute [go_sem] tyUs tySs tyAs tyIs tyNs fns1 fns258 fns285 fns294 fns305 fnx tyZs fdAs
theorem mixed:Tryz.prog.follows .mixedOrders=true:=by rfl
abbrev Lab:=List UInt8
def MapAt(w:World)(r:Nat)(l:List (Lab×Value)):Prop:=
 ∃es clk,w.heap[r]? =some (.map es clk)/\es.toList.map (fun e=>(e.key,e.val))=l.map (fun p=>(vs p.1,p.2))/\(es.toList.map (·.born)).Pairwise (·≠·)/\(∀e∈es.toList,e.born<clk)
theorem MapAt.block{w x:World}{r:Nat}{l:List (Lab×Value)}(h:MapAt w r l)(hb:x.heap[r]? =w.heap[r]?):MapAt x r l:=by
 obtain⟨es,clk,h1,h2⟩:=h;exact⟨es,clk,hb.trans h1,h2⟩
theorem zcH(a b:Lab):Instr.sameNow .string (vs a) (vs b)=some (a==b):=by
 simp only[vs,Instr.sameNow,Option.some.injEq];rw[Bool.eq_iff_iff,MapKept.bytes_beq,beq_iff_eq];constructor
 ·intro h;have:=congrArg (fun x:ByteArray=>x.data.toList) h;simpa using this
 ·rintro rfl;rfl
theorem zfJ{key:Lab}:∀(es:List MapEntry) (l:List (Lab×Value)) (i:Nat),es.map (fun e=>(e.key,e.val))=l.map (fun p=>(vs p.1,p.2))->l.lookup key= .none->Instr.findNow .string (vs key) es i=some .none
 | [],[],_,_,_=>rfl
 | [],_::_,_,h,_=>by simp at h
 |_::_,[],_,h,_=>by simp at h
 |e::es,(k,v)::l,i,h,hl=>by
  simp only[List.map_cons,List.cons.injEq,Prod.mk.injEq]at h;obtain⟨⟨h1,h2⟩,h3⟩:=h;simp only[List.lookup_cons]at hl
  split at hl
  ·cases hl
  ·rename_i hne;simp only[Instr.findNow,h1,zcH,hne];exact zfJ es l (i+1) h3 hl
theorem zhM{key:Lab}{v:Value}:∀(es:List MapEntry) (l:List (Lab×Value)) (i:Nat),es.map (fun e=>(e.key,e.val))=l.map (fun p=>(vs p.1,p.2))->l.lookup key=some v->∃j,Instr.findNow .string (vs key) es i=some (some (j,v))
 | [],[],_,_,h=>by simp at h
 | [],_::_,_,h,_=>by simp at h
 |_::_,[],_,h,_=>by simp at h
 |e::es,(k,u)::l,i,h,hl=>by
  simp only[List.map_cons,List.cons.injEq,Prod.mk.injEq]at h;obtain⟨⟨h1,h2⟩,h3⟩:=h;simp only[List.lookup_cons]at hl
  split at hl
  ·rename_i heq;cases hl;exact⟨i,by simp only[Instr.findNow,h1,zcH,heq,h2]⟩
  ·rename_i hne;simp only[Instr.findNow,h1,zcH,hne];exact zhM es l (i+1) h3 hl
section
variable {P : Program} {d : Option Tmp} {ty : TypeId} {ps : String} {af : Array Edge} {g : Option (Nat × Bool)} {ρ : Operand -> Value} {w : World} {K : Value -> World -> Prop}
theorem MapAt.lk{r:Nat}{l:List (Lab×Value)}(h:MapAt w r l){t kt et:TypeId}{z:Value}(ht:tyU P t=some (.map kt et))(hk:tyU P kt=some .string)(hz:tyZ P et=some z)(key:Lab):
  lkV P w t (.map (some r)) (vs key) false=some ((l.lookup key).getD z):=by
 obtain⟨es,clk,h1,h2,_⟩:=h;unfold lkV;rw[ht];simp only[hk,hz,h1];cases hl:l.lookup key with
 |none=>rw[zfJ _ _ 0 h2 hl];rfl
 |some v=>obtain⟨j,hj⟩:=zhM _ _ 0 h2 hl;rw[hj];rfl
theorem zhy{t kt et:TypeId}{m k x:Operand}{r:Nat}{l:List (Lab×Value)}{key:Lab}{v:Value}(ht:tyU P t=some (.map kt et))(hk:tyU P kt=some .string)
  (hm:ρ m= .map (some r)) (hkey:ρ k=vs key) (hx:ρ x=v) (hat:MapAt w r l) (hno:l.lookup key= .none)
  (h:∀w',MapAt w' r (l++ [(key,v)])->Keep (fun i=>i=r) w w'->w'.heap.size=w.heap.size->K undef w'):
  opW P ⟨d,.mapUpdate t m k x,ty,ps,af,g⟩ ρ w K:=by
 obtain⟨es,clk,h1,h2,h3,h4⟩:=hat;have hf:=zfJ es.toList l 0 h2 hno;have hrun:(Instr.mapUpdate t (.map (some r)) (vs key) v).run P w= .ok () (w.putObj r (.map (es.push {key:=vs key,val:=v,born:=clk}) (clk+1))):=by
  have hck:∀e,(Instr.checkKey e 10000 kt (vs key)).run P w= .ok () w:=fun e=>zco hk 9999;simp[Instr.mapUpdate,run_underlying (show P.underlying t=_ from ht),MapKept.run_getObj_map h1,hck,Instr.findKey,run_underlying (show P.underlying kt=_ from hk),hf,MapKept.run_setObj_map _ h1,Result.andThen]
  rfl
 have hlt:r<w.heap.size:=(Array.getElem?_eq_some_iff.1 h1).1;have hat':MapAt (w.putObj r (.map (es.push {key:=vs key,val:=v,born:=clk}) (clk+1))) r (l++ [(key,v)]):=by
  refine⟨_,_,World.putObj_heap_same hlt,by simp[h2],?_,?_⟩
  ·simp only[Array.toList_push,List.map_append,List.map_cons,List.map_nil,List.pairwise_append];refine⟨h3,by simp,fun a ha b hb=>?_⟩;simp at hb;subst hb;obtain⟨e,he,rfl⟩:=List.mem_map.1 ha;exact Nat.ne_of_lt (h4 e he)
  ·intro e he;simp only[Array.toList_push,List.mem_append,List.mem_singleton]at he;rcases he with he|rfl
   ·exact Nat.lt_succ_of_lt (h4 e he)
   ·exact Nat.lt_succ_self _
 have hfin:=h _ hat' (zaH rfl) (by simp);show opR P K ((do Instr.mapUpdate t (ρ m) (ρ k) (ρ x);pure .skip:Sem Next).run P w);rw[hm,hkey,hx];simp only[Sem.run_bind,hrun,Result.andThen_ok,Sem.run_pure];exact hfin
theorem new_map(w:World):MapAt (w.alloc (.map #[] 0)) w.heap.size []:=⟨_,_,zau w _,rfl,by simp,by simp⟩
end
inductive Pln
 |fin
 |run (pl:List (Nat×Bool)) (p:Pln)
 |fork (m:Nat) (is:List Nat) (p:Nat->Pln)
def Pln.len:Pln->Nat
 | .fin=>0
 | .run pl p=>pl.length+p.len
 | .fork m _ _=>m+1
def zeq(ops:Array Oper)(isB:Nat->Bool):List (Nat×Bool)->Array Bool->Option (Array Bool)
 | [],l=>some l
 | (i,true)::pl,l=>if (rdy ops l).contains i && Region.free .any ops l i && !isB i then zeq ops isB pl (l.setIfInBounds i true) else .none
 | (i,false)::pl,l=>if rdy ops l==[i] then zeq ops isB pl (l.setIfInBounds i true) else .none
def zix(ops:Array Oper)(isB:Nat->Bool):Pln->Array Bool->Bool
 | .fin,l=>(rdy ops l).isEmpty
 | .run pl p,l=>match zeq ops isB pl l with|some l'=>zix ops isB p l'| .none=>false
 | .fork m is p,l=>(rdy ops l==is) && !is.isEmpty && is.all fun i=>(p i).len==m && zix ops isB (p i) (l.setIfInBounds i true)
section
variable {P : Program} {ops : Array Oper} {n : Nat} {isB : Nat -> Bool} {K : Sto -> World -> Prop} {S : Nat -> Prop}
theorem zg6(hsel:Region.noSelect ops=true)(hB:zdK ops isB=true){f:Nat}{l':Array Bool}:∀(pl:List (Nat×Bool)) (l:Array Bool) (σ:Sto) (w:World),zcn ops l->
  zeq ops isB pl l=some l'->zfL P ops n S isB pl σ w (fun σ' w'=>zcn ops l'->anyK P ops n isB K (Keep S w') f l' σ' w')->anyK P ops n isB K (Keep S w) (pl.length+f) l σ w
 | [],l,σ,w,hcl,hp,h=>by
  cases hp;rw[List.length_nil,yn0];exact h hcl
 | (i,true)::pl,l,σ,w,hcl,hp,h=>by
  unfold zeq at hp
  split at hp
  ·rename_i hc;simp only[Bool.and_eq_true,Bool.not_eq_true',List.contains_iff_mem]at hc;obtain⟨⟨hr,hfree⟩,hni⟩:=hc;obtain⟨v,hq,h⟩:=h;obtain⟨_,oi,hoi,_⟩:=mem_ready.1 hr;have hd:ziH ops i=oi.dst:=by simp[ziH,hoi]
   rw[hd]at h;have:=zgx hoi hsel hB hni (pl.length+f) (Keep S w) l σ w hcl (Region.free_spec hoi hfree) hr hq (Keep.refl S w)
    (zg6 hsel hB pl _ _ w (zbH hcl hr) hp h)
   rwa [show ((i,true)::pl).length+f=(pl.length+f)+1 from by simp;omega]
  ·cases hp
 | (i,false)::pl,l,σ,w,hcl,hp,h=>by
  unfold zeq at hp
  split at hp
  ·rename_i hr;rw[beq_iff_eq]at hr;have hmem:i∈rdy ops l:=by rw[hr];exact List.mem_singleton.2 rfl
   rw[show ((i,false)::pl).length+f=(pl.length+f)+1 from by simp;omega];refine⟨fun h0=>(by rw[hr]at h0;cases h0),fun j hj=>?_⟩;rw[hr]at hj;obtain rfl:=List.mem_singleton.1 hj;refine zb5 (fun σ' w' ⟨hor,hk⟩=>?_) h;have hrec:=zg6 hsel hB pl _ σ' w' (zbH hcl hmem) hp hk;cases hb:isB j with
   |true=>exact .inl ⟨rfl,zcR _ _ _ _ _ hrec⟩
   |false=>
    rw[hb]at hor;have hkeep:=hor.resolve_left (by simp);exact .inr ⟨rfl,Keep S w',fun x hx=>hkeep.trans hx,Keep.refl S w',hrec⟩
  ·cases hp
def zjw(P:Program)(ops:Array Oper)(n:Nat)(S:Nat->Prop)(isB:Nat->Bool)(K:Sto->World->Prop):Pln->Sto->World->Prop
 | .fin,σ,w=>K σ w
 | .run pl p,σ,w=>zfL P ops n S isB pl σ w (fun σ' w'=>zjw P ops n S isB K p σ' w')
 | .fork _ is p,σ,w=>∀i∈is,opAt P ops n i σ w (fun σ' w'=>(isB i=true\/Keep S w w')/\zjw P ops n S isB K (p i) σ' w')
theorem zdA{K K':Sto->World->Prop}(hk:∀σ w,K σ w->K' σ w):∀(pl:List (Nat×Bool)) (σ:Sto) (w:World),zfL P ops n S isB pl σ w K->zfL P ops n S isB pl σ w K'
 | [],σ,w,h=>hk σ w h
 | (i,true)::pl,σ,w,⟨v,h1,h2⟩=>⟨v,h1,zdA hk pl _ _ h2⟩
 | (i,false)::pl,σ,w,h=>zb5 (fun σ' w' ⟨h1,h2⟩=>⟨h1,zdA hk pl _ _ h2⟩) h
theorem zdl(hsel:Region.noSelect ops=true)(hB:zdK ops isB=true):∀(p:Pln) (l:Array Bool) (σ:Sto) (w:World),zcn ops l->
  zix ops isB p l=true->zjw P ops n S isB K p σ w->anyK P ops n isB K (Keep S w) p.len l σ w
 | .fin,l,σ,w,_,hp,h=>⟨by simpa [zix] using hp,h⟩
 | .run pl p,l,σ,w,hcl,hp,h=>by
  unfold zix at hp
  split at hp
  ·rename_i l' hl';exact zg6 hsel hB pl l σ w hcl hl' (zdA (fun σ' w' hk hcl'=>zdl hsel hB p l' σ' w' hcl' hp hk) pl σ w h)
  ·cases hp
 | .fork m is p,l,σ,w,hcl,hp,h=>by
  simp only[zix,Bool.and_eq_true,beq_iff_eq,List.all_eq_true,Bool.not_eq_true']at hp;obtain⟨⟨hr,hne⟩,hall⟩:=hp;refine⟨fun h0=>(by rw[hr]at h0;subst h0;cases hne),fun j hj=>?_⟩;have hj':=hj;rw[hr]at hj';obtain⟨hlen,hpj⟩:=hall j hj';refine zb5 (fun σ' w' ⟨hor,hk⟩=>?_) (h j hj');have hrec:=zdl hsel hB (p j) _ σ' w' (zbH hcl hj) hpj hk;rw[hlen]at hrec;cases hb:isB j with
  |true=>exact .inl ⟨rfl,zcR _ _ _ _ _ hrec⟩
  |false=>
   rw[hb]at hor;have hkeep:=hor.resolve_left (by simp);exact .inr ⟨rfl,Keep S w',fun x hx=>hkeep.trans hx,Keep.refl S w',hrec⟩
end
def treeOk(ops:Array Oper)(isB:Nat->Bool)(p:Pln):Bool:=
 Region.noSelect ops && za0 ops && zdK ops isB && decide (p.len=ops.size) && zix ops isB p (Array.replicate ops.size false)
def allL{α:Type}:List α->(α->Prop)->Prop
 | [],_=>True
 | [a],f=>f a
 |a::l,f=>f a/\allL l f
theorem zjH{α:Type}{f:α->Prop}:∀{l:List α},allL l f->∀a∈l,f a
 | [],_,a,h=>by cases h
 | [b],h,a,ha=>by rw[List.mem_singleton.1 ha];exact h
 |b::c::l,h,a,ha=>by
  rcases List.mem_cons.1 ha with rfl|ha
  ·exact h.1
  ·exact zjH h.2 a ha
def zg2(P:Program)(gd:Nat->Option Tmp)(ops:List Oper)(n:Nat)(S:Nat->Prop)(isB:Nat->Bool):Pln->Sto->World->(Sto->World->Prop)->Prop
 | .fin,σ,w,K=>K σ w
 | .run pl p,σ,w,K=>zbY P gd ops n S isB pl σ w (fun σ' w'=>zg2 P gd ops n S isB p σ' w' K)
 | .fork _ is p,σ,w,K=>allL is fun i=>zbY P gd ops n S isB [(i,false)] σ w (fun σ' w'=>zg2 P gd ops n S isB (p i) σ' w' K)
section
variable {P : Program} {n : Nat} {S : Nat -> Prop} {isB : Nat -> Bool} {K : Sto -> World -> Prop}
theorem zdT{ops:Array Oper}:∀(p:Pln) (σ:Sto) (w:World),zg2 P (dstL ops.toList) ops.toList n S isB p σ w K->zjw P ops n S isB K p σ w
 | .fin,_,_,h=>h
 | .run pl p,σ,w,h=>zdA (fun σ' w' hk=>zdT p σ' w' hk) pl σ w (zbD pl σ w h)
 | .fork m is p,σ,w,h=>fun i hi=>by
  have:=zbD _ σ w (zjH h i hi);exact zb5 (fun σ' w' ⟨h1,h2⟩=>⟨h1,zdT (p i) σ' w' h2⟩) this
variable {r : Option Nat} {Q : Post} {σ : Sto} {ds : List Deferred} {w : World}
theorem zeT{id:Nat}{ops:Array Oper}(isB:Nat->Bool)(p:Pln)(S:Nat->Prop)
  (hm:P.follows .mixedOrders=true) (hok:treeOk ops isB p=true)
  (h:∀(gd:Nat->Option Tmp) (K:Sto->World->Prop) (x:World),gd=dstL ops.toList->Keep S w x->x=w.drew->(∀σ' w',Q .normal σ' ds w'->K σ' w')->zg2 P gd ops.toList n S isB p σ x K):
  W P r n (.region id ops true) Q σ ds w:=by
 simp only[treeOk,Bool.and_eq_true,ydT]at hok;obtain⟨⟨⟨⟨h1,h2⟩,h3⟩,h4⟩,h5⟩:=hok;refine wpIn_region_any hm ?_;have:=zdl (K:=fun σ w=>Q .normal σ ds w) h1 h3 p _ σ w.drew (zeO ops) h5 (zdT p σ w.drew (h _ _ _ rfl (Keep.drew S w) rfl (fun _ _ h=>h)));rw[h4]at this;exact zbJ h2 (fun σ w hk=>⟨σ,ds,rfl,hk⟩) _ _ _ _ (zcR _ _ _ _ _ this)
variable {gd : Nat -> Option Tmp} {ops : List Oper}
theorem zl4:zg2 P gd ops n S isB .fin σ w K=K σ w:=nr rfl
theorem zl3(pl:List (Nat×Bool))(p:Pln):zg2 P gd ops n S isB (.run pl p) σ w K=zbY P gd ops n S isB pl σ w (fun σ' w'=>zg2 P gd ops n S isB p σ' w' K):=nr rfl
theorem zkd(m:Nat)(is:List Nat)(p:Nat->Pln):zg2 P gd ops n S isB (.fork m is p) σ w K=allL is fun i=>zbY P gd ops n S isB [(i,false)] σ w (fun σ' w'=>zg2 P gd ops n S isB (p i) σ' w' K):=nr rfl
end
section
variable {α : Type} {f : α -> Prop} {a b : α} {l : List α}
theorem zbl:allL [a] f=f a:=nr rfl
theorem za5:allL (a::b::l) f=(f a/\allL (b::l) f):=nr rfl
end
def zbE(n:Nat):Nat->Prop:=fun b=>n<=b
theorem Ext.keep{S:Nat->Prop}{w x:World}(h:Ext w x):Keep S w x:=h.mono (fun _ _ h=>h.elim)
attribute [go_sem ↓] zl4 zl3 zkd
set_option maxRecDepth 10000
theorem zdC{n0:Nat}{C:Nat->Prop}{w x:World}(hk:KeepB n0 C w x){a:Addr}(hn:a.block<n0)(hC:¬C a.block){v:Value}(h:w.cell? a=some v):x.cell? a=some v:=by
 rw[←h];exact World.cell?_of_block (w:=w) (hk.block a.block hn hC)
theorem cell_ext{w x:World}(hk:Ext w x){a:Addr}{v:Value}(h:w.cell? a=some v):x.cell? a=some v:=zdi hk (fun h=>h) h
theorem zal{α:Type}{l:List α}{i:Nat}(h:i<l.length):l.take (i+1)=l.take i++ [l[i]]:=by
 rw[List.take_succ_eq_append_getElem h]
theorem zd4{α:Type}{l:List α}{i:Nat}(h:i<l.length):l=l.take i++l[i]::l.drop (i+1):=by
 rw[←List.drop_eq_getElem_cons h,List.take_append_drop]
theorem zeG{α:Type}{l:List α}{pre suf:List (α×Nat)}{x:α×Nat}(h:l.zipIdx=pre++x::suf):∃hk:pre.length<l.length,x=(l[pre.length],pre.length):=by
 have hk:pre.length<l.length:=by have:=congrArg List.length h;simp at this;omega
 refine⟨hk,?_⟩;have h1:l.zipIdx[pre.length]? =some x:=by rw[h];simp
 rw[List.getElem?_zipIdx]at h1;simp[hk]at h1;exact h1.symm
def zl1(p:UInt8×Nat)(_:World)(args:Array Value):Prop:=args=#[vi p.2,zaf p.1]
theorem zj2{W0:World}{n0:Nat}{C:Nat->Prop}{b:Nat}{l:List UInt8}(hb:W0.cell? ⟨b,0,.none⟩=some (vs l))(hbn:b<n0)(hbC:¬C b)(hl:l.length<=9000000000000000000):
  Iter Tryz.prog 207 #[.pointer (some ⟨b,0,.none⟩)] W0 n0 C l.zipIdx zl1:=by
 intro lp J Jx W hW hnW hJ hJx hY h0;refine enter Tryz.func207 Tryz.ntmps207 rfl rfl ?_;repeat (first|refine c_r ?_|refine rg0 ?_)
 refine zao (fun m σ ds v=>ds=[]/\∃i,i+m=l.length/\σ 3=vi i/\σ 0= .func (.yield lp) #[] #[]/\σ 1= .pointer (some ⟨b,0,.none⟩)/\J (l.zipIdx.take i) v/\KeepB n0 C W v) l.length ?_ ?_
 ·refine⟨rfl,0,by omega,?_,?_,?_,by simpa using h0,KeepB.refl _ _ _⟩<;>simp only[go_sem]<;>rfl
 ·rintro m σ ds v ⟨rfl,i,him,h3,hf0,hf1,hj,hK0⟩;have hcell:zad v (some ⟨b,0,.none⟩)=some (vs l):=zdC hK0 hbn hbC (cell_ext hW hb);repeat refine c_r ?_
  refine rg4 h3 hf0 hf1 hcell ?_;refine wc0 ?_ ?_
  ·intro hlt;simp only[ydT]at hlt;have hi:i<l.zipIdx.length:=by simp;omega
   repeat refine c_r ?_
   refine rq ?_;intro gd K hgd hK;try simp (disch:=first|omega|assumption|rfl) only[go_sem,h3,hf0,hf1,hcell]
   refine Yld.mono (hY (l.zipIdx.take i) l.zipIdx[i] (l.zipIdx.drop (i+1)) v _ (zd4 hi) hj hK0 (by simp[zl1,zaf])) ?_;rintro u x (⟨rfl,hj',hk'⟩| ⟨rfl,hjx⟩)
   ·try simp only[go_sem]
    refine hK _ _ ?_;clear hK hgd;clear K;try clear gd
    repeat refine c_r ?_
    refine wc0 ?_ ?_
    ·intro h;simp at h
    ·intro _;repeat refine c_r ?_
     refine rg1 h3 ?_;refine zas ?_;refine⟨m - 1,by omega,rfl,i+1,by omega,?_,?_,?_,?_,hK0.trans hk'⟩
     ·simp only[go_sem];rfl
     ·simp only[go_sem,hf0]
     ·simp only[go_sem,hf1]
     ·rw[zal hi];exact hj'
   ·try simp only[go_sem]
    refine hK _ _ ?_;clear hK hgd;clear K;try clear gd
    repeat refine c_r ?_
    refine wc0 ?_ ?_
    ·intro _;repeat refine c_r ?_
     refine zaC (by simp) rfl (.inr ⟨_,_,_,zd4 hi,hjx⟩)
    ·intro h;simp at h
  ·intro hge;simp only[ydF]at hge;repeat refine c_r ?_
   refine zaC (by simp) rfl (.inl ?_);have:l.zipIdx.take i=l.zipIdx:=List.take_of_length_le (by simp;omega);rw[this]at hj;exact hj
theorem zhC(w:World)(l:List UInt8)(hl:l.length<=9000000000000000000):Fn Tryz.prog 152 #[vs l] w (fun v w'=>Ext w w'/\∃cap,v= .func (.func 207) #[] cap/\
  ∀C:Nat->Prop,(∀b,C b->b<w.heap.size)->Iter Tryz.prog 207 cap w' w'.heap.size C l.zipIdx zl1):=by
 refine enter Tryz.func152 Tryz.ntmps152 rfl rfl ?_;refine gz0 ?_;refine rt0 Tryz.ntmps152 ?_;refine⟨Ext.alloc _ _,_,rfl,fun C hC=>zj2 ?_ (by simp) (fun h=>by have:=hC _ h;omega) hl⟩;rw[zbN (zau _ _)];rfl
def zf6(c:UInt8):UInt8:=if 65<=c/\c<=90 then c+32 else c
def zbf(l:List UInt8):List UInt8:=l.map zf6
def zbj(l:List UInt8)(k:Nat):List UInt8:=zbf (l.take k)++l.drop k
theorem zdS{l:List UInt8}{k:Nat}(hk:k<l.length):(zbj l k).set k (zf6 l[k])=zbj l (k+1):=by
 unfold zbj zbf;have e:(List.map zf6 (l.take k)).length=k:=by simp;omega
 rw[zal hk,List.map_append,List.set_append_right _ _ (by omega),e,Nat.sub_self,List.drop_eq_getElem_cons hk,List.set_cons_zero];simp
theorem zkb(l:List UInt8)(k:Nat):(zbj l k).length=l.length:=by simp[zbj,zbf];omega
theorem zgZ{c:UInt8}(h:65<=c/\c<=90):zf6 c=c+32:=if_pos h
theorem ze7{c:UInt8}(h:¬(65<=c/\c<=90)):zf6 c=c:=if_neg h
theorem zfH{l:List UInt8}{k:Nat}(hk:k<l.length)(h:¬(65<=l[k]/\l[k]<=90)):zbj l k=zbj l (k+1):=by
 rw[←zdS hk,ze7 h];apply List.ext_getElem?;intro j;rw[List.getElem?_set]
 split
 ·rename_i hj;subst hj;rw[if_pos (by rw[zkb];exact hk)];unfold zbj zbf;have e:(List.map zf6 (l.take k)).length=k:=by simp;omega
  rw[List.getElem?_append_right (by omega),e];simp[hk]
 ·rfl
theorem zfc(w:World)(l:List UInt8)(hl:l.length<=9000000000000000000):Fn Tryz.prog 97 #[vs l] w (fun v w'=>v=vs (zbf l)/\Ext w w'):=by
 refine enter Tryz.func97 Tryz.ntmps97 rfl rfl ?_;refine gz0 ?_;refine rq ?_;intro gd K hgd hK;try simp only[go_sem]
 refine zjy rfl rfl rfl vq0 ?_;intro c cur w1 hlc hcur htake hE1 hsz1 hb1;try simp only[go_sem]
 refine zda rfl rfl rfl (zau _ _) (by simp) (by simp) ?_;intro w2 hsz2 hb2 hk2;simp only[World.size_alloc]at hsz2 hb2 hk2;have hE2:Ext w w2:=hE1.trans (Keep.to_ext (Ext.alloc w1 _) rfl (fun b hb=>by omega) hk2);have hgb:w2.heap[w.heap.size]? =some (.cells cur 5 (c,c+1)):=(hk2.block _ (by simp;omega) (by omega)).trans ((RowKit.Below.heap_alloc _ _ _ (by omega)).trans hb1);rw[hsz1]at hsz2 hb2 ⊢;simp at hb2;clear hk2 hb1;apply hK;refine rqz ?_;intro gd K hgd hK;try simp only[go_sem]
 refine Fn.mono (zhC _ _ hl) ?_;rintro _ w3 ⟨hE3,cap,rfl,hit⟩;try simp only[go_sem]
 refine en hK ?_;have hE3':=hE2.trans hE3;have hsz3:=hE3.size;refine zdW (g:=207) (cap:=cap) vq0 rfl (hit (fun b=>b=w.heap.size) (fun b hb=>by omega)) (Keep.refl _ _) (ynl _) (fun b hb=>by omega)
  (fun x A args h=>by rw[h];rfl)
  (fun pre A=>Ext w A/\A.heap[w.heap.size+1]? =some (.cells #[.slice (some ⟨w.heap.size,0,.none⟩) l.length c] 90 (0,0))/\
   ∃cur:Array Value,cur.size=c/\cur.toList.take l.length=(zbj l pre.length).map zaf/\A.heap[w.heap.size]? =some (.cells cur 5 (c,c+1)))
  (fun _ _ _=>False) ?_ (fun _ _ _ _ h _=>h.elim) ?_ ?_ ?_ (fun _ _ _ _ _ _ _ h _=>h.elim)
 ·rintro pre A B ⟨h1,h2,cu,h3,h4,h5⟩ hk;have ne1:¬two w3.heap.size (w.heap.size+1):=by unfold two;omega
  have ne2:¬two w3.heap.size w.heap.size:=by unfold two;omega
  exact⟨Keep.to_ext h1 rfl (fun b hb=>by unfold two at hb;omega) hk,(hk.block _ (Array.getElem?_eq_some_iff.1 h2).1 ne1).trans h2,cu,h3,h4,
   (hk.block _ (Array.getElem?_eq_some_iff.1 h5).1 ne2).trans h5⟩
 ·refine⟨hE3',(hE3.block _ (by omega) (fun h=>h)).trans hb2,cur,hcur,?_,(hE3.block _ (by omega) (fun h=>h)).trans hgb⟩;simpa [zbj,zbf] using htake
 ·rintro lp pre x suf A args hxs hszA ⟨hEA,hbox,cu,hcu,hpre,hrow⟩ rfl;obtain⟨hk,rfl⟩:=zeG hxs
  dsimp only
  repeat (first|refine c_r ?_| (refine zb7 (by rfl) ?_;intro gd K hgd hK;simp (disch:=first|omega|assumption|rfl) only[go_sem,zaf];refine hK _ _ ?_;clear hK hgd;clear K gd))
  refine⟨rfl,KeepB.refl _ _ _,fun A2 hA2=>?_⟩;have ne1:¬two w3.heap.size (w.heap.size+1):=by unfold two;omega
  have ne2:¬two w3.heap.size w.heap.size:=by unfold two;omega
  have hbox2:=(hA2.block _ (Array.getElem?_eq_some_iff.1 hbox).1 ne1).trans hbox;have hrow2:=(hA2.block _ (Array.getElem?_eq_some_iff.1 hrow).1 ne2).trans hrow;have hE2':Ext w A2:=Keep.to_ext hEA rfl (fun b hb=>by unfold two at hb;omega) hA2;have hs2:=hA2.size;clear hbox hrow hA2 hit hb2 hgb;have hcu':cu[pre.length]? =some (zaf (l[pre.length])):=by
   have:(cu.toList.take l.length)[pre.length]? =some (zaf (l[pre.length])):=by
    rw[hpre,List.getElem?_map];unfold zbj;rw[List.getElem?_append_right (by simp[zbf];omega)];have e:(zbf (l.take pre.length)).length=pre.length:=by simp[zbf];omega
    rw[e];simp[hk]
   rw[List.getElem?_take,if_pos hk]at this;simpa using this
  have hbit:∀u:UInt8,(65<=u↔(65:Int)<=u.toNat)/\(u<=90↔(u.toNat:Int)<=90):=fun u=>by
   rw[UInt8.le_iff_toNat_le,UInt8.le_iff_toNat_le];constructor
   ·show 65<=u.toNat↔_;omega
   ·show u.toNat<=90↔_;omega
  have hkeep:∀B,A2=B->¬(65<=l[pre.length]/\l[pre.length]<=90)->(Ext w B/\B.heap[w.heap.size+1]? =some (.cells #[.slice (some ⟨w.heap.size,0,.none⟩) l.length c] 90 (0,0))/\
   ∃cur:Array Value,cur.size=c/\cur.toList.take l.length=(zbj l (pre++ [(l[pre.length],pre.length)]).length).map zaf/\B.heap[w.heap.size]? =some (.cells cur 5 (c,c+1)))/\
    KeepB (w3.heap.size+2) (fun b=>b=w.heap.size) A2 B:=by
   rintro B rfl hno;refine⟨⟨hE2',hbox2,cu,hcu,?_,hrow2⟩,KeepB.refl _ _ _⟩;rw[hpre,zfH hk hno];simp
  generalize hcc:l[pre.length]=cc at*;refine rqz ?_;intro gd K hgd hK;have hg2:=gk 2 14 hgd rfl;by_cases h65:(65:Int)<=cc.toNat
  ·try simp (disch:=first|omega|assumption|rfl) only[go_sem,hg2,zaY,zcf,zfU,yet h65,beq_self_eq_true]
   apply hK;refine wcz ?_ ?_
   ·intro h90;simp only[ydT]at h90;have hc1:zad A2 (some ⟨w.heap.size+1,0,.none⟩)=some (.slice (some ⟨w.heap.size,0,.none⟩) l.length c):=by
     show A2.cell? _=_;rw[zbN hbox2];rfl
    refine rqz ?_;intro gd K hgd hK;refine sgz hc1 ?_;refine zda rfl rfl rfl hrow2 (by omega) (by simp;omega) ?_;intro w5 hsz5 hb5 hk5;refine en hK ?_;have hset:((zbj l pre.length).map zaf).set pre.length (.int .u8 (↑cc.toNat+97 - 65))=(zbj l (pre.length+1)).map zaf:=by
     rw[←zdS hk,hcc,List.map_set]
     congr 1
     rw[zgZ ⟨(hbit cc).1.2 h65,(hbit cc).2.2 h90⟩];unfold zaf
     congr 1
     have:(cc+32).toNat=cc.toNat+32:=by
      rw[UInt8.toNat_add];show(cc.toNat+32) % 256=_;omega
     rw[this];push_cast;omega
    refine⟨⟨Keep.to_ext hE2' rfl (fun b hb=>by omega) hk5,?_,cu.setIfInBounds pre.length (.int .u8 (↑cc.toNat+97 - 65)),by simpa using hcu,?_,hb5⟩,hk5.toB (by omega) (fun i _ h=>h)⟩
    ·exact(hk5.block _ (by omega) (by omega)).trans hbox2
    ·rw[Array.toList_setIfInBounds,List.take_set,hpre,hset];simp
   ·intro h90;simp only[ydF]at h90;repeat refine c_r ?_
    exact hkeep _ rfl (fun h=>h90 ((hbit cc).2.1 h.2))
  ·try simp (disch:=first|omega|assumption|rfl) only[go_sem,hg2,zaY,zcf,zfU,yef h65,beq_self_eq_true]
   apply hK;refine wcz ?_ ?_
   ·intro h;simp at h
   ·intro _;repeat refine c_r ?_
    exact hkeep _ rfl (fun h=>h65 ((hbit cc).1.1 h.1))
 ·rintro w4 hsz4 ⟨hE4,hbox,cu,hcu,hpre,hrow⟩ hD;have hc1:zad w4 (some ⟨w.heap.size+1,0,.none⟩)=some (.slice (some ⟨w.heap.size,0,.none⟩) l.length c):=by
   show w4.cell? _=_;rw[zbN hbox];rfl
  have hfull:zbj l l.zipIdx.length=zbf l:=by simp[zbj]
  rw[hfull]at hpre;have hlen:(zbf l).length=l.length:=by simp[zbf]
  refine rqz ?_;intro gd K hgd hK;refine sgz hc1 ?_;rw[←hlen];refine zbh rfl rfl rfl vq0 ?_ ?_
  ·intro j hj;rw[hlen]at hj;rw[za6];show w4.cell? _=_;rw[zbN hrow];have:(cu.toList.take l.length)[j]? =some (zaf ((zbf l)[j]'(by omega))):=by
    rw[hpre,List.getElem?_map,List.getElem?_eq_getElem (by omega)];rfl
   rw[List.getElem?_take,if_pos hj]at this;simpa using this
  try simp only[go_sem]
  refine en hK ?_;refine zd6 (by simp) rfl Tryz.ntmps97 (by simp only[go_sem];rfl) hD ?_;intro w5 hk5 _;exact⟨rfl,Keep.to_ext hE4 rfl (fun b hb=>by omega) hk5⟩
def zan(w:World)(p:Option Addr)(k:Nat):Option (List Value):=p.bind fun a=>zaQ w a 0 k
theorem zlC{P:Program}{w:World}{t:TypeId}{p:Option Addr}(hA:tyA P t=true):ldA P w t p=(zan w p (tyS P t)).map fun l=> .agg l.toArray:=by
 cases p with
 |none=>rfl
 |some a=>simp[ldA,ldP,ldV,hA,zan]
theorem zeP{w:World}{b o:Nat}{cur:Array Value}{e:TypeId}{fr:Nat×Nat}(h:w.heap[b]? =some (.cells cur e fr)):∀(k i:Nat),o+i+k<=cur.size->
  zaQ w ⟨b,o,.none⟩ i k=some ((cur.toList.drop (o+i)).take k)
 |0,_,_=>by simp[zaQ]
 |k+1,i,hk=>by
  unfold zaQ;rw[zfb,zbN h,zeP h k (i+1) (by omega)];have hlt:o+i<cur.size:=by omega
  have hd:=List.drop_eq_getElem_cons (l:=cur.toList) (i:=o+i) (by simpa using hlt);rw[Array.getElem?_eq_getElem hlt,hd,List.take_succ_cons]
  rfl
theorem zaM{w:World}{b o k:Nat}{cur:Array Value}{e:TypeId}{fr:Nat×Nat}(h:w.heap[b]? =some (.cells cur e fr))(hk:o+k<=cur.size):
  zan w (some ⟨b,o,.none⟩) k=some ((cur.toList.drop o).take k):=by
 have:=zeP (o:=o) h k 0 (by omega);simpa [zan] using this
theorem ziM{S:Nat->Prop}{w x:World}(hk:Keep S w x){p:Option Addr}(hS:offS S p){k:Nat}{l:List Value}(h:zan w p k=some l):zan x p k=some l:=by
 cases p with
 |none=>cases h
 |some a=>exact zdU hk (hS a rfl) k 0 l h
theorem zac{w x:World}(hk:Ext w x){p:Option Addr}{k:Nat}{l:List Value}(h:zan w p k=some l):zan x p k=some l:=
 ziM hk (by simp[offS,NoS]) h
theorem zak{w:World}{a:Option Addr}{j k:Nat}{l:List Value}(h:zan w (adr a j) k=some l):a.isSome=true:=by
 cases a with
 |none=>simp[zan,adr]at h
 |some a=>rfl
theorem zgv{w:World}{a:Addr}:∀{k i:Nat} {l:List Value},zaQ w a i k=some l->l.length=k
 |0,_,l,h=>by simp[zaQ]at h;subst h;rfl
 |k+1,i,l,h=>by
  unfold zaQ at h
  split at h
  ·rename_i v l' h1 h2;cases h;simp[zgv h2]
  ·cases h
theorem zkk{w:World}{p:Option Addr}{k:Nat}{l:List Value}(h:zan w p k=some l):l.length=k:=by
 cases p with
 |none=>cases h
 |some a=>exact zgv h
theorem zeB{w:World}{a:Addr}:∀{k i:Nat} {l:List Value},zaQ w a i k=some l->∀(j:Nat) (h:j<l.length),w.cell? (a.add (i+j))=some l[j]
 |0,_,l,h,j,hj=>by simp[zaQ]at h;subst h;simp at hj
 |k+1,i,l,h,j,hj=>by
  unfold zaQ at h
  split at h
  ·rename_i v l' h1 h2;cases h;cases j with
   |zero=>exact h1
   |succ j=>
    have:=zeB h2 j (by simpa using hj);rw[show i+(j+1)=i+1+j from by omega];exact this
  ·cases h
theorem zch{w:World}{p:Option Addr}{k:Nat}{l:List Value}(h:zan w p k=some l){j:Nat}(hj:j<l.length):zad w (adr p j)=some l[j]:=by
 cases p with
 |none=>cases h
 |some a=>
  have:=zeB (i:=0) h j hj;rw[yn0]at this;exact this
def RowK(k:Nat)(w:World)(v:Value)(L:List (List Value)):Prop:=
 ∃a c,v= .slice a L.length c/\L.length<=c/\∀j (h:j<L.length),zan w (adr a (j*k)) k=some L[j]
theorem RowK.ext{k:Nat}{w x:World}{v:Value}{L:List (List Value)}(h:RowK k w v L)(hE:Ext w x):RowK k x v L:=by
 obtain⟨a,c,rfl,hc,hl⟩:=h;exact⟨a,c,rfl,hc,fun j hj=>zac hE (hl j hj)⟩
/-! ### a block of elements -/
structure SD(k:Nat)(w:World)(b:Nat)(e:TypeId)(cap:Nat)(D:List (List Value)):Prop where
 lies:∃cur:Array Value,∃R:List Value,w.heap[b]? =some (.cells cur e (0,0))/\cur.toList=D.flatten++R/\cur.size=cap*k
 len:∀x∈D,x.length=k
 ones:∀x∈D,∀v∈x,one v=true
theorem zbG{k:Nat}:∀{D:List (List Value)},(∀x∈D,x.length=k)->D.flatten.length=D.length*k
 | [],_=>by simp
 |x::D,h=>by
  have h1:=h x (List.mem_cons_self ..);have h2:=zbG (D:=D) (fun y hy=>h y (List.mem_cons_of_mem _ hy));rw[List.flatten_cons,List.length_append,h1,h2,List.length_cons,Nat.succ_mul];omega
theorem zg0{k:Nat}{D:List (List Value)}(h:∀x∈D,x.length=k){j:Nat}(hj:j<D.length):D.flatten=(D.take j).flatten++D[j]++(D.drop (j+1)).flatten/\(D.take j).flatten.length=j*k:=by
 constructor
 ·refine(congrArg List.flatten (zd4 hj)).trans ?_;rw[List.flatten_append,List.flatten_cons,yla]
 ·rw[zbG (fun x hx=>h x (List.mem_of_mem_take hx)),List.length_take,Nat.min_eq_left (by omega)]
theorem SD.get{k:Nat}{w:World}{b:Nat}{e:TypeId}{cap:Nat}{D:List (List Value)}(h:SD k w b e cap D){j:Nat}(hj:j<D.length):zan w (some ⟨b,j*k,.none⟩) k=some D[j]:=by
 obtain⟨cur,R,hb,hc,hs⟩:=h.lies;obtain⟨e1,e2⟩:=zg0 h.len hj;have hk:=h.len D[j] (List.getElem_mem hj);have hlen:cur.toList.length=D.flatten.length+R.length:=by rw[hc];simp
 have e3:=congrArg List.length e1;simp only[List.length_append]at e3;have hsz:cur.toList.length=cur.size:=by simp
 rw[zaM hb (by omega),hc,e1,yla,yla,List.drop_left' e2,List.take_left' hk]
theorem zfl{b o:Nat}{e:TypeId}:∀(l:List Value) (i:Nat) (w:World) (A V B:List Value) (cur:Array Value),w.heap[b]? =some (.cells cur e (0,0))->cur.toList=A++V++B->A.length=o+i->V.length=l.length->(∀v∈l,one v=true)->
  ∃w',stC w ⟨b,o,.none⟩ i l=some w'/\w'.heap.size=w.heap.size/\Keep (fun x=>x=b) w w'/\∃cur':Array Value,w'.heap[b]? =some (.cells cur' e (0,0))/\cur'.toList=A++l++B
 | [],i,w,A,V,B,cur,hb,hc,hA,hV,_=>by
  have:V=[]:=List.length_eq_zero_iff.1 hV;subst this;exact⟨w,rfl,rfl,Keep.refl _ _,cur,hb,by simpa using hc⟩
 |v::l,i,w,A,V,B,cur,hb,hc,hA,hV,h1=>by
  cases V with
  |nil=>simp at hV
  |cons u V=>
   have hcl:=congrArg List.length hc;simp only[List.length_append,List.length_cons,Array.length_toList]at hcl;have hlt:o+i<cur.size:=by omega
   have hset:(cur.setIfInBounds (o+i) v).toList=(A++ [v])++V++B:=by
    rw[Array.toList_setIfInBounds,hc,←hA,yla,List.set_append_right _ _ (ynl _),Nat.sub_self];simp
   obtain⟨w',k1,k2,k3,cur',k4,k5⟩:=zfl l (i+1) (w.setCell ⟨b,o+i,.none⟩ v) (A++ [v]) V B _ (zho hb) hset (by rw[List.length_append,hA];rfl) (by simpa using hV) (fun x hx=>h1 x (List.mem_cons_of_mem _ hx));refine⟨w',?_,by rw[k2];simp,(zi9 w b (o+i) v).trans k3,cur',k4,by simpa using k5⟩;unfold stC;rw[zfb,zbN hb,zhJ hb,Array.getElem?_eq_getElem hlt,h1 v (List.mem_cons_self ..)];simpa using k1
theorem SD.set{k:Nat}{w:World}{b:Nat}{e:TypeId}{cap:Nat}{D:List (List Value)}(h:SD k w b e cap D){P:Program}{t:TypeId}{K:Value->World->Prop}{j:Nat}(hj:j<D.length){x:List Value}(hx:x.length=k)(h1:∀v∈x,one v=true)
  (hs:tyS P t=k) (hi:(P.info? t).isSome=true) (hK:∀w',w'.heap.size=w.heap.size->SD k w' b e cap (D.set j x)->Keep (fun i=>i=b) w w'->K undef w'):
  stK P t (.pointer (some ⟨b,j*k,.none⟩)) (.agg x.toArray) w K:=by
 obtain⟨cur,R,hb,hc,hsz⟩:=h.lies;obtain⟨e1,e2⟩:=zg0 h.len hj;have hk:=h.len D[j] (List.getElem_mem hj);rw[e1,yla,yla]at hc;obtain⟨w',k1,k2,k3,cur',k4,k5⟩:=zfl (o:=j*k) x 0 w (D.take j).flatten D[j] ((D.drop (j+1)).flatten++R) cur hb (by rw[hc];simp) (by simpa using e2) (by rw[hk,hx]) h1;refine⟨by simp[Value.cells,hx,hs],hi,w',by simpa [Value.cells] using k1,hK w' k2 ⟨⟨cur',R,k4,?_,?_⟩,?_,?_⟩ k3⟩
 ·have e3:(D.set j x).flatten=(D.take j).flatten++x++(D.drop (j+1)).flatten:=by
   rw[List.set_eq_take_append_cons_drop,if_pos hj];simp
  rw[k5,e3];simp
 ·have l1:=congrArg List.length k5;have l2:=congrArg List.length hc;simp only[List.length_append,Array.length_toList]at l1 l2;omega
 ·intro y hy;rcases List.mem_or_eq_of_mem_set hy with hy|rfl
  ·exact h.len y hy
  ·exact hx
 ·intro y hy;rcases List.mem_or_eq_of_mem_set hy with hy|rfl
  ·exact h.ones y hy
  ·exact h1
theorem SD.keep{k:Nat}{w x:World}{b:Nat}{e:TypeId}{cap:Nat}{D:List (List Value)}{S:Nat->Prop}(h:SD k w b e cap D)(hk:Keep S w x)(hS:¬S b):SD k x b e cap D:=by
 obtain⟨⟨cur,R,hb,hr⟩,h1,h2⟩:=h;exact⟨⟨cur,R,(hk.block _ (Array.getElem?_eq_some_iff.1 hb).1 hS).trans hb,hr⟩,h1,h2⟩
theorem SD.ext{k:Nat}{w x:World}{b:Nat}{e:TypeId}{cap:Nat}{D:List (List Value)}(h:SD k w b e cap D)(hE:Ext w x):SD k x b e cap D:=h.keep hE (fun h=>h)
theorem SD.lt{k:Nat}{w:World}{b:Nat}{e:TypeId}{cap:Nat}{D:List (List Value)}(h:SD k w b e cap D):b<w.heap.size:=by
 obtain⟨cur,R,hb,_⟩:=h.lies;exact(Array.getElem?_eq_some_iff.1 hb).1
def ldAX(P:Program)(w:World)(t:TypeId)(p:Option Addr):Bool->Nat->Option Value
 |true,k=>(zan w p k).map fun l=> .agg l.toArray
 |false,_=>ldP P w t p
theorem ldA_X{P:Program}{w:World}{t:TypeId}(p:Option Addr):ldA P w t p=ldAX P w t p (tyA P t) (tyS P t):=by
 cases hA:tyA P t with
 |true=>exact zlC hA
 |false=>rfl
theorem zlD{P:Program}{w:World}{t:TypeId}(p:Option Addr)(k:Nat):ldAX P w t p true k=(zan w p k).map fun l=> .agg l.toArray:=nr rfl
attribute [go_sem] ldA_X zlD
def zfx(k:Nat):List Value->List (Nat×Value)
 | []=>[]
 |v::l=>(k,v)::zfx (k+1) l
theorem zhN:∀(l:List Value) (k:Nat) (cells:Array Value),(∀v∈l,v.cells=#[v])->k+l.length<=cells.size->
  ∃r,Instr.fill (fun i=>some (i*1,1)) cells (zfx k l)=some r/\r.toList=cells.toList.take k++l++cells.toList.drop (k+l.length)
 | [],k,cells,_,_=>⟨cells,rfl,by simp⟩
 |v::l,k,cells,h,hk=>by
  simp only[List.length_cons]at hk;have hv:=h v (List.mem_cons_self ..);obtain⟨r,h1,h2⟩:=zhN l (k+1) (cells.setIfInBounds k v) (fun u hu=>h u (List.mem_cons_of_mem _ hu)) (by simp;omega);refine⟨r,?_,?_⟩
  ·unfold zfx Instr.fill;simp only[hv,Nat.mul_one];have:¬((#[v]:Array Value).size≠1\/k+(#[v]:Array Value).size>cells.size):=by simp;omega
   rw[if_neg (by simpa using this)];simpa using h1
  ·rw[h2,Array.toList_setIfInBounds,List.take_set,List.drop_set_of_lt (by omega)];have hlt:k<cells.toList.length:=by simp;omega
   rw[zal hlt];have e1:(cells.toList.take k).length=k:=by rw[List.length_take];omega
   rw[List.set_append_right _ _ (by omega),e1,Nat.sub_self,List.set_cons_zero];simp[Nat.add_assoc,Nat.add_comm 1]
section
variable {P : Program} {w : World} {K : Value -> World -> Prop}
theorem zbx{t e:TypeId}{z:Value}{l:List Value}{n:Nat}{parts:List (Nat×Value)}(hn:n=l.length)(hp:parts=zfx 0 l)(hu:tyU P t=some (.slice e))(hz:tyZ P e=some z)(hs:tyS P e=1)(hz1:z.cells=#[z])(hv:∀v∈l,v.cells=#[v])(hl:l.length<=1000000)
  (h:∀w1,Ext w w1->w1.heap.size=w.heap.size+1->Own w.heap.size w1 e (.slice (some ⟨w.heap.size,0,.none⟩) n n) l->K (.slice (some ⟨w.heap.size,0,.none⟩) n n) w1):bsL P t n parts w K .mk:=by
 subst hn hp;unfold bsL bsK;have hsz:((Array.range (l.length*1)).map fun x=>z.cells[x % z.cells.size]!).size=l.length:=by simp
 obtain⟨r,h1,h2⟩:=zhN l 0 ((Array.range (l.length*1)).map fun x=>z.cells[x % z.cells.size]!) hv (by rw[hsz];omega);have hr:r.toList=l:=by
  rw[h2,List.take_zero,List.nil_append,yn0,List.drop_of_length_le (by rw[Array.length_toList,hsz];exact ynl _),List.append_nil]
 have:bsC P t l.length (zfx 0 l)=some (e,r):=by
  unfold bsC;rw[hu];simp only[hz,hs];have c1:(decide (l.length*1<=2 ^ 24) && decide (z.cells.size=1))=true:=by rw[hz1];simp;omega
  rw[c1,cond_true,h1];rfl
 rw[this];have hrs:r.size=l.length:=by rw[←hr];simp
 exact h _ (Ext.alloc w _) (zai w _) ⟨by simp,.inr ⟨w.heap.size,l.length,r,rfl,ynl _,zau w _,ynl _,by simp[maxLen];omega,by simpa using hrs,by rw[hr];simp⟩⟩
end
end Go.Proofs.YtahbdamijngmmaaGreat
