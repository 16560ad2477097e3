/-
  Texts of a proof, joined.
  Conditions: none.
-/
import Derived.Attr
import Derived.Test.YtfacfpcopcgbdaaGreatPBR00
import Derived.Laws.OwnMore
import Derived.Laws.MakeOwn
import Derived.Test.YtfacfpcopcgbdaaGreatProg
import Derived.MapFrom
set_option linter.all false
set_option maxRecDepth 20000
set_option maxHeartbeats 8000000
namespace Go.Proofs.YtfacfpcopcgbdaaGreat
open Go Tryz
variable {w w0 w1 W0 x A:World}{v u lv nv:Value}{cs l:List Value}{B k b i j c m cap:Nat}{t e:TypeId}{a:Option Addr}{S C:Nat->Prop}
section
universe u
theorem nr{α:Sort u}{a b:α}(h:a=b):a=b:=h
/-! what comes behind an operation is left as it is till the operation is known -/
inductive Lck{α β:Type}(a:α)(b:β):Type|mk
def optL(o:Option Value)(w:World)(K:Value->World->Prop)(F:Prop)(_:Lck K F):Prop:=optK o w K F
def okL(o:Option Value)(k:Value->Prop)(_:Lck k k):Prop:=okV o k
def callL(P:Program)(f:Value)(args:Array Value)(w:World)(K:Value->World->Prop)(_:Lck K K):Prop:=zg6 P f args w K
def FnL(P:Program)(f:FuncId)(args:Array Value)(w:World)(K:Value->World->Prop)(_:Lck K K):Prop:=Fn P f args w K
def extL(P:Program)(f:FuncId)(args:Array Value)(w:World)(K:Value->World->Prop)(_:Lck K K):Prop:=extC P f args w K
def callQ(P:Program)(f:FuncId)(args:Array Value)(w:World)(K:Value->World->Prop)(m:Lck K K):Bool->Prop
 |true=>FnL P f args w K m
 |false=>extL P f args w K m
theorem callQ_t(P:Program)(f:FuncId)(args:Array Value)(w:World)(K:Value->World->Prop)(m:Lck K K):callQ P f args w K m true=FnL P f args w K m:=nr rfl
theorem callQ_f(P:Program)(f:FuncId)(args:Array Value)(w:World)(K:Value->World->Prop)(m:Lck K K):callQ P f args w K m false=extL P f args w K m:=nr rfl
theorem zbJ{P:Program}{f:FuncId}{args:Array Value}{K:Value->World->Prop}{m:Lck K K}(h:zaD P f=true)(hF:Fn P f args w K):callQ P f args w K m (zaD P f):=by
 rw[h];exact hF
def stL(P:Program)(t:TypeId)(p v:Value)(w:World)(K:Value->World->Prop)(_:Lck K K):Prop:=stK P t p v w K
def bsL(P:Program)(t:TypeId)(n:Nat)(l:List (Nat×Value))(w:World)(K:Value->World->Prop)(_:Lck K K):Prop:=bsK P t n l w K
def opL(P:Program)(o:Oper)(ρ:Operand->Value)(w:World)(K:Value->World->Prop)(_:Lck K K):Prop:=opW P o ρ w K
def iteL(c:Bool)(a b:Prop)(_:Lck a b):Prop:=if c=true then a else b
theorem iteL_t(a b:Prop)(m:Lck a b):iteL true a b m=a:=nr (by simp[iteL])
theorem iteL_f(a b:Prop)(m:Lck a b):iteL false a b m=b:=nr (by simp[iteL])
section
variable {P : Program} {gd : Nat -> Option Tmp} {n : Nat} {σ : Sto} {w : World}
def getL:List Value->Nat->Value
 | [],_=>undef
 |v::_,0=>v
 |_::l,i+1=>getL l i
theorem zmm(l:List Value)(i:Nat):sto0 l.toArray i=getL l i:=by
 unfold sto0
 induction l generalizing i with
 |nil=>simp[getL]
 |cons v l ih=>
  cases i with
  |zero=>simp[getL]
  |succ i=>simp only[getL,←ih i];simp
theorem opsV_nil{K:Sto->World->Prop}:opsV P gd n [] σ w K=K σ w:=nr rfl
theorem zmW{K:Sto->World->Prop}{d:Option Tmp}{op:Op}{ty:TypeId}{ps:String}{af:Array Edge}{l:List Oper}:
  opsV P gd n (⟨d,op,ty,ps,af,Option.none⟩::l) σ w K=opV P ⟨d,op,ty,ps,af,Option.none⟩ (ev n σ) w (fun v w'=>opsV P gd n l (putS σ d v) w' K):=nr rfl
theorem zlt{K:Sto->World->Prop}{d:Option Tmp}{op:Op}{ty:TypeId}{ps:String}{af:Array Edge}{b:Bool}{l:List Oper}:
  opsV P gd n (⟨d,op,ty,ps,af,some (j,b)⟩::l) σ w K=
   iteL (zfb gd n σ (some (j,b))) (opV P ⟨d,op,ty,ps,af,some (j,b)⟩ (ev n σ) w (fun v w'=>opsV P gd n l (putS σ d v) w' K))
   (opsV P gd n l (putS σ d undef) w K) .mk:=nr rfl
def zdY(v:Value)(b:Bool):Bool:=match v with| .bool c=>c==b|_=>false
def wantO(o:Option Tmp)(n:Nat)(σ:Sto)(b:Bool):Bool:=match o with|some d=>zdY (ev n σ (.tmp d)) b|Option.none=>false
theorem zb8{b:Bool}:zfb gd n σ (some (j,b))=wantO (gd j) n σ b:=by
 unfold zfb ylV wantO
 dsimp only
 cases gd j with
 |none=>rfl
 |some d=>
  dsimp only
  unfold ev zdY;by_cases h:d<n
  ·simp only[h,if_true];cases σ d<;>rfl
  ·simp[h,undef]
theorem zcy{b:Bool}(d:Tmp):wantO (some d) n σ b=zdY (ev n σ (.tmp d)) b:=nr rfl
theorem bi1:zdY (.bool true) true=true:=nr rfl
theorem bi2:zdY (.bool false) true=false:=nr rfl
theorem bi3:zdY (.bool true) false=false:=nr rfl
theorem bi4:zdY (.bool false) false=true:=nr rfl
theorem bq1:(false==true)=false:=nr rfl
theorem bq2:(true==true)=true:=nr rfl
theorem bq3:(true==false)=false:=nr rfl
theorem bq4:(false==false)=true:=nr rfl
theorem m16:(false=true)=False:=sM
theorem zgS(c b:Bool):zdY (.bool c) b=(c==b):=nr rfl
theorem znK{ops:List Oper}{isB:Nat->Bool}{K:Sto->World->Prop}:zcg P gd ops n S isB [] σ w K=K σ w:=nr rfl
theorem ev_tmp(t:Tmp):ev n σ (.tmp t)=if t<n then σ t else undef:=nr rfl
theorem ev_const(v:Value):ev n σ (.const v)=v:=nr rfl
theorem ev_func(f:FuncId):ev n σ (.func f)= .func (.func f) #[] #[]:=nr rfl
theorem upd_at(d:Nat)(v:Value)(i:Nat):upd σ d v i=if i=d then v else σ i:=nr rfl
theorem putS_at(d:Nat)(v:Value)(i:Nat):putS σ (some d) v i=if i=d then v else σ i:=nr rfl
theorem putS_no(v:Value)(i:Nat):putS σ Option.none v i=σ i:=nr rfl
theorem zmP(d:Nat)(v:Value):putS σ (some d) v=upd σ d v:=nr rfl
theorem zmQ(v:Value):putS σ Option.none v=σ:=nr rfl
variable {ρ : Operand -> Value} {K : Value -> World -> Prop} {k : Value -> Prop} {S : Nat -> Prop} {d : Option Tmp} {ty : TypeId} {ps : String} {af : Array Edge} {g : Option (Nat × Bool)}
theorem zmV(v:Value)(alt:Prop):optK (some v) w K alt=K v w:=nr rfl
theorem zmU(v:Value)(alt:Prop)(m:Lck K alt):optL (some v) w K alt m=K v w:=nr rfl
theorem okL_some(v:Value)(m:Lck k k):okL (some v) k m=k v:=nr rfl
theorem okV_some(v:Value):okV (some v) k=k v:=nr rfl
theorem v_move(x:Operand):opV P ⟨d,.move x,ty,ps,af,g⟩ ρ w K=optL (some (ρ x)) w K False .mk:=nr rfl
theorem v_assign(x:Operand):opV P ⟨d,.assign x,ty,ps,af,g⟩ ρ w K=optL (some (ρ x)) w K False .mk:=nr rfl
def pickV:Value->Value->Value->Option Value
 | .bool t,a,b=>some (bif t then a else b)
 |_,_,_=>Option.none
theorem v_pick(c a b:Operand):opV P ⟨d,.pick c a b,ty,ps,af,g⟩ ρ w K=optL (pickV (ρ c) (ρ a) (ρ b)) w K False .mk:=by
 unfold opV;dsimp only;cases ρ c<;>rfl
theorem v_bin(op:BinOp)(t:TypeId)(x y:Operand)(yt:TypeId):
  opV P ⟨d,.binOp op t x y yt,ty,ps,af,g⟩ ρ w K=optL (binV P op t (ρ x) (ρ y)) w K (opW P ⟨d,.binOp op t x y yt,ty,ps,af,g⟩ ρ w K) .mk:=nr rfl
theorem v_un(op:UnOp)(t:TypeId)(x:Operand):opV P ⟨d,.unOp op t x,ty,ps,af,g⟩ ρ w K=optL (unV op (ρ x)) w K (opW P ⟨d,.unOp op t x,ty,ps,af,g⟩ ρ w K) .mk:=nr rfl
def ldVal(P:Program)(w:World)(t:TypeId):Value->Option Value
 | .pointer p=>ldP P w t p
 |_=>Option.none
theorem v_load(t:TypeId)(x:Operand):opV P ⟨d,.load t x,ty,ps,af,g⟩ ρ w K=optL (ldVal P w t (ρ x)) w K False .mk:=by
 unfold opV;dsimp only;cases ρ x<;>rfl
theorem v_store(t:TypeId)(a x:Operand):opV P ⟨d,.store t a x,ty,ps,af,g⟩ ρ w K=stL P t (ρ a) (ρ x) w K .mk:=nr rfl
theorem v_ixA(t:TypeId)(x i:Operand):opV P ⟨d,.indexAddr t x i,ty,ps,af,g⟩ ρ w K=optL (ixA P t (ρ x) (ρ i)) w K (opW P ⟨d,.indexAddr t x i,ty,ps,af,g⟩ ρ w K) .mk:=nr rfl
theorem v_ix(t:TypeId)(x i:Operand):opV P ⟨d,.index t x i,ty,ps,af,g⟩ ρ w K=optL (ixS P t (ρ x) (ρ i)) w K (opW P ⟨d,.index t x i,ty,ps,af,g⟩ ρ w K) .mk:=nr rfl
theorem v_slice(t:TypeId)(x:Operand)(lo hi mx:Option Operand):
  opV P ⟨d,.slice t x lo hi mx,ty,ps,af,g⟩ ρ w K=optL (slV P t (ρ x) (lo.map ρ) (hi.map ρ) (mx.map ρ)) w K (opW P ⟨d,.slice t x lo hi mx,ty,ps,af,g⟩ ρ w K) .mk:=nr rfl
theorem v_ext(x:Operand)(i:Nat):opV P ⟨d,.extract x i,ty,ps,af,g⟩ ρ w K=optL (exV i (ρ x)) w K False .mk:=nr rfl
theorem v_conv(s t:TypeId)(x:Operand):opV P ⟨d,.convert s t x,ty,ps,af,g⟩ ρ w K=optL (cvV P s t (ρ x)) w K (opW P ⟨d,.convert s t x,ty,ps,af,g⟩ ρ w K) .mk:=nr rfl
theorem v_field(s:TypeId)(x:Operand)(f:Nat):opV P ⟨d,.fieldAddr s x f,ty,ps,af,g⟩ ρ w K=optL (fdA P s (ρ x) f) w K (opW P ⟨d,.fieldAddr s x f,ty,ps,af,g⟩ ρ w K) .mk:=nr rfl
def ncV:Value->Option Value
 | .pointer (some a)=>some (.pointer (some a))
 |_=>Option.none
theorem ncV_some{p:Option Addr}(h:p.isSome=true):ncV (.pointer p)=some (.pointer p):=by cases p<;>first|rfl|cases h
theorem ncV_pt(a:Addr):ncV (.pointer (some a))=some (.pointer (some a)):=nr rfl
theorem v_nc(x:Operand):opV P ⟨d,.nilCheck x,ty,ps,af,g⟩ ρ w K↔
  optL (ncV (ρ x)) w K (match ρ x with| .pointer Option.none=>False| .pointer (some _)=>False|_=>opW P ⟨d,.nilCheck x,ty,ps,af,g⟩ ρ w K) .mk:=by
 unfold opV optL optK ncV;dsimp only;cases ρ x<;>first|exact Iff.rfl| (rename_i p;cases p<;>simp)
theorem v_func(fn:Go.Fn)(f c:Array Operand):opV P ⟨d,.makeFunc fn f c,ty,ps,af,g⟩ ρ w K=optL (some (.func fn (f.map ρ) (c.map ρ))) w K False .mk:=nr rfl
theorem v_box(e:TypeId)(x:Operand):opV P ⟨d,.box e x,ty,ps,af,g⟩ ρ w K=K (.pointer (some ⟨w.heap.size,0,Option.none⟩)) (w.alloc (.cells (ρ x).cells e)):=nr rfl
theorem v_alloc(e:TypeId):opV P ⟨d,.alloc e,ty,ps,af,g⟩ ρ w K=(match tyZ P e with|some z=>K (.pointer (some ⟨w.heap.size,0,Option.none⟩)) (w.alloc (.cells z.cells e))|Option.none=>False):=nr rfl
theorem v_map(t:TypeId):opV P ⟨d,.makeMap t Option.none,ty,ps,af,g⟩ ρ w K=K (.map (some w.heap.size)) (w.alloc (.map #[] 0)):=nr rfl
theorem v_build(t:TypeId)(parts:Array (Nat×Operand)):opV P ⟨d,.build t parts,ty,ps,af,g⟩ ρ w K=
  (zbG P t=true/\optL (bdV P t (parts.toList.map fun p=>(p.1,ρ p.2))) w K False .mk):=nr rfl
theorem v_bs(t:TypeId)(m:Nat)(parts:Array (Nat×Operand)):opV P ⟨d,.buildSlice t m parts,ty,ps,af,g⟩ ρ w K=bsL P t m (parts.toList.map fun p=>(p.1,ρ p.2)) w K .mk:=nr rfl
theorem v_call(f:Operand)(args:Array Operand)(ts:Array TypeId):opV P ⟨d,.call ⟨.value f,args,ts⟩,ty,ps,af,g⟩ ρ w K=callL P (ρ f) (args.map ρ) w K .mk:=nr rfl
theorem v_len(x:Operand)(t:TypeId):opV P ⟨d,.call ⟨.builtin .len,#[x],#[t]⟩,ty,ps,af,g⟩ ρ w K=optL (lenV P t (ρ x)) w K (opW P ⟨d,.call ⟨.builtin .len,#[x],#[t]⟩,ty,ps,af,g⟩ ρ w K) .mk:=nr rfl
theorem v_append(a:Array Operand)(t:Array TypeId):opV P ⟨d,.call ⟨.builtin .append,a,t⟩,ty,ps,af,g⟩ ρ w K=opL P ⟨d,.call ⟨.builtin .append,a,t⟩,ty,ps,af,g⟩ ρ w K .mk:=nr rfl
theorem v_copy(a:Array Operand)(t:Array TypeId):opV P ⟨d,.call ⟨.builtin .copy,a,t⟩,ty,ps,af,g⟩ ρ w K=opL P ⟨d,.call ⟨.builtin .copy,a,t⟩,ty,ps,af,g⟩ ρ w K .mk:=nr rfl
theorem v_mkS(t:TypeId)(x y:Operand):opV P ⟨d,.makeSlice t x y,ty,ps,af,g⟩ ρ w K=opL P ⟨d,.makeSlice t x y,ty,ps,af,g⟩ ρ w K .mk:=nr rfl
theorem v_mapU(t:TypeId)(m x y:Operand):opV P ⟨d,.mapUpdate t m x y,ty,ps,af,g⟩ ρ w K=opL P ⟨d,.mapUpdate t m x y,ty,ps,af,g⟩ ρ w K .mk:=nr rfl
theorem v_look(t:TypeId)(x y:Operand)(b:Bool):opV P ⟨d,.lookup t x y b,ty,ps,af,g⟩ ρ w K=opL P ⟨d,.lookup t x y b,ty,ps,af,g⟩ ρ w K .mk:=nr rfl
theorem v_range(t:TypeId)(x:Operand):opV P ⟨d,.range t x,ty,ps,af,g⟩ ρ w K=opL P ⟨d,.range t x,ty,ps,af,g⟩ ρ w K .mk:=nr rfl
theorem v_next(x:Operand)(b:Bool):opV P ⟨d,.next x b,ty,ps,af,g⟩ ρ w K=opL P ⟨d,.next x b,ty,ps,af,g⟩ ρ w K .mk:=nr rfl
theorem zl0(f:FuncId)(first captured args:Array Value):callL P (.func (.func f) first captured) args w K .mk=callQ P f (first++args++captured) w K .mk (zaD P f):=by
 unfold callL zg6
 dsimp only
 cases zaD P f<;>rfl
end
section
variable {P : Program} {t e : TypeId} {k : IntKind} {a b : Int}
theorem b_add:binV P .add t (.int k a) (.int k b)=some (.int k (k.wrap (a+b))):=by simp[binV]
theorem b_sub:binV P .sub t (.int k a) (.int k b)=some (.int k (k.wrap (a - b))):=by simp[binV]
theorem b_mul:binV P .mul t (.int k a) (.int k b)=some (.int k (k.wrap (a*b))):=by simp[binV]
theorem b_lss:binV P .lss t (.int k a) (.int k b)=some (.bool (decide (a<b))):=by simp[binV]
theorem b_leq:binV P .leq t (.int k a) (.int k b)=some (.bool (decide (a<=b))):=by simp[binV]
theorem b_gtr:binV P .gtr t (.int k a) (.int k b)=some (.bool (decide (b<a))):=by simp[binV]
theorem b_geq:binV P .geq t (.int k a) (.int k b)=some (.bool (decide (b<=a))):=by simp[binV]
theorem b_eql:binV P .eql t (.int k a) (.int k b)=some (.bool (decide (a=b))):=by simp[binV]
theorem b_neq:binV P .neq t (.int k a) (.int k b)=some (.bool (!decide (a=b))):=by simp[binV]
theorem b_quo(h:¬b=0):binV P .quo t (.int k a) (.int k b)=some (.int k (k.wrap (a.tdiv b))):=by simp[binV,h]
theorem b_rem(h:¬b=0):binV P .rem t (.int k a) (.int k b)=some (.int k (a.tmod b)):=by simp[binV,h]
theorem b_shr1:binV P .shr t (.int .u64 a) (.int .u64 1)=some (.int .u64 (a.fdiv 2)):=by simp[binV,IntKind.bits]
theorem wrap_u64{x:Int}(h1:0<=x)(h2:x<=18446744073709551615):IntKind.u64.wrap x=x:=by
 simp[IntKind.wrap,IntKind.bits,IntKind.signed];omega
theorem wrap_u32{x:Int}(h1:0<=x)(h2:x<=4294967295):IntKind.u32.wrap x=x:=by
 simp[IntKind.wrap,IntKind.bits,IntKind.signed];omega
theorem fdiv_two(n:Nat):((n:Int)).fdiv 2=((n / 2:Nat):Int):=by
 rw[Int.fdiv_eq_ediv_of_nonneg _ oM];rfl
variable {s u : List UInt8}
theorem zgu:((⟨s.toArray⟩:ByteArray)=⟨u.toArray⟩)↔s=u:=by
 constructor
 ·intro h;have:=congrArg (fun x:ByteArray=>x.data.toList) h;simpa using this
 ·intro h;rw[h]
theorem b_seql:binV P .eql t (vs s) (vs u)=some (.bool (decide (s=u))):=by simp[binV,zgu]
theorem b_sneq:binV P .neq t (vs s) (vs u)=some (.bool (!decide (s=u))):=by simp[binV,zgu]
theorem b_slss:binV P .lss t (vs s) (vs u)=some (.bool (zdX s u)):=by simp[binV]
theorem b_sgtr:binV P .gtr t (vs s) (vs u)=some (.bool (!(zdX s u||decide (s=u)))):=by simp[binV,zgu]
theorem b_sadd(h:s.length+u.length<=9223372036854775807):binV P .add t (vs s) (vs u)=some (vs (s++u)):=by
 have h1:(⟨s.toArray⟩:ByteArray).size=s.length:=rfl;have h2:(⟨u.toArray⟩:ByteArray).size=u.length:=rfl;have h3:IntKind.i64.max=9223372036854775807:=by decide
 have h4:¬(((s.length+u.length:Nat):Int)>9223372036854775807):=oM;simp only[binV,h1,h2,h3,if_neg h4,Option.some.injEq,Value.string.injEq];apply ByteArray.ext;simp
variable {p q : Bool} {x : Option Addr}
def binB(P:Program)(op:BinOp)(t:Option TypeDesc)(p q:Bool):Option Value:=
 match op,t with
 | .eql,some .bool=>some (.bool (p==q))
 | .neq,some .bool=>some (.bool (!(p==q)))
 |_,_=>Option.none
theorem b_bool(op:BinOp):binV P op t (.bool p) (.bool q)=binB P op (tyU P t) p q:=by
 simp only[binV,binB];cases op<;>try rfl
theorem b_beql:binB P .eql (some .bool) p q=some (.bool (p==q)):=nr rfl
theorem b_bneq:binB P .neq (some .bool) p q=some (.bool (!(p==q))):=nr rfl
def binP(op:BinOp)(t:Option TypeDesc)(x:Option Addr):Option Value:=
 match op,t with
 | .eql,some (.pointer _)=>some (.bool x.isNone)
 | .neq,some (.pointer _)=>some (.bool (!x.isNone))
 |_,_=>Option.none
theorem b_ptr(op:BinOp):binV P op t (.pointer x) (.pointer Option.none)=binP op (tyU P t) x:=by
 simp only[binV,binP];cases x<;>cases op<;>try rfl
theorem b_peql:binP .eql (some (.pointer e)) x=some (.bool x.isNone):=nr rfl
theorem b_pneq:binP .neq (some (.pointer e)) x=some (.bool (!x.isNone)):=nr rfl
theorem u_not:unV .not (.bool p)=some (.bool (!p)):=by simp[unV]
theorem u_neg:unV .neg (.int k a)=some (.int k (k.wrap (0 - a))):=by simp[unV]
variable {ad : Option Addr} {n c : Nat} {w : World}
def lenD(o:Option TypeDesc)(v:Value):Option Value:=
 match o,v with
 |some .string,.string s=>some (vi s.size)
 |some (.slice _),.slice _ n _=>some (vi n)
 |some (.array n _),_=>some (vi n)
 |_,_=>Option.none
theorem l_D(v:Value):lenV P t v=lenD (tyU P t) v:=by unfold lenV lenD;rfl
theorem l_slice:lenD (some (.slice e)) (.slice ad n c)=some (.int .i64 n):=nr rfl
theorem l_str:lenD (some .string) (vs s)=some (.int .i64 s.length):=nr rfl
def ixD(P:Program)(o:Option TypeDesc)(x i:Value):Option Value:=
 match o,x,i with
 |some (.slice e),.slice a n _,.int _ j=>if 0<=j/\j<n/\a.isSome=true then(bif (P.info? e).isSome then some (.pointer (adr a (j.toNat*tyS P e))) else Option.none) else Option.none
 |some (.array n e),.pointer a,.int _ j=>if 0<=j/\j<n/\a.isSome=true then(bif (P.info? e).isSome then some (.pointer (adr a (j.toNat*tyS P e))) else Option.none) else Option.none
 |_,_,_=>Option.none
theorem i_D(x i:Value):ixA P t x i=ixD P (tyU P t) x i:=by unfold ixA ixD;rfl
theorem zns{j:Int}(h0:0<=j)(h1:j<n)(h2:ad.isSome=true):
  ixD P (some (.slice e)) (.slice ad n c) (.int k j)=(bif (P.info? e).isSome then some (.pointer (adr ad (j.toNat*tyS P e))) else Option.none):=by simp[ixD,h0,h1,h2]
theorem i_slice1{x:Addr}{j:Int}(h0:0<=j)(h1:j<n):
  ixD P (some (.slice e)) (.slice (some x) n c) (.int k j)=(bif (P.info? e).isSome then some (.pointer (adr (some x) (j.toNat*tyS P e))) else Option.none):=zns h0 h1 rfl
theorem i_array1{x:Addr}{j:Int}(h0:0<=j)(h1:j<m):
  ixD P (some (.array m e)) (.pointer (some x)) (.int k j)=(bif (P.info? e).isSome then some (.pointer (adr (some x) (j.toNat*tyS P e))) else Option.none):=by simp[ixD,h0,h1]
theorem i_array{j:Int}(h0:0<=j)(h1:j<m)(h2:ad.isSome=true):
  ixD P (some (.array m e)) (.pointer ad) (.int k j)=(bif (P.info? e).isSome then some (.pointer (adr ad (j.toNat*tyS P e))) else Option.none):=by simp[ixD,h0,h1,h2]
def ixSD(o:Option TypeDesc)(x i:Value):Option Value:=
 match o,x,i with
 |some .string,.string s,.int _ j=>if 0<=j then(s.data.toList[j.toNat]?).map (fun c=> .int .u8 c.toNat) else Option.none
 |_,_,_=>Option.none
theorem i_SD(x i:Value):ixS P t x i=ixSD (tyU P t) x i:=by unfold ixS ixSD;rfl
theorem i_str{j:Int}(h0:0<=j)(h1:j.toNat<s.length):ixSD (some .string) (vs s) (.int k j)=some (.int .u8 (s[j.toNat]'h1).toNat):=by
 simp[ixSD,h0,h1]
def slD(P:Program)(o:Option TypeDesc)(x:Value)(lo hi mx:Option Value):Option Value:=
 match o,x,mx with
 |some .string,.string s,Option.none=>match slB lo,slH hi s.size with
  |some l,some h=>if l<=h/\h<=s.size then some (.string (s.extract l h)) else Option.none
  |_,_=>Option.none
 |some (.slice e),.slice a n c,_=>match slB lo,slH hi n,slH mx c with
  |some l,some h,some m=>if l<=h/\h<=m/\m<=c/\(mx.isSome=true->hi.isSome=true) then
    (bif (P.info? e).isSome then some (.slice (if m=l then a else adr a (l*tyS P e)) (h - l) (m - l)) else Option.none)
   else Option.none
  |_,_,_=>Option.none
 |_,_,_=>Option.none
theorem s_D(x:Value)(lo hi mx:Option Value):slV P t x lo hi mx=slD P (tyU P t) x lo hi mx:=by unfold slV slD;rfl
def bdN(o:Option Value)(d:Nat):Nat:=match o with|some (.int _ i)=>i.toNat|_=>d
def bdOk(o:Option Value):Prop:=match o with|some (.int _ i)=>0<=i|some _=>False|Option.none=>True
theorem slB_eq{o:Option Value}(h:bdOk o):slB o=some (bdN o 0):=by
 cases o with
 |none=>rfl
 |some v=>cases v<;>first|exact h.elim| (simp only[bdOk]at h;simp[slB,bdN,h])
theorem slH_eq{o:Option Value}(h:bdOk o):slH o m=some (bdN o m):=by
 cases o with
 |none=>rfl
 |some v=>cases v<;>first|exact h.elim| (simp only[bdOk]at h;simp[slH,bdN,h])
theorem zb5{i:Int}:bdN (some (.int k i)) m=i.toNat:=nr rfl
theorem zej:bdN Option.none m=m:=nr rfl
theorem zmz{lo hi:Option Value}(h1:bdOk lo)(h2:bdOk hi)(h3:bdN lo 0<=bdN hi s.length)(h4:bdN hi s.length<=s.length):
  slD P (some .string) (vs s) lo hi Option.none=some (vs ((s.drop (bdN lo 0)).take (bdN hi s.length - bdN lo 0))):=by
 have e3:(⟨s.toArray⟩:ByteArray).size=s.length:=rfl;have e4:∀l m,(⟨s.toArray⟩:ByteArray).extract l m=⟨((s.drop l).take (m - l)).toArray⟩:=fun l m=>by
  apply ByteArray.ext;rw[ByteArray.data_extract];simp[List.take_drop]
 simp[slD,slB_eq h1,e3,slH_eq h2,h3,h4,e4]
theorem s_str{l m:Int}{k':IntKind}(h1:0<=l)(h3:l<=m)(h4:m<=s.length):
  slD P (some .string) (vs s) (some (.int k l)) (some (.int k' m)) Option.none=some (vs ((s.drop l.toNat).take (m.toNat - l.toNat))):=
 zmz h1 (show 0<=m by omega) (by simp only[zb5];omega) (by simp only[zb5];omega)
theorem s_strl{l:Int}(h1:0<=l)(h4:l<=s.length):
  slD P (some .string) (vs s) (some (.int k l)) Option.none Option.none=some (vs (s.drop l.toNat)):=by
 rw[zmz (lo:=some (.int k l)) (hi:=Option.none) h1 trivial (by simp only[zb5,zej];omega) (ynl _)];simp only[zb5,zej];rw[yaf sM]
theorem s_strh{m:Int}{k':IntKind}(h1:0<=m)(h4:m<=s.length):
  slD P (some .string) (vs s) Option.none (some (.int k' m)) Option.none=some (vs (s.take m.toNat)):=by
 rw[zmz (lo:=Option.none) (hi:=some (.int k' m)) trivial h1 (by simp only[zb5,zej];omega) (by simp only[zb5];omega)];simp[zb5,zej]
theorem s_sl0{lo hi:Option Value}(h1:bdOk lo)(h2:bdOk hi)(h3:bdN lo 0<=bdN hi n)(h4:bdN hi n<=c):
  slD P (some (.slice e)) (.slice ad n c) lo hi Option.none=
   (bif (P.info? e).isSome then some (.slice (if c=bdN lo 0 then ad else adr ad (bdN lo 0*tyS P e)) (bdN hi n - bdN lo 0) (c - bdN lo 0)) else Option.none):=by
 have hm:slH Option.none c=some c:=rfl;simp[slD,slB_eq h1,slH_eq h2,h3,h4,hm]
theorem s_sl{l m:Int}{k':IntKind}(h1:0<=l)(h3:l<=m)(h4:m<=c):
  slD P (some (.slice e)) (.slice ad n c) (some (.int k l)) (some (.int k' m)) Option.none=
   (bif (P.info? e).isSome then some (.slice (if c=l.toNat then ad else adr ad (l.toNat*tyS P e)) (m.toNat - l.toNat) (c - l.toNat)) else Option.none):=
 s_sl0 h1 (show 0<=m by omega) (by simp only[zb5];omega) (by simp only[zb5];omega)
theorem s_sll{l:Int}(h1:0<=l)(h3:l<=n)(h4:n<=c):
  slD P (some (.slice e)) (.slice ad n c) (some (.int k l)) Option.none Option.none=
   (bif (P.info? e).isSome then some (.slice (if c=l.toNat then ad else adr ad (l.toNat*tyS P e)) (n - l.toNat) (c - l.toNat)) else Option.none):=
 s_sl0 h1 trivial (by simp only[zb5,zej];omega) h4
theorem s_slh{m:Int}{k':IntKind}(h1:0<=m)(h4:m<=c):
  slD P (some (.slice e)) (.slice ad n c) Option.none (some (.int k' m)) Option.none=
   (bif (P.info? e).isSome then some (.slice (if c=0 then ad else adr ad (0*tyS P e)) (m.toNat - 0) (c - 0)) else Option.none):=
 s_sl0 trivial h1 (by simp only[zej];omega) (by simp only[zb5];omega)
theorem zng(p:Option Addr):ldVal P w t (.pointer p)=ldP P w t p:=by rfl
theorem ex_tuple(l:List Value)(i:Nat):exV i (.tuple l.toArray)=l[i]?:=by simp[exV]
def cvD(o o':Option TypeDesc)(x:Value):Option Value:=
 match o,o',x with
 |some (.int _),some (.int k),.int _ n=>some (.int k (k.wrap n))
 |_,_,_=>Option.none
theorem c_D{t':TypeId}(x:Value):cvV P t t' x=cvD (tyU P t) (tyU P t') x:=by unfold cvV cvD;rfl
theorem c_int{k' k'':IntKind}:cvD (some (.int k')) (some (.int k'')) (.int k a)=some (.int k'' (k''.wrap a)):=nr rfl
theorem ldP_D(p:Option Addr):ldP P w t p=(bif tyA P t then ldP P w t p else bif (tyU P t).isSome then zad w p else Option.none):=by
 cases hA:tyA P t with
 |true=>rfl
 |false=>
  cases hs:(tyU P t).isSome with
  |true=>simp only[cond_false,cond_true];exact ldP_cell hA hs
  |false=>
   cases p with
   |none=>rfl
   |some x=>simp[ldP,ldV,hA,hs]
def ldA(P:Program)(w:World)(t:TypeId)(p:Option Addr):Option Value:=ldP P w t p
def ldX(P:Program)(w:World)(t:TypeId)(p:Option Addr):Bool->Bool->Option Value
 |true,_=>ldA P w t p
 |false,true=>zad w p
 |false,false=>Option.none
theorem ldP_X(p:Option Addr):ldP P w t p=ldX P w t p (tyA P t) (tyU P t).isSome:=by
 rw[ldP_D];cases tyA P t<;>cases (tyU P t).isSome<;>rfl
theorem ldX_one(p:Option Addr):ldX P w t p false true=zad w p:=nr rfl
theorem ldX_agg(p:Option Addr)(b:Bool):ldX P w t p true b=ldA P w t p:=nr rfl
theorem wrap_i64{x:Int}(h1: -9223372036854775808<=x)(h2:x<=9223372036854775807):IntKind.i64.wrap x=x:=zkk h1 h2
theorem wrap_u8{x:Int}(h1:0<=x)(h2:x<=255):IntKind.u8.wrap x=x:=zlf h1 h2
end
section
variable {P : Program} {r : Option Nat} {n : Nat} {Q : Post} {f : Sto -> List Deferred -> World -> Prop} {σ : Sto} {ds : List Deferred} {w : World}
theorem W_mid{x y:Code}(M:Sto->List Deferred->World->Prop)(h1:W P r n x (zdF M Q) σ ds w)(h2:∀σ ds w,M σ ds w->W P r n y Q σ ds w):W P r n (.seq x y) Q σ ds w:=
 zg7 (zaw h1 fun e σ ds w hq=>by cases e<;>first|exact h2 _ _ _ hq|exact hq)
theorem zao(h:f σ ds w):zdF f Q .normal σ ds w:=h
theorem zb9{id:Nat}(h:Q (.exit id) σ ds w):zdF f Q (.exit id) σ ds w:=h
theorem zcG(h:Q .ret σ ds w):zdF f Q .ret σ ds w:=h
theorem za8{id:Nat}(h:Q .normal σ ds w):zdB id Q .normal σ ds w:=h
theorem zcj{id:Nat}(h:Q .ret σ ds w):zdB id Q .ret σ ds w:=h
theorem zbj{id:Nat}(h:Q .normal σ ds w):zdB id Q (.exit id) σ ds w:=by
 show(if id=id then Q .normal σ ds w else Q (.exit id) σ ds w);rw[if_pos rfl];exact h
theorem zbg{id id':Nat}(hne:Nat.beq id' id=false)(h:Q (.exit id') σ ds w):zdB id Q (.exit id') σ ds w:=by
 show(if id'=id then Q .normal σ ds w else Q (.exit id') σ ds w);rw[if_neg (Nat.ne_of_beq_eq_false hne)];exact h
inductive Ctl:Prop->Prop->Prop
 |seq {P:Program} {r:Option Nat} {n:Nat} {x y:Code} {Q:Post} {σ:Sto} {ds:List Deferred} {w:World}:Ctl (W P r n (.seq x y) Q σ ds w) (W P r n x (zdF (fun σ ds w=>W P r n y Q σ ds w) Q) σ ds w)
 |block {P:Program} {r:Option Nat} {n:Nat} {id:Nat} {c:Code} {Q:Post} {σ:Sto} {ds:List Deferred} {w:World}:Ctl (W P r n (.block id c) Q σ ds w) (W P r n c (zdB id Q) σ ds w)
 |skip {P:Program} {r:Option Nat} {n:Nat} {Q:Post} {σ:Sto} {ds:List Deferred} {w:World}:Ctl (W P r n .skip Q σ ds w) (Q .normal σ ds w)
 |ret {P:Program} {r:Option Nat} {n:Nat} {Q:Post} {σ:Sto} {ds:List Deferred} {w:World}:Ctl (W P r n .ret Q σ ds w) (Q .ret σ ds w)
 |exit {P:Program} {r:Option Nat} {n:Nat} {id:Nat} {Q:Post} {σ:Sto} {ds:List Deferred} {w:World}:Ctl (W P r n (.exit id) Q σ ds w) (Q (.exit id) σ ds w)
 |tn {f:Sto->List Deferred->World->Prop} {Q:Post} {σ:Sto} {ds:List Deferred} {w:World}:Ctl (zdF f Q .normal σ ds w) (f σ ds w)
 |te {f:Sto->List Deferred->World->Prop} {id:Nat} {Q:Post} {σ:Sto} {ds:List Deferred} {w:World}:Ctl (zdF f Q (.exit id) σ ds w) (Q (.exit id) σ ds w)
 |tr {f:Sto->List Deferred->World->Prop} {Q:Post} {σ:Sto} {ds:List Deferred} {w:World}:Ctl (zdF f Q .ret σ ds w) (Q .ret σ ds w)
 |bn {id:Nat} {Q:Post} {σ:Sto} {ds:List Deferred} {w:World}:Ctl (zdB id Q .normal σ ds w) (Q .normal σ ds w)
 |br {id:Nat} {Q:Post} {σ:Sto} {ds:List Deferred} {w:World}:Ctl (zdB id Q .ret σ ds w) (Q .ret σ ds w)
 |bs {id:Nat} {Q:Post} {σ:Sto} {ds:List Deferred} {w:World}:Ctl (zdB id Q (.exit id) σ ds w) (Q .normal σ ds w)
 |bo {id id':Nat} {Q:Post} {σ:Sto} {ds:List Deferred} {w:World} (hne:Nat.beq id' id=false):Ctl (zdB id Q (.exit id') σ ds w) (Q (.exit id') σ ds w)
theorem c_r{p q:Prop}(hq:q)(h:Ctl p q:=by (with_reducible constructor)<;>exact rfl):p:=by
 cases h with
 |seq=>exact zg7 hq
 |block=>exact zn3 hq
 |skip=>exact zfI hq
 |ret=>exact zig hq
 |exit=>exact zew hq
 |tn=>exact hq
 |te=>exact hq
 |tr=>exact hq
 |bn=>exact hq
 |br=>exact hq
 |bs=>exact zbj hq
 |bo hne=>exact zbg hne hq
theorem zeL{fn:Func}{R:Value->World->Prop}{e:Exit}(he:e= .normal\/e= .ret){l:List ResultVar}{rs:List Value}(hl:fn.results.toList=l)(hr:resV P fn.ntmps σ w l=some rs)
  (h:R (resT rs) w):retQ P fn R e σ [] w:=⟨he,trivial,rs,by rw[hl];exact hr,h⟩
theorem resV_tmp(t:Tmp):resV P n σ w [.tmp t]=some [ev n σ (.tmp t)]:=rfl
theorem resV_nil:resV P n σ w []=some []:=rfl
theorem zmG{fn:Func}{R:Value->World->Prop}{e:Exit}(he:e= .normal\/e= .ret){t:Tmp}(hl:fn.results.toList=[.tmp t])(hm:fn.ntmps=m)(hv:ev m σ (.tmp t)=v)
  (h:R v w):retQ P fn R e σ [] w:=by
 refine zeL he hl (resV_tmp t) ?_;rw[hm,hv];exact h
theorem zap{fn:Func}{R:Value->World->Prop}{e:Exit}(he:e= .normal\/e= .ret)(hl:fn.results.toList=[])
  (h:R (.tuple #[]) w):retQ P fn R e σ [] w:=zeL he hl resV_nil h
theorem zmF{fn:Func}{R:Value->World->Prop}{e:Exit}(he:e= .normal\/e= .ret){t t':Tmp}{v':Value}(hl:fn.results.toList=[.tmp t,.tmp t'])(hm:fn.ntmps=m)
  (hv:ev m σ (.tmp t)=v) (hv':ev m σ (.tmp t')=v') (h:R (.tuple #[v,v']) w):retQ P fn R e σ [] w:=by
 refine zeL he hl (rs:=[v,v']) ?_ h;rw[hm,←hv,←hv'];rfl
end
section
variable {P : Program} {gd : Nat -> Option Tmp} {n : Nat} {σ : Sto} {w : World} {ops : List Oper} {S : Nat -> Prop} {isB : Nat -> Bool} {K : Sto -> World -> Prop} {i : Nat} {pl : List (Nat × Bool)}
def drawQ(P:Program)(gd:Nat->Option Tmp)(ops:List Oper)(n:Nat)(S:Nat->Prop)(isB:Nat->Bool)(pl:List (Nat×Bool))(σ:Sto)(w:World)(K:Sto->World->Prop):Option Oper->Prop
 |some o=>if zfb gd n σ o.guard=true then quV P S o (ev n σ) w (fun v=>zcg P gd ops n S isB pl (putS σ o.dst v) w K) else zcg P gd ops n S isB pl (putS σ o.dst undef) w K
 |Option.none=>False
def drawA(P:Program)(gd:Nat->Option Tmp)(ops:List Oper)(n:Nat)(S:Nat->Prop)(isB:Nat->Bool)(b:Bool)(pl:List (Nat×Bool))(σ:Sto)(w:World)(K:Sto->World->Prop):Option Oper->Prop
 |some o=>if zfb gd n σ o.guard=true then opV P o (ev n σ) w (fun v w'=>(b=true\/Keep S w w')/\zcg P gd ops n S isB pl (putS σ o.dst v) w' K) else zcg P gd ops n S isB pl (putS σ o.dst undef) w K
 |Option.none=>False
theorem drawV_q:zcg P gd ops n S isB ((i,true)::pl) σ w K=drawQ P gd ops n S isB pl σ w K (nthO ops i):=by
 unfold drawQ;rw[zcg];cases nthO ops i<;>rfl
theorem drawV_a:zcg P gd ops n S isB ((i,false)::pl) σ w K=drawA P gd ops n S isB (isB i) pl σ w K (nthO ops i):=by
 unfold drawA;rw[zcg];cases nthO ops i<;>rfl
variable {d : Option Tmp} {op : Op} {ty : TypeId} {ps : String} {af : Array Edge}
theorem zlS:drawQ P gd ops n S isB pl σ w K (some ⟨d,op,ty,ps,af,Option.none⟩)=quV P S ⟨d,op,ty,ps,af,Option.none⟩ (ev n σ) w (fun v=>zcg P gd ops n S isB pl (putS σ d v) w K):=nr rfl
theorem zlT{b:Bool}:drawA P gd ops n S isB b pl σ w K (some ⟨d,op,ty,ps,af,Option.none⟩)=
 opV P ⟨d,op,ty,ps,af,Option.none⟩ (ev n σ) w (fun v w'=>(b=true\/Keep S w w')/\zcg P gd ops n S isB pl (putS σ d v) w' K):=nr rfl
theorem zjX{c:Bool}:drawQ P gd ops n S isB pl σ w K (some ⟨d,op,ty,ps,af,some (j,c)⟩)=
 iteL (zfb gd n σ (some (j,c))) (quV P S ⟨d,op,ty,ps,af,some (j,c)⟩ (ev n σ) w (fun v=>zcg P gd ops n S isB pl (putS σ d v) w K)) (zcg P gd ops n S isB pl (putS σ d undef) w K) .mk:=nr rfl
theorem zjY{b:Bool}{c:Bool}:drawA P gd ops n S isB b pl σ w K (some ⟨d,op,ty,ps,af,some (j,c)⟩)=
 iteL (zfb gd n σ (some (j,c))) (opV P ⟨d,op,ty,ps,af,some (j,c)⟩ (ev n σ) w (fun v w'=>(b=true\/Keep S w w')/\zcg P gd ops n S isB pl (putS σ d v) w' K))
  (zcg P gd ops n S isB pl (putS σ d undef) w K) .mk:=nr rfl
theorem zm3{o:Oper}{l:List Oper}:nthO (o::l) 0=some o:=nr rfl
theorem zm4{o:Oper}{l:List Oper}:nthO (o::l) (i+1)=nthO l i:=nr rfl
variable {ρ : Operand -> Value} {k : Value -> Prop} {g : Option (Nat × Bool)}
theorem q_move(x:Operand):quV P S ⟨d,.move x,ty,ps,af,g⟩ ρ w k=okL (some (ρ x)) k .mk:=nr rfl
theorem q_assign(x:Operand):quV P S ⟨d,.assign x,ty,ps,af,g⟩ ρ w k=okL (some (ρ x)) k .mk:=nr rfl
theorem q_pick(c a b:Operand):quV P S ⟨d,.pick c a b,ty,ps,af,g⟩ ρ w k=okL (pickV (ρ c) (ρ a) (ρ b)) k .mk:=by
 unfold quV;dsimp only;cases ρ c<;>rfl
theorem q_bin(op:BinOp)(t:TypeId)(x y:Operand)(yt:TypeId):quV P S ⟨d,.binOp op t x y yt,ty,ps,af,g⟩ ρ w k=okL (binV P op t (ρ x) (ρ y)) k .mk:=nr rfl
theorem q_un(op:UnOp)(t:TypeId)(x:Operand):quV P S ⟨d,.unOp op t x,ty,ps,af,g⟩ ρ w k=okL (unV op (ρ x)) k .mk:=nr rfl
def offV(S:Nat->Prop):Value->Prop| .pointer p=>offS S p|_=>False
theorem q_load(t:TypeId)(x:Operand):quV P S ⟨d,.load t x,ty,ps,af,g⟩ ρ w k=(offV S (ρ x)/\okL (ldVal P w t (ρ x)) k .mk):=by
 unfold quV offV ldVal okL;dsimp only;cases ρ x<;>simp[okV]
theorem offV_ptr(p:Option Addr):offV S (.pointer p)=offS S p:=nr rfl
theorem q_ixA(t:TypeId)(x i:Operand):quV P S ⟨d,.indexAddr t x i,ty,ps,af,g⟩ ρ w k=okL (ixA P t (ρ x) (ρ i)) k .mk:=nr rfl
theorem q_ix(t:TypeId)(x i:Operand):quV P S ⟨d,.index t x i,ty,ps,af,g⟩ ρ w k=okL (ixS P t (ρ x) (ρ i)) k .mk:=nr rfl
theorem q_slice(t:TypeId)(x:Operand)(lo hi mx:Option Operand):quV P S ⟨d,.slice t x lo hi mx,ty,ps,af,g⟩ ρ w k=okL (slV P t (ρ x) (lo.map ρ) (hi.map ρ) (mx.map ρ)) k .mk:=nr rfl
theorem q_ext(x:Operand)(i:Nat):quV P S ⟨d,.extract x i,ty,ps,af,g⟩ ρ w k=okL (exV i (ρ x)) k .mk:=nr rfl
theorem q_conv(s t:TypeId)(x:Operand):quV P S ⟨d,.convert s t x,ty,ps,af,g⟩ ρ w k=okL (cvV P s t (ρ x)) k .mk:=nr rfl
theorem q_field(s:TypeId)(x:Operand)(f:Nat):quV P S ⟨d,.fieldAddr s x f,ty,ps,af,g⟩ ρ w k=okL (fdA P s (ρ x) f) k .mk:=nr rfl
theorem q_nc(x:Operand):quV P S ⟨d,.nilCheck x,ty,ps,af,g⟩ ρ w k↔okL (ncV (ρ x)) k .mk:=by
 unfold quV okL okV ncV;dsimp only;cases ρ x<;>first|exact Iff.rfl| (rename_i p;cases p<;>simp)
theorem q_func(fn:Go.Fn)(f c:Array Operand):quV P S ⟨d,.makeFunc fn f c,ty,ps,af,g⟩ ρ w k=okL (some (.func fn (f.map ρ) (c.map ρ))) k .mk:=nr rfl
theorem q_len(x:Operand)(t:TypeId):quV P S ⟨d,.call ⟨.builtin .len,#[x],#[t]⟩,ty,ps,af,g⟩ ρ w k=okL (lenV P t (ρ x)) k .mk:=nr rfl
theorem q_build(t:TypeId)(parts:Array (Nat×Operand)):quV P S ⟨d,.build t parts,ty,ps,af,g⟩ ρ w k=
  (zbG P t=true/\okL (bdV P t (parts.toList.map fun p=>(p.1,ρ p.2))) k .mk):=nr rfl
theorem q_look(t:TypeId)(m key:Operand)(ok:Bool):quV P S ⟨d,.lookup t m key ok,ty,ps,af,g⟩ ρ w k=
  ((∀r,ρ m= .map (some r)->¬S r)/\okL (lkV P w t (ρ m) (ρ key) ok) k .mk):=nr rfl
end
theorem zny(v:Value)(l:List Value):getL (v::l) 0=v:=nr rfl
theorem znz(v:Value)(l:List Value)(i:Nat):getL (v::l) (i+1)=getL l i:=nr rfl
theorem zlp(t:Bool)(a b:Value):pickV (.bool t) a b=some (bif t then a else b):=nr rfl
theorem m1{α β:Type}(f:α->β)(a:α):(some a).map f=some (f a):=nr rfl
theorem m2{α β:Type}(f:α->β):(Option.none:Option α).map f=Option.none:=nr rfl
theorem m3{α:Type}(a:α):(some a).isSome=true:=nr rfl
theorem m4{α β:Type}(f:α->β)(l:List α):l.toArray.map f=(l.map f).toArray:=sM
theorem m5{α β:Type}(f:α->β)(a:α)(l:List α):(a::l).map f=f a::l.map f:=nr rfl
theorem m6{α β:Type}(f:α->β):([]:List α).map f=[]:=nr rfl
theorem m7{α:Type}(l:List α):[]++l=l:=nr rfl
theorem m8{α:Type}(l:List α):l++ []=l:=sM
theorem m9{α:Type}(l m:List α):l.toArray++m.toArray=(l++m).toArray:=sM
theorem m10{α:Type}(a:α)(l m:List α):(a::l)++m=a::(l++m):=nr rfl
theorem m11{α:Type}(a b:α):(bif true then a else b)=a:=nr rfl
theorem m12{α:Type}(a b:α):(bif false then a else b)=b:=nr rfl
theorem m13{α:Type}(a:α)(l:List α):(a::l)[0]? =some a:=nr rfl
theorem m14{α:Type}(a:α)(l:List α)(i:Nat):(a::l)[i+1]? =l[i]?:=sM
attribute [go_sem ↓] putS_at putS_no v_alloc v_nc zmW  opsV_nil zlt znK v_move v_assign v_pick v_bin v_un v_load v_ixA v_ix v_slice v_ext v_conv v_field v_func v_call v_len v_store v_box v_bs v_build v_map v_append v_copy v_mkS v_mapU v_look v_range v_next ev_const ev_tmp ev_func upd_at drawV_q drawV_a zlS zlT zjX zjY q_move q_assign q_pick q_bin q_un q_load q_ixA q_ix q_slice q_ext q_conv q_field q_nc q_func q_len q_build q_look
theorem m15(n:Nat):0+n=n:=oM
attribute [go_sem] callQ_t callQ_f b_shr1 wrap_u64 wrap_u32 fdiv_two bq1 bq2 bq3 bq4 zmU okL_some iteL_t iteL_f ncV_pt ncV_some Option.isNone_some Option.isNone_none Option.isSome_some Bool.not_true Bool.not_false bi1 bi2 bi3 bi4 m16 i_slice1 i_array1 zaY m15 zmV  okV_some  zmP  zmQ  zmm  zny  znz  zlp  b_add  b_sub  b_mul  b_lss  b_leq  b_gtr  b_geq  b_eql  b_neq  b_seql  b_sneq  b_slss  b_sgtr  b_sadd  b_bool  b_beql  b_bneq  b_ptr  b_peql  b_pneq  u_not  u_neg  l_D  l_slice  l_str  i_D  zns  i_array  i_SD  i_str  s_D  s_str  s_strl  s_strh  s_sl  s_sll  s_slh  c_D  c_int  zng  ldP_X  ldX_one  ldX_agg  ex_tuple  wrap_i64  wrap_u8  zl0  zl3  zie  offV_ptr  offS_no  zm3 zm4 m1  m2  m3  m4  m5  m6  m7  m8  m9  m10  m11  m12  m13  m14  Int.toNat_natCast  Nat.mul_one  true_and and_true
attribute [go_sem] Nat.reduceLT Nat.reduceEqDiff Nat.reduceSub
attribute [go_sem ↓] reduceIte
/-! the short rules:their last arguments are found by simp -/
section
variable {α : Type} {a b : α}
theorem vq0(h:a=b:=by simp only[go_sem]):a=b:=h 
theorem vq1{P1:Prop}(p1:P1)(h:P1->a=b:=by intro h1;simp only[go_sem,h1]):a=b:=h p1
theorem vq2{P1:Prop}{P2:Prop}(p1:P1)(p2:P2)(h:P1->P2->a=b:=by intro h1 h2;simp only[go_sem,h1,h2]):a=b:=h p1 p2
theorem vr0(h:a=b:=by first| (simp only[go_sem];done)| (simp only[go_sem];rfl)):a=b:=h 
theorem vr1{P1:Prop}(p1:P1)(h:P1->a=b:=by intro h1;first| (simp only[go_sem,h1];done)| (simp only[go_sem,h1];rfl)):a=b:=h p1
end
section
variable {P : Program} {r : Option Nat} {n : Nat} {Q : Post} {σ : Sto} {ds : List Deferred} {w : World}
theorem rg0{id:Nat}{ops:Array Oper}{σ1:Sto}(h:Q .normal σ1 ds w1)(hs:∀(gd:Nat->Option Tmp) (K:Sto->World->Prop),gd=dstL ops.toList->(opsV P gd n ops.toList σ w K=K σ1 w1):=by intro gd K hgd;(simp (disch:=first|omega|assumption|rfl) only[go_sem])<;>exact rfl)(hd:zaX ops=true:=by rfl):
  W P r n (.region id ops false) Q σ ds w:=zcx hd fun gd K hgd hK=>(hs gd K hgd).mpr (hK _ _ h)
theorem rg1{P1:Prop}{id:Nat}{ops:Array Oper}{σ1:Sto}(p1:P1)(h:Q .normal σ1 ds w1)(hs:P1->∀(gd:Nat->Option Tmp) (K:Sto->World->Prop),gd=dstL ops.toList->(opsV P gd n ops.toList σ w K=K σ1 w1):=by intro h1 gd K hgd;(simp (disch:=first|omega|assumption|rfl) only[go_sem,h1])<;>exact rfl)(hd:zaX ops=true:=by rfl):
  W P r n (.region id ops false) Q σ ds w:=zcx hd fun gd K hgd hK=>(hs p1 gd K hgd).mpr (hK _ _ h)
theorem rg2{P1:Prop}{P2:Prop}{id:Nat}{ops:Array Oper}{σ1:Sto}(p1:P1)(p2:P2)(h:Q .normal σ1 ds w1)(hs:P1->P2->∀(gd:Nat->Option Tmp) (K:Sto->World->Prop),gd=dstL ops.toList->(opsV P gd n ops.toList σ w K=K σ1 w1):=by intro h1 h2 gd K hgd;(simp (disch:=first|omega|assumption|rfl) only[go_sem,h1,h2])<;>exact rfl)(hd:zaX ops=true:=by rfl):
  W P r n (.region id ops false) Q σ ds w:=zcx hd fun gd K hgd hK=>(hs p1 p2 gd K hgd).mpr (hK _ _ h)
theorem rg3{P1:Prop}{P2:Prop}{P3:Prop}{id:Nat}{ops:Array Oper}{σ1:Sto}(p1:P1)(p2:P2)(p3:P3)(h:Q .normal σ1 ds w1)(hs:P1->P2->P3->∀(gd:Nat->Option Tmp) (K:Sto->World->Prop),gd=dstL ops.toList->(opsV P gd n ops.toList σ w K=K σ1 w1):=by intro h1 h2 h3 gd K hgd;(simp (disch:=first|omega|assumption|rfl) only[go_sem,h1,h2,h3])<;>exact rfl)(hd:zaX ops=true:=by rfl):
  W P r n (.region id ops false) Q σ ds w:=zcx hd fun gd K hgd hK=>(hs p1 p2 p3 gd K hgd).mpr (hK _ _ h)
theorem rg4{P1:Prop}{P2:Prop}{P3:Prop}{P4:Prop}{id:Nat}{ops:Array Oper}{σ1:Sto}(p1:P1)(p2:P2)(p3:P3)(p4:P4)(h:Q .normal σ1 ds w1)(hs:P1->P2->P3->P4->∀(gd:Nat->Option Tmp) (K:Sto->World->Prop),gd=dstL ops.toList->(opsV P gd n ops.toList σ w K=K σ1 w1):=by intro h1 h2 h3 h4 gd K hgd;(simp (disch:=first|omega|assumption|rfl) only[go_sem,h1,h2,h3,h4])<;>exact rfl)(hd:zaX ops=true:=by rfl):
  W P r n (.region id ops false) Q σ ds w:=zcx hd fun gd K hgd hK=>(hs p1 p2 p3 p4 gd K hgd).mpr (hK _ _ h)
theorem rg5{P1:Prop}{P2:Prop}{P3:Prop}{P4:Prop}{P5:Prop}{id:Nat}{ops:Array Oper}{σ1:Sto}(p1:P1)(p2:P2)(p3:P3)(p4:P4)(p5:P5)(h:Q .normal σ1 ds w1)(hs:P1->P2->P3->P4->P5->∀(gd:Nat->Option Tmp) (K:Sto->World->Prop),gd=dstL ops.toList->(opsV P gd n ops.toList σ w K=K σ1 w1):=by intro h1 h2 h3 h4 h5 gd K hgd;(simp (disch:=first|omega|assumption|rfl) only[go_sem,h1,h2,h3,h4,h5])<;>exact rfl)(hd:zaX ops=true:=by rfl):
  W P r n (.region id ops false) Q σ ds w:=zcx hd fun gd K hgd hK=>(hs p1 p2 p3 p4 p5 gd K hgd).mpr (hK _ _ h)
theorem rg7{P1:Prop}{P2:Prop}{P3:Prop}{P4:Prop}{P5:Prop}{P6:Prop}{P7:Prop}{id:Nat}{ops:Array Oper}{σ1:Sto}(p1:P1)(p2:P2)(p3:P3)(p4:P4)(p5:P5)(p6:P6)(p7:P7)(h:Q .normal σ1 ds w1)(hs:P1->P2->P3->P4->P5->P6->P7->∀(gd:Nat->Option Tmp) (K:Sto->World->Prop),gd=dstL ops.toList->(opsV P gd n ops.toList σ w K=K σ1 w1):=by intro h1 h2 h3 h4 h5 h6 h7 gd K hgd;(simp (disch:=first|omega|assumption|rfl) only[go_sem,h1,h2,h3,h4,h5,h6,h7])<;>exact rfl)(hd:zaX ops=true:=by rfl):
  W P r n (.region id ops false) Q σ ds w:=zcx hd fun gd K hgd hK=>(hs p1 p2 p3 p4 p5 p6 p7 gd K hgd).mpr (hK _ _ h)
theorem rg8{P1:Prop}{P2:Prop}{P3:Prop}{P4:Prop}{P5:Prop}{P6:Prop}{P7:Prop}{P8:Prop}{id:Nat}{ops:Array Oper}{σ1:Sto}(p1:P1)(p2:P2)(p3:P3)(p4:P4)(p5:P5)(p6:P6)(p7:P7)(p8:P8)(h:Q .normal σ1 ds w1)(hs:P1->P2->P3->P4->P5->P6->P7->P8->∀(gd:Nat->Option Tmp) (K:Sto->World->Prop),gd=dstL ops.toList->(opsV P gd n ops.toList σ w K=K σ1 w1):=by intro h1 h2 h3 h4 h5 h6 h7 h8 gd K hgd;(simp (disch:=first|omega|assumption|rfl) only[go_sem,h1,h2,h3,h4,h5,h6,h7,h8])<;>exact rfl)(hd:zaX ops=true:=by rfl):
  W P r n (.region id ops false) Q σ ds w:=zcx hd fun gd K hgd hK=>(hs p1 p2 p3 p4 p5 p6 p7 p8 gd K hgd).mpr (hK _ _ h)
theorem rg9{P1:Prop}{P2:Prop}{P3:Prop}{P4:Prop}{P5:Prop}{P6:Prop}{P7:Prop}{P8:Prop}{P9:Prop}{id:Nat}{ops:Array Oper}{σ1:Sto}(p1:P1)(p2:P2)(p3:P3)(p4:P4)(p5:P5)(p6:P6)(p7:P7)(p8:P8)(p9:P9)(h:Q .normal σ1 ds w1)(hs:P1->P2->P3->P4->P5->P6->P7->P8->P9->∀(gd:Nat->Option Tmp) (K:Sto->World->Prop),gd=dstL ops.toList->(opsV P gd n ops.toList σ w K=K σ1 w1):=by intro h1 h2 h3 h4 h5 h6 h7 h8 h9 gd K hgd;(simp (disch:=first|omega|assumption|rfl) only[go_sem,h1,h2,h3,h4,h5,h6,h7,h8,h9])<;>exact rfl)(hd:zaX ops=true:=by rfl):
  W P r n (.region id ops false) Q σ ds w:=zcx hd fun gd K hgd hK=>(hs p1 p2 p3 p4 p5 p6 p7 p8 p9 gd K hgd).mpr (hK _ _ h)
theorem rq{id:Nat}{ops:Array Oper}(h:∀(gd:Nat->Option Tmp) (K:Sto->World->Prop),gd=dstL ops.toList->(∀σ' w',Q .normal σ' ds w'->K σ' w')->opsV P gd n ops.toList σ w K)(hd:zaX ops=true:=by rfl):
  W P r n (.region id ops false) Q σ ds w:=zcx hd h
theorem wc0{c:Operand}{x y:Code}{t:Bool}(ht:t=true->W P r n x Q σ ds w)(hf:t=false->W P r n y Q σ ds w)(hc:ev n σ c= .bool t:=by simp only[go_sem];rfl):W P r n (.cond c x y) Q σ ds w:=zaG (hc) ht hf
theorem rt0{fn:Func}{R:Value->World->Prop}{e:Exit}{t:Tmp}(hm:fn.ntmps=m)(h:R v w)(hl:fn.results.toList=[.tmp t]:=by exact rfl)(hv:ev m σ (.tmp t)=v:=by simp only[go_sem];rfl)(he:e= .normal\/e= .ret:=by simp):retQ P fn R e σ [] w:=zmG he hl hm (hv) h
theorem rt1{P1:Prop}{fn:Func}{R:Value->World->Prop}{e:Exit}{t:Tmp}(p1:P1)(hm:fn.ntmps=m)(h:R v w)(hl:fn.results.toList=[.tmp t]:=by exact rfl)(hv:P1->ev m σ (.tmp t)=v:=by intro h1;simp only[go_sem,h1];rfl)(he:e= .normal\/e= .ret:=by simp):retQ P fn R e σ [] w:=zmG he hl hm (hv p1) h
end
theorem gk(j t:Nat){L:List Oper}{gd:Nat->Option Tmp}(hgd:gd=dstL L)(h:dstL L j=some t):∀n σ b,zfb gd n σ (some (j,b))=zdY (ev n σ (.tmp t)) b:=fun n σ b=>by rw[zb8,show gd j=some t by rw[hgd];exact h];rfl
theorem ci(i:Nat):(i:Int)+1=((i+1:Nat):Int):=by push_cast;rfl
theorem cj(i:Nat):(0:Int)<=(i:Int):=Int.natCast_nonneg i
structure Gtz(p q:Prop):Prop where
  of:q->p
section
variable {P : Program} {r : Option Nat} {n : Nat} {Q : Post} {σ : Sto} {ds : List Deferred} {w : World} {p q s : Prop}
theorem zfo:Gtz p p:=⟨id⟩
theorem zlG(h:Ctl p q)(k:Gtz q s):Gtz p s:=⟨fun g=>c_r (k.of g) h⟩
theorem gtz_r{id:Nat}{ops:Array Oper}{σ1:Sto}{w1:World}(hs:∀(gd:Nat->Option Tmp) (K:Sto->World->Prop),gd=dstL ops.toList->opsV P gd n ops.toList σ w K=K σ1 w1)(hd:zaX ops=true)(k:Gtz (Q .normal σ1 ds w1) q):
    Gtz (W P r n (.region id ops false) Q σ ds w) q:=⟨fun g=>zcx hd fun gd K hgd hK=>(hs gd K hgd).mpr (hK _ _ (k.of g))⟩
theorem gz(h:p)(hq:s)(hs:p->Gtz q s:=by
    intro h1
    repeat (first
      | (apply zlG;· (with_reducible constructor)<;>exact rfl)
      | (apply gtz_r;(intro gd K hgd;(simp (disch:=first|omega|assumption|rfl) only[go_sem,h1])<;>with_reducible exact rfl);rfl))
    exact zfo):q:=(hs h).of hq
theorem rqz{id:Nat}{ops:Array Oper}(h:∀(gd:Nat->Option Tmp) (K:Sto->World->Prop),gd=dstL ops.toList->(∀σ' w',Q .normal σ' ds w'->K σ' w')->opsV P gd n ops.toList σ w K)(hc:Gtz p (W P r n (.region id ops false) Q σ ds w)/\zaX ops=true:=by
    constructor
    · repeat (apply zlG;· (with_reducible constructor)<;>exact rfl)
      exact zfo
    · rfl):p:=hc.1.of (zcx hc.2 h)
theorem wcz{c:Operand}{x y:Code}{t:Bool}(ht:t=true->W P r n x Q σ ds w)(hf:t=false->W P r n y Q σ ds w)(hg:Gtz p (W P r n (.cond c x y) Q σ ds w)/\ev n σ c= .bool t:=by
    constructor
    · repeat (apply zlG;· (with_reducible constructor)<;>exact rfl)
      exact zfo
    · simp only[go_sem];rfl):p:=hg.1.of (zaG hg.2 ht hf)
theorem en{K:Sto->World->Prop}(hK:∀σ' w',Q .normal σ' ds w'->K σ' w')(hq:q)(hc:Gtz (Q .normal σ ds w) q:=by
    repeat (apply zlG;· (with_reducible constructor)<;>exact rfl)
    exact zfo):K σ w:=hK _ _ (hc.of hq)
theorem gz0(hq:s)(hs:Gtz q s:=by
    repeat (first
      | (apply zlG;· (with_reducible constructor)<;>exact rfl)
      | (apply gtz_r;(intro gd K hgd;(simp (disch:=first|omega|assumption|rfl) only[go_sem])<;>with_reducible exact rfl);rfl))
    exact zfo):q:=hs.of hq
theorem sgz(h:p)(hq:q)(hs:p->(s=q):=by intro h1;(first| (simp (disch:=first|omega|assumption|rfl) only[go_sem,h1])|skip)<;>exact rfl):s:=(hs h).mpr hq
theorem sg0(hq:q)(hs:s=q:=by (first| (simp (disch:=first|omega|assumption|rfl) only[go_sem])|skip)<;>exact rfl):s:=hs.mpr hq
end
abbrev ykt:=@Keep.to_ext
abbrev yfm:=@Fn.mono
abbrev yea:=@Ext.alloc
theorem ykr{S:Nat->Prop}{w:World}:Keep S w w:=Keep.refl _ _
theorem enx{P:Program}{f:FuncId}{fn:Func}{c:Code}{args:Array Value}{w:World}{R:Value->World->Prop}{n:Nat}(hf:P.funcs[f]? =some fn)(hN:fn.ntmps=n)(h:W P .none n c (retQ P fn R) (sto0 args) [] w)(hb:fn.body=some c:=by rfl)(hn:Nat.ble args.size fn.ntmps=true:=by rfl):Fn P f args w R:=enter hf hN hb hn h
def pL(n:Nat)(l:List Nat):List (Nat×Bool):=(List.range n).map fun i=>(i,!l.contains i)
theorem cZ{p q:Prop}(hq:q)(hc:Gtz p q:=by
    repeat (apply zlG;· (with_reducible constructor)<;>exact rfl)
    exact zfo):p:=hc.of hq
theorem sgy{p q s r:Prop}(g:r)(h:p)(hq:q)(hs:r->p->(s=q):=by intro h2 h1;(first| (simp (disch:=first|omega|assumption|rfl) only[go_sem,h1,↓h2])|skip)<;>exact rfl):s:=(hs g h).mpr hq
theorem az1{a:Prop}(h:a):a:=h
theorem az2{a b:Prop}(h1:a)(h2:b):a/\b:=⟨h1,h2⟩
theorem az3{a b c:Prop}(h1:a)(h2:b)(h3:c):a/\b/\c:=⟨h1,h2,h3⟩
theorem az4{a b c d:Prop}(h1:a)(h2:b)(h3:c)(h4:d):a/\b/\c/\d:=⟨h1,h2,h3,h4⟩
theorem az5{a b c d e:Prop}(h1:a)(h2:b)(h3:c)(h4:d)(h5:e):a/\b/\c/\d/\e:=⟨h1,h2,h3,h4,h5⟩
theorem az6{a b c d e f:Prop}(h1:a)(h2:b)(h3:c)(h4:d)(h5:e)(h6:f):a/\b/\c/\d/\e/\f:=⟨h1,h2,h3,h4,h5,h6⟩
theorem az7{a b c d e f g:Prop}(h1:a)(h2:b)(h3:c)(h4:d)(h5:e)(h6:f)(h7:g):a/\b/\c/\d/\e/\f/\g:=⟨h1,h2,h3,h4,h5,h6,h7⟩
end
structure KeepB(n0:Nat)(C:Nat->Prop)(w w':World):Prop where
 os:w'.os=w.os
 tape:w'.tape=w.tape
 output:w'.output=w.output
 size:w.heap.size<=w'.heap.size
 block:∀b,b<n0->¬C b->w'.heap[b]? =w.heap[b]?
 drawn:w.drawn<=w'.drawn
theorem KeepB.refl(n0:Nat)(C:Nat->Prop)(w:World):KeepB n0 C w w:=⟨rfl,rfl,rfl,ynl _,λ _ _ _=>rfl,ynl _⟩
theorem KeepB.trans{n0:Nat}{a b c:World}(h:KeepB n0 C a b)(k:KeepB n0 C b c):KeepB n0 C a c:=
 ⟨k.os.trans h.os,k.tape.trans h.tape,k.output.trans h.output,yaD h.size k.size,λ i hi hc=>(k.block i hi hc).trans (h.block i hi hc),yaD h.drawn k.drawn⟩
theorem Keep.toB{n0:Nat}{a b:World}(h:Keep S a b)(hn:n0<=a.heap.size)(hS:∀i,i<n0->S i->C i):KeepB n0 C a b:=
 ⟨h.os,h.tape,h.output,h.size,λ i hi hc=>h.block i oM (λ hs=>hc (hS i hi hs)),h.drawn⟩
theorem KeepB.mono{n0 n1:Nat}{D:Nat->Prop}{a b:World}(h:KeepB n0 C a b)(hn:n1<=n0)(hC:∀i,i<n1->C i->D i):KeepB n1 D a b:=
 ⟨h.os,h.tape,h.output,h.size,λ i hi hd=>h.block i oM (λ hc=>hd (hC i hi hc)),h.drawn⟩
theorem KeepB.keep{a b:World}(h:KeepB a.heap.size C a b):Keep C a b:=⟨h.os,h.tape,h.output,h.size,h.block,h.drawn⟩
def Yld(P:Program)(l:Nat)(args:Array Value)(w:World)(R:Value->World->Prop):Prop:=zg6 P (.func (.yield l) #[] #[]) args w R
theorem Yld.mono{P:Program}{l:Nat}{args:Array Value}{R R':Value->World->Prop}(h:Yld P l args w R)(hr:∀v w,R v w->R' v w):Yld P l args w R':=zhQ hr h
def span(n k:Nat):Nat->Prop:=λ b=>n<=b/\b<n+k
def zkd{α:Type}(P:Program)(g:FuncId)(cap:Array Value)(W0:World)(n0:Nat)(C:Nat->Prop)(own:Nat)(Pre:List α->α->Prop)(Full:List α->Prop)(enc:α->World->Array Value->Prop):Prop:=
 ∀(l:Nat) (J Jx:List α->World->Prop) (W:World),Ext W0 W->n0<=W.heap.size->
  (∀pre A B,J pre A->Keep (span W.heap.size own) A B->J pre B)->(∀pre A B,Jx pre A->Keep (span W.heap.size own) A B->Jx pre B)->
  (∀pre x A args,Pre pre x->J pre A->W.heap.size+own<=A.heap.size->KeepB n0 C W A->enc x A args->Yld P l args A (λ v B=>
   (v= .bool true/\J (pre++ [x]) B/\KeepB n0 C A B/\∀b,span W.heap.size own b->B.heap[b]? =A.heap[b]?)\/(v= .bool false/\Jx (pre++ [x]) B)))->
  J [] W->Fn P g (#[.func (.yield l) #[] #[]]++cap) W (λ _ B=>(∃xs,Full xs/\J xs B)\/∃pre x,Pre pre x/\Jx (pre++ [x]) B)
def Iter{α:Type}(P:Program)(g:FuncId)(cap:Array Value)(W0:World)(n0:Nat)(C:Nat->Prop)(xs:List α)(enc:α->World->Array Value->Prop):Prop:=
 ∀(l:Nat) (J Jx:List α->World->Prop) (W:World),Ext W0 W->n0<=W.heap.size->
  (∀pre A B,J pre A->Ext A B->J pre B)->(∀pre A B,Jx pre A->Ext A B->Jx pre B)->
  (∀pre x suf A args,xs=pre++x::suf->J pre A->KeepB n0 C W A->enc x A args->Yld P l args A (λ v B=>
   (v= .bool true/\J (pre++ [x]) B/\KeepB n0 C A B)\/(v= .bool false/\Jx (pre++ [x]) B)))->
  J [] W->Fn P g (#[.func (.yield l) #[] #[]]++cap) W (λ _ B=>J xs B\/∃pre x suf,xs=pre++x::suf/\Jx (pre++ [x]) B)
theorem Iter.toG{α:Type}{P:Program}{g:FuncId}{cap:Array Value}{n0:Nat}{xs:List α}{enc:α->World->Array Value->Prop}(h:Iter P g cap W0 n0 C xs enc):
  zkd P g cap W0 n0 C 0 (λ pre x=>∃suf,xs=pre++x::suf) (λ l=>l=xs) enc:=λ l J Jx W h1 h2 h3 h4 h5 h6=>
 yfm (h l J Jx W h1 h2 (λ pre A B hj hk=>h3 pre A B hj (hk.mono (λ _ _ h=>h.elim))) (λ pre A B hj hk=>h4 pre A B hj (hk.mono (λ _ _ h=>h.elim)))
  (λ pre x suf A args e hj hk he=>Yld.mono (h5 pre x A args ⟨suf,e⟩ hj (by have:=hk.size;omega) hk he) (λ v B hr=>by
   rcases hr with ⟨h1,h2,h3,_⟩|hr
   ·exact .inl ⟨h1,h2,h3⟩
   ·exact .inr hr)) h6) (λ v B hr=>by
  rcases hr with hr| ⟨pre,x,suf,e,hr⟩
  ·exact .inl ⟨xs,rfl,hr⟩
  ·exact .inr ⟨pre,x,⟨suf,e⟩,hr⟩)
def zdC(σ:Sto):List (Tmp×Value)->Sto
 | []=>σ
 | (t,v)::l=>zdC (upd σ t v) l
theorem zcN(n:Nat)(ds:List Deferred):∀(l:List (Tmp×Value)) (σ:Sto),l.foldl (λ t (p,v)=>t.setIfInBounds p v) (act n σ ds).tmps=(act n (zdC σ l) ds).tmps
 | [],_=>rfl
 | (p,v)::l,σ=>by
  simp only[yce,zn1];exact zcN n ds l (upd σ p v)
theorem zmw(σ:Sto):zdC σ []=σ:=nr rfl
theorem zlm(σ:Sto)(t:Tmp)(v:Value)(l:List (Tmp×Value)):zdC σ ((t,v)::l)=zdC (upd σ t v) l:=nr rfl
theorem zip_l(l:List Tmp)(m:List Value):(l.toArray.zip m.toArray).toList=l.zip m:=sM
theorem zip_cons(a:Tmp)(b:Value)(l:List Tmp)(m:List Value):(a::l).zip (b::m)=(a,b)::l.zip m:=nr rfl
theorem zip_nil:([]:List Tmp).zip ([]:List Value)=[]:=nr rfl
attribute [go_sem] zmw zlm zip_l zip_cons zip_nil
def two(D:Nat):Nat->Prop:=λ b=>b=D\/b=D+1
theorem zaB{r:Nat}{o:Obj}(hr:S r):Keep S w (w.putObj r o):=
 ⟨rfl,rfl,rfl,sM,λ b _ hb=>yax (λ e=>hb (e▸hr)),ynl _⟩
def zmE{α:Type}(I:List α->World->Prop)(Ix:Code->List α->World->Prop)(n2:Nat)(C:Nat->Prop)(pre':List α)(A:World):Post
 | .normal,_,_,B=>I pre' B/\KeepB n2 C A B
 | .ret,_,_,B=>Ix .ret pre' B/\KeepB n2 C A B
 | .exit id,_,_,B=>Ix (.exit id) pre' B/\KeepB n2 C A B
 | .goto t,_,_,B=>Ix (.goto t) pre' B/\KeepB n2 C A B
 |_,_,_,_=>False
def zeo(fn:FuncId)(tmps:Array Value)(ps:Array Tmp)(assign body:Code)(D:Nat)(st:LoopState)(pe:Option Code):Loop:=
 {state:=st,pending:=pe,fn,tmps,params:=ps,assign,body,defers:=D}
theorem zk7{α:Type}{P:Program}{n:Nat}{f:Operand}{ps:Array Tmp}{assign body:Code}{Q:Post}{σ:Sto}{ds:List Deferred}
  {g:FuncId} {cap:Array Value} {n0:Nat} {own:Nat} {Pre:List α->α->Prop} {Full:List α->Prop} {enc:α->World->Array Value->Prop}
  (hf:ev n σ f= .func (.func g) #[] cap) (hc:zaD P g=true) (hit:zkd P g cap W0 n0 C own Pre Full enc) (hW0:Ext W0 w) (hn0:n0<=w.heap.size) (hCn:∀b,C b->b<w.heap.size)
  (henc:∀x A args,enc x A args->args.size=ps.size)
  (I:List α->World->Prop) (Ix:Code->List α->World->Prop)
  (hI:∀pre A B,I pre A->Keep (span w.heap.size (2+own)) A B->I pre B)
  (hIx:∀c pre A B,Ix c pre A->Keep (span w.heap.size (2+own)) A B->Ix c pre B)
  (h0:I [] w)
  (hround:∀(l:Nat) (pre:List α) (x:α) (A:World) (args:Array Value),Pre pre x->w.heap.size+2+own<=A.heap.size->I pre A->enc x A args->
   W P (some l) n assign (zdF (λ σ1 ds1 A1=>ds1=[]/\KeepB (w.heap.size+2+own) C A A1/\∀A2,Keep (two w.heap.size) A1 A2->W P (some l) n body (zmE I Ix (w.heap.size+2+own) C (pre++ [x]) A2) σ1 [] A2) (λ _ _ _ _=>False))
    (zdC σ (ps.zip args).toList) [] A)
  (hdone:∀xs w',Full xs->w.heap.size+2<=w'.heap.size->I xs w'->w'.heap[w.heap.size]? =some (.deferred (some []))->Q .normal σ ({target:= .collected w.heap.size,args:=#[]}::ds) w')
  (hstop:∀c pre x w',w.heap.size+2<=w'.heap.size->Pre pre x->Ix c (pre++ [x]) w'->w'.heap[w.heap.size]? =some (.deferred (some []))->
   W P .none n c Q σ ({target:= .collected w.heap.size,args:=#[]}::ds) w'):
  W P .none n (.rangeFunc f ps assign body) Q σ ds w:=by
 refine wpIn_rangeFunc ?_;intro fn _;generalize hrec:zeo fn (act n σ ds).tmps ps assign body w.heap.size=rec;obtain⟨W1,hW1⟩:∃W1,(w.alloc (.deferred (some []))).alloc (.loop (rec .ready .none))=W1:=⟨_,rfl⟩;have hsz1:W1.heap.size=w.heap.size+2:=by rw[←hW1];simp
 have hL1:W1.heap[w.heap.size+1]? =some (.loop (rec .ready .none)):=by
  rw[←hW1];have:=ybd (w.alloc (.deferred (some []))) (.loop (rec .ready .none));rwa [ybT]at this
 have hK1:W1.heap[w.heap.size]? =some (.deferred (some [])):=by
  rw[←hW1];exact(yaE _ _ _ sM).trans (ybd w _)
 have hE1:Ext w W1:=by rw[←hW1];exact(yea w _).trans (yea _ _)
 have hI1:I [] W1:=hI _ _ _ h0 (hE1.mono (λ _ _ h=>h.elim));have hl2:two w.heap.size (w.heap.size+1):= .inr rfl;have hl2':span w.heap.size (2+own) (w.heap.size+1):=by unfold span;omega
 refine⟨w.heap.size+1,[{target:= .collected w.heap.size,args:=#[]}],W1,{target:= .fn (.func g) cap,args:=#[.func (.yield (w.heap.size+1)) #[] #[]]},W1,g,
  #[.func (.yield (w.heap.size+1)) #[] #[]]++cap,W1,?_,?_,?_,?_,zdt,?_⟩
 ·rw[←hW1,←hrec];exact run_enterLoop_outer _ _ _ _ _
 ·simp only[resolve,zcw,hf];simp[Deferred.ofValue,ev]
 ·intro f' hf';trivial
 ·simp only[invoke];exact zbM hc
 ·-- the iterator's contract
  have hsp:∀{n:Nat} b,b<n->span W1.heap.size own b->span w.heap.size (2+own) b:=λ b _ h=>by unfold span at*;omega
  have hCl:∀b,two w.heap.size b->¬C b:=λ b hb hcb=>by have:=hCn b hcb;rcases hb with rfl|rfl<;>omega
  refine zcQ (CallsIn.mono (hit (w.heap.size+1)
   (λ pre B=>I pre B/\w.heap.size+2<=B.heap.size/\B.heap[w.heap.size+1]? =some (.loop (rec .ready .none))/\B.heap[w.heap.size]? =some (.deferred (some [])))
   (λ pre B=>∃c,Ix c pre B/\w.heap.size+2<=B.heap.size/\B.heap[w.heap.size+1]? =some (.loop (rec .done (some c)))/\B.heap[w.heap.size]? =some (.deferred (some [])))
   W1 (hW0.trans hE1) oM ?_ ?_ ?_ ⟨hI1,oM,hL1,hK1⟩) ?_)
  ·rintro pre A B ⟨hi,hs,hl,hk⟩ hAB;exact⟨hI _ _ _ hi (hAB.mono hsp),yaD hs hAB.size,(hAB.block _ oM (by unfold span;omega)).trans hl,(hAB.block _ oM (by unfold span;omega)).trans hk⟩
  ·rintro pre A B ⟨c,hi,hs,hl,hk⟩ hAB;exact⟨c,hIx _ _ _ _ hi (hAB.mono hsp),yaD hs hAB.size,(hAB.block _ oM (by unfold span;omega)).trans hl,(hAB.block _ oM (by unfold span;omega)).trans hk⟩
  ·-- one round
   rintro pre x A args hxs ⟨hi,hs,hl,hk⟩ hsA _ hx;have hy:=run_yield (P:=P) (args:=args) hl (by rw[←hrec];exact henc x A args hx);unfold Yld zg6
   dsimp only
   rw[show (#[]++args:Array Value)=args from by simp];rw[hy,←hrec]
   dsimp only[zeo,opR]
   refine zcK (r:= .none) (n:=0) (roundIn_of_wpIn (F:=fw .none) (n:=0) trivial ?_);have hin:(fw .none).inRound (w.heap.size+1)=fw (some (w.heap.size+1)):=rfl;rw[hin];have hfold:(ps.zip args).foldl (λ t (x:Tmp×Value)=>t.setIfInBounds x.1 x.2) (act n σ ds).tmps=(act n (zdC σ (ps.zip args).toList) []).tmps:=by
    rw[←ybW];exact zcN n ds _ σ
   have hst:({tmps:=(ps.zip args).foldl (λ t (x:Tmp×Value)=>t.setIfInBounds x.1 x.2) (act n σ ds).tmps,defers:=[]}:Act)=act n (zdC σ (ps.zip args).toList) []:=by
    rw[hfold];rfl
   have hr:=hround (w.heap.size+1) pre x A args hxs oM hi hx;unfold W at hr;rw[←hst]at hr;refine wpIn_mono hr ?_;rintro e a A1 ⟨σ1,ds1,rfl,hq⟩;cases e with
   |normal=>
    obtain⟨rfl,hA1,hbody⟩:=hq;have hlA1:A1.heap[w.heap.size+1]? =some (.loop (rec .ready .none)):=(hA1.block _ oM (hCl _ hl2)).trans hl;have hkA1:A1.heap[w.heap.size]? =some (.deferred (some [])):=(hA1.block _ oM (hCl _ (.inl rfl))).trans hk;have hlt1:w.heap.size+1<A1.heap.size:=(yaa.1 hlA1).1;refine⟨_,run_beginRound hlA1 (by rw[←hrec];rfl),?_⟩;have hb:=hbody _ (zaB (w:=A1) (r:=w.heap.size+1) (o:= .loop {rec .ready .none with state:= .busy}) hl2);refine wpIn_mono hb ?_;have hlA2:(A1.putObj (w.heap.size+1) (.loop {rec .ready .none with state:= .busy})).heap[w.heap.size+1]? =some (.loop {rec .ready .none with state:= .busy}):=yaX hlt1;have hkA2:(A1.putObj (w.heap.size+1) (.loop {rec .ready .none with state:= .busy})).heap[w.heap.size]? =some (.deferred (some [])):=(yax oM).trans hkA1;have fin:∀(jump:Option Code) (B:World),KeepB (w.heap.size+2+own) C (A1.putObj (w.heap.size+1) (.loop {rec .ready .none with state:= .busy})) B->
      (Instr.endRound (w.heap.size+1) jump).run P B= .ok (.bool jump.isNone) (B.putObj (w.heap.size+1) (.loop (rec (if jump.isNone then .ready else .done) jump)))/\
      w.heap.size+2<=(B.putObj (w.heap.size+1) (.loop (rec (if jump.isNone then .ready else .done) jump))).heap.size/\
      (B.putObj (w.heap.size+1) (.loop (rec (if jump.isNone then .ready else .done) jump))).heap[w.heap.size+1]? =some (.loop (rec (if jump.isNone then .ready else .done) jump))/\
      (B.putObj (w.heap.size+1) (.loop (rec (if jump.isNone then .ready else .done) jump))).heap[w.heap.size]? =some (.deferred (some []))/\
      KeepB n0 C A (B.putObj (w.heap.size+1) (.loop (rec (if jump.isNone then .ready else .done) jump)))/\
      ∀b,span W1.heap.size own b->(B.putObj (w.heap.size+1) (.loop (rec (if jump.isNone then .ready else .done) jump))).heap[b]? =A.heap[b]?:=by
     intro jump B hB;have hlB:=(hB.block _ oM (hCl _ hl2)).trans hlA2;have hkB:=(hB.block _ oM (hCl _ (.inl rfl))).trans hkA2;have hltB:w.heap.size+1<B.heap.size:=(yaa.1 hlB).1;refine⟨?_,by simp;omega,yaX hltB,(yax oM).trans hkB,?_,?_⟩
     ·have:=run_endRound (P:=P) jump hlB;rw[←hrec]at this ⊢;exact this
     ·refine(hA1.mono oM (λ _ _ h=>h)).trans (KeepB.trans ?_ ((hB.mono oM (λ _ _ h=>h)).trans ?_))
      ·exact(zaB (S:=two w.heap.size) hl2).toB oM (λ i hi hs=>by rcases hs with rfl|rfl<;>omega)
      ·exact(zaB (S:=two w.heap.size) hl2).toB oM (λ i hi hs=>by rcases hs with rfl|rfl<;>omega)
     ·intro b hb;unfold span at hb;have hCb:¬C b:=λ h=>by have:=hCn b h;omega
      exact(yax oM).trans ((hB.block b oM hCb).trans ((yax oM).trans (hA1.block b oM hCb)))
    rintro e a B ⟨σ2,ds2,rfl,hq⟩;cases e with
    |normal=>
     obtain⟨hi',hB⟩:=hq;obtain⟨h1,h2,h3,h4,h5,h6⟩:=fin .none B hB;exact⟨_,_,h1,_,rfl,.inl ⟨rfl,⟨hI _ _ _ hi' (zaB hl2'),h2,h3.trans (by rw[←hrec];rfl),h4⟩,h5,h6⟩⟩
    |ret=>
     obtain⟨hi',hB⟩:=hq;obtain⟨h1,h2,h3,h4,h5,_⟩:=fin (some .ret) B hB;exact⟨_,_,h1,_,rfl,.inr ⟨rfl,_,hIx _ _ _ _ hi' (zaB hl2'),h2,h3.trans (by rw[←hrec];rfl),h4⟩⟩
    |exit id=>
     obtain⟨hi',hB⟩:=hq;obtain⟨h1,h2,h3,h4,h5,_⟩:=fin (some (.exit id)) B hB;exact⟨_,_,h1,_,rfl,.inr ⟨rfl,_,hIx _ _ _ _ hi' (zaB hl2'),h2,h3.trans (by rw[←hrec];rfl),h4⟩⟩
    |goto t=>
     obtain⟨hi',hB⟩:=hq;obtain⟨h1,h2,h3,h4,h5,_⟩:=fin (some (.goto t)) B hB;exact⟨_,_,h1,_,rfl,.inr ⟨rfl,_,hIx _ _ _ _ hi' (zaB hl2'),h2,h3.trans (by rw[←hrec];rfl),h4⟩⟩
    |panic c=>exact hq.elim
    |outgrown=>exact hq.elim
   |ret=>exact hq.elim
   |exit id=>exact hq.elim
   |goto t=>exact hq.elim
   |panic c=>exact hq.elim
   |outgrown=>exact hq.elim
  ·rintro e B ⟨v,rfl,h⟩;rcases h with ⟨xs,hfull,hi,hs,hl,hk⟩| ⟨pre,x,hxs,c,hi,hs,hl,hk⟩
   ·have hend:=run_endLoop (P:=P) hl (by rw[←hrec];simp[zeo]);have hp:(rec LoopState.ready .none).pending= .none:=by rw[←hrec];rfl
    rw[hp]at hend;refine⟨.none,_,hend,?_⟩;exact⟨σ,_,rfl,hdone xs _ hfull (by simp;omega) (hI _ _ _ hi (zaB hl2')) ((yax oM).trans hk)⟩
   ·have hend:=run_endLoop (P:=P) hl (by rw[←hrec];simp[zeo]);have hp:(rec LoopState.done (some c)).pending=some c:=by rw[←hrec];rfl
    rw[hp]at hend;refine⟨some c,_,hend,?_⟩;exact hstop c pre x _ (by simp;omega) hxs (hIx _ _ _ _ hi (zaB hl2')) ((yax oM).trans hk)
theorem zd4{α:Type}{P:Program}{n:Nat}{f:Operand}{ps:Array Tmp}{assign body:Code}{Q:Post}{σ:Sto}{ds:List Deferred}{w:World}
  {g:FuncId} {cap:Array Value} {W0:World} {n0:Nat} {C:Nat->Prop} {xs:List α} {enc:α->World->Array Value->Prop}
  (hf:ev n σ f= .func (.func g) #[] cap) (hc:zaD P g=true) (hit:Iter P g cap W0 n0 C xs enc) (hW0:Ext W0 w) (hn0:n0<=w.heap.size) (hCn:∀b,C b->b<w.heap.size)
  (henc:∀x A args,enc x A args->args.size=ps.size)
  (I:List α->World->Prop) (Ix:Code->List α->World->Prop)
  (hI:∀pre A B,I pre A->Keep (two w.heap.size) A B->I pre B)
  (hIx:∀c pre A B,Ix c pre A->Keep (two w.heap.size) A B->Ix c pre B)
  (h0:I [] w)
  (hround:∀(l:Nat) (pre:List α) (x:α) (suf:List α) (A:World) (args:Array Value),xs=pre++x::suf->w.heap.size+2<=A.heap.size->I pre A->enc x A args->
   W P (some l) n assign (zdF (λ σ1 ds1 A1=>ds1=[]/\KeepB (w.heap.size+2) C A A1/\∀A2,Keep (two w.heap.size) A1 A2->W P (some l) n body (zmE I Ix (w.heap.size+2) C (pre++ [x]) A2) σ1 [] A2) (λ _ _ _ _=>False))
    (zdC σ (ps.zip args).toList) [] A)
  (hdone:∀w',w.heap.size+2<=w'.heap.size->I xs w'->w'.heap[w.heap.size]? =some (.deferred (some []))->Q .normal σ ({target:= .collected w.heap.size,args:=#[]}::ds) w')
  (hstop:∀c pre x suf w',w.heap.size+2<=w'.heap.size->xs=pre++x::suf->Ix c (pre++ [x]) w'->w'.heap[w.heap.size]? =some (.deferred (some []))->
   W P .none n c Q σ ({target:= .collected w.heap.size,args:=#[]}::ds) w'):
  W P .none n (.rangeFunc f ps assign body) Q σ ds w:= 
 zk7 hf hc hit.toG hW0 hn0 hCn henc I Ix (λ pre A B hi hk=>hI pre A B hi (hk.mono (λ b _ h=>by unfold span at h;unfold two;omega))) (λ c pre A B hi hk=>hIx c pre A B hi (hk.mono (λ b _ h=>by unfold span at h;unfold two;omega))) h0 (λ l pre x A args ⟨suf,e⟩=>hround l pre x suf A args e) (λ ys w' e=>by subst e;exact hdone w')
  (λ c pre x w' hs ⟨suf,e⟩=>hstop c pre x suf w' hs e)
theorem zcY{P:Program}{fn:Func}{R:Value->World->Prop}{e:Exit}{σ:Sto}(he:e= .normal\/e= .ret){t:Tmp}{D:Nat}(hl:fn.results.toList=[.tmp t])(hm:fn.ntmps=m)
  (hv:ev m σ (.tmp t)=v) (hD:w.heap[D]? =some (.deferred (some []))) (h:∀w',Keep (λ b=>b=D) w w'->w'.heap.size=w.heap.size->R v w'):
  retQ P fn R e σ [{target:= .collected D,args:=#[]}] w:=by
 refine⟨he,⟨D,rfl,hD,trivial⟩,[v],?_,h _ (zaB rfl) (by simp[shut])⟩;rw[hl,hm,←hv];rfl
theorem ziy{P:Program}{fn:Func}{R:Value->World->Prop}{e:Exit}{σ:Sto}(he:e= .normal\/e= .ret){t t':Tmp}{D:Nat}{v':Value}(hl:fn.results.toList=[.tmp t,.tmp t'])(hm:fn.ntmps=m)
  (hv:ev m σ (.tmp t)=v) (hv':ev m σ (.tmp t')=v') (hD:w.heap[D]? =some (.deferred (some []))) (h:∀w',Keep (λ b=>b=D) w w'->w'.heap.size=w.heap.size->R (.tuple #[v,v']) w'):
  retQ P fn R e σ [{target:= .collected D,args:=#[]}] w:=by
 refine⟨he,⟨D,rfl,hD,trivial⟩,[v,v'],?_,h _ (zaB rfl) (by simp[shut])⟩;rw[hl,hm,←hv,←hv'];rfl
theorem zgT{α:Type}:∀(a:Ask α) (w:World),w.drawn<=(w.ask a).2.drawn
 | .done _,w=>ynl _
 | .ask what range k,w=>by
  unfold World.ask
  dsimp only
  split
  ·exact zgT _ _
  ·exact yaD (ydy _) (zgT (k _) {w with drawn:=w.drawn+1})
theorem zmi(w:World)(c:Sys):w.drawn<=(w.sys c).2.drawn:=by
 have h:=zgT (Kernel.perform c w.os) w;unfold World.sys
 split
 ·exact ynl _
 ·rename_i heq;rw[heq]at h;exact h
theorem zf7{p:Program}{w':World}{at_:Addr}{u:TypeId}{k:Addr}{b:Bool}{l:List Addr}(h:w.viewStore p at_ u k v b= .ok (w',l)):w'.drawn=w.drawn:=by
 unfold World.viewStore at h;simp only[bind,Except.bind,pure,Except.pure,throw,throwThe,MonadExceptOf.throw]at h;repeat' split at h
 all_goals first
  | (cases h;done)
  | (cases h;rfl)
theorem zg4{p:Program}{w':World}{a:Addr}{b:Bool}{l:List Addr}(h:w.farStore p a v b= .ok (w',l)):w'.drawn=w.drawn:=by
 unfold World.farStore at h
 split at h
 ·split at h
  ·rename_i r hr;cases h;exact zf7 hr
  ·cases h
 ·cases h
theorem zaW{α:Type}{P:Program}:∀(s:Sem α) (w:World) (v:α) (w':World),s.run P w= .ok v w'->w.drawn<=w'.drawn
 | .pure a,w,v,w',h=>by simp only[Sem.run]at h;cases h;exact ynl _
 | .load m a k,w,v,w',h=>by
  simp only[Sem.run]at h
  split at h
  ·exact zaW _ _ _ _ h
  ·split at h
   ·exact zaW _ _ _ _ h
   ·cases h
 | .store m a x k,w,v,w',h=>by
  have hgo:(match w.cell? a with
   |some _=>if w.frozen? a then Result.halt (.unsupported (.unsafePointer "a write to bytes that a string shares")) w else k.run P (w.setCell a x)
   |Option.none=>match w.farStore P a x (m== .atomic) with
    | .ok (w,_)=>k.run P w
    | .error h=> .halt h w)=Result.ok v w'->w.drawn<=w'.drawn:=fun h=>by
   split at h
   ·split at h
    ·cases h
    ·have:=zaW k _ _ _ h;exact this
   ·split at h
    ·rename_i hf;have:=zg4 hf;have h2:=zaW k _ _ _ h;omega
    ·cases h
  cases x<;>first| (simp only[Sem.run]at h;cases h;done)| (simp only[Sem.run]at h;exact hgo h)
 | .new o k,w,v,w',h=>by simp only[Sem.run]at h;exact zaW (k _) {w with heap:=w.heap.push o} _ _ h
 | .shape r k,w,v,w',h=>by simp only[Sem.run]at h;exact zaW _ _ _ _ h
 | .freeze a n k,w,v,w',h=>by
  simp only[Sem.run]at h;have:=zaW k _ _ _ h;have e:(w.freeze a n).drawn=w.drawn:=by unfold World.freeze;split<;>rfl
  rwa [e]at this
 | .frozen a k,w,v,w',h=>by simp only[Sem.run]at h;exact zaW _ _ _ _ h
 | .getObj r k,w,v,w',h=>by
  simp only[Sem.run]at h
  split at h
  ·cases h
  ·exact zaW _ _ _ _ h
  ·cases h
 | .setObj r o k,w,v,w',h=>by
  simp only[Sem.run]at h
  split at h
  ·cases h
  ·exact zaW k {w with heap:=w.heap.setIfInBounds r o} _ _ h
  ·cases h
 | .choose q k,w,v,w',h=>by
  simp only[Sem.run]at h
  split at h
  ·exact zaW _ _ _ _ h
  ·exact yaD (ydy _) (zaW (k _) {w with drawn:=w.drawn+1} _ _ h)
 | .sys c k,w,v,w',h=>by
  simp only[Sem.run]at h;exact yaD (zmi w c) (zaW _ _ _ _ h)
 | .program k,w,v,w',h=>by simp only[Sem.run]at h;exact zaW _ _ _ _ h
 | .mark m k,w,v,w',h=>by simp only[Sem.run]at h;exact zaW k _ _ _ h
 | .halt h0,w,v,w',h=>by simp only[Sem.run]at h;cases h
def zae(c:UInt8):Value:= .int .u8 c.toNat
section
variable {P : Program} {d : Option Tmp} {ty : TypeId} {ps : String} {af : Array Edge} {g : Option (Nat × Bool)} {ρ : Operand -> Value} {w : World} {K : Value -> World -> Prop}
theorem zhj{w':World}{row:Option Nat}(h:w.grownBy w' row)(hd:w.drawn<=w'.drawn):Keep (λ b=>some b=row) w w':=⟨h.os,h.tape,h.output,h.size,h.block,hd⟩
theorem zaM{b:Nat}{cur:Array Value}{e:TypeId}{fr:Nat×Nat}(h:w.heap[b]? =some (.cells cur e fr))(j:Nat):w.cell? ⟨b,j,.none⟩=cur[j]?:=by
 simp[World.cell?,h]
theorem zgz{cur:Array Value}{fr:Nat×Nat}(h:w.heap[b]? =some (.cells cur e fr))(j:Nat):w.frozen? ⟨b,j,.none⟩=(decide (fr.1<=j) && decide (j<fr.2)):=by
 obtain⟨lo,hi⟩:=fr;simp[World.frozen?,h]
theorem zkr(w:World)(b j:Nat)(v:Value):Keep (λ i=>i=b) w (w.setCell ⟨b,j,.none⟩ v):=
 ⟨rfl,rfl,rfl,sM,λ i _ hne=>RowKit.Below.heap_setCell w _ v i hne,ynl _⟩
theorem ziv{cur:Array Value}{fr:Nat×Nat}(h:w.heap[b]? =some (.cells cur e fr)):
  (w.setCell ⟨b,j,.none⟩ v).heap[b]? =some (.cells (cur.setIfInBounds j v) e fr):=by
 simp[World.setCell,ybX,h]
theorem zbx{t:TypeId}{b j:Nat}{v:Value}{cur:Array Value}{e:TypeId}{fr:Nat×Nat}(hs:tyS P t=1)(hi:(P.info? t).isSome=true)(hv:one v=true)
  (hb:w.heap[b]? =some (.cells cur e fr)) (hj:j<cur.size) (hf:fr.2<=j\/j<fr.1)
  (h:∀w',w'.heap.size=w.heap.size->w'.heap[b]? =some (.cells (cur.setIfInBounds j v) e fr)->Keep (λ i=>i=b) w w'->K undef w'):
  stK P t (.pointer (some ⟨b,j,.none⟩)) v w K:=by
 have hc:v.cells=#[v]:=by cases v<;>first|rfl| (simp[one]at hv)
 refine⟨by rw[hc,hs];rfl,hi,w.setCell ⟨b,j,.none⟩ v,?_,h _ sM (ziv hb) (zkr w b j v)⟩;rw[hc];have h1:(w.cell? ⟨b,j,.none⟩).isSome=true:=by rw[zaM hb];simp[hj]
 have h2:w.frozen? ⟨b,j,.none⟩=false:=by
  rw[zgz hb];rcases hf with hf|hf
  ·simp;omega
  ·simp;omega
 simp[stC,zf1,hv,h1,h2]
theorem zam(w:World)(o:Obj):(w.alloc o).heap[w.heap.size]? =some o:=ybd w o
theorem zai(w:World)(o:Obj):(w.alloc o).heap.size=w.heap.size+1:=sM
theorem zkV{s t e:TypeId}{x:Operand}{l:List UInt8}(hs:tyU P s=some .string)(hd:tyU P t=some (.slice e))(he:tyU P e=some (.int .u8))(hx:ρ x=vs l)
  (h:∀(c:Nat) (cur:Array Value) (w':World),l.length<=c->cur.size=c->cur.toList.take l.length=l.map zae->Ext w w'->w'.heap.size=w.heap.size+1->
   w'.heap[w.heap.size]? =some (.cells cur e (c,c+1))->K (.slice (some ⟨w.heap.size,0,.none⟩) l.length c) w'):
  optK (cvD (some .string) (some (.slice e)) (vs l)) w K (opW P ⟨d,.convert s t x,ty,ps,af,g⟩ ρ w K):=by
 have hrun:=run_bytes_of_string (P:=P) w s t e ⟨l.toArray⟩ hs hd he;have hsz:(⟨l.toArray⟩:ByteArray).size=l.length:=rfl;rw[hsz]at hrun;have hge:=grownCap_ge w l.length 0 e;generalize grownCap w l.length 0 e=c at hrun hge;have hbs:(bytesRow ⟨l.toArray⟩ c).size=c:=by simp[bytesRow,hsz];omega
 rw[hbs]at hrun;show opR P K ((do pure (.value (←convert s t (ρ x))):Sem Next).run P w);rw[hx];refine zaI hrun (h c _ _ hge hbs ?_ (Ext.drew_alloc w _) sM (ybd w.drew _));unfold bytesRow;simp only[Array.toList_append,Array.toList_map];rw[List.take_append_of_le_length sM,yaf sM]
 rfl
theorem zcv{s t e:TypeId}{x:Operand}{a:Option Addr}{c:Nat}{l:List UInt8}(hs:tyU P s=some (.slice e))(hd:tyU P t=some .string)(he:tyU P e=some (.int .u8))
  (hx:ρ x= .slice a l.length c) (hl:∀j (hj:j<l.length),zad w (adr a j)=some (zae l[j])) (h:K (vs l) w):
  optK (cvD (some (.slice e)) (some .string) (.slice a l.length c)) w K (opW P ⟨d,.convert s t x,ty,ps,af,g⟩ ρ w K):=by
 show opR P K ((do pure (.value (←convert s t (ρ x))):Sem Next).run P w);rw[hx];cases a with
 |none=>
  cases l with
  |nil=>
   refine zaI (v:=vs []) (w':=w) ?_ h;simp[convert,underlying,program,Sem.run,show P.underlying s=_ from hs,show P.underlying t=_ from hd,show P.underlying e=_ from he,Conv.bytesToString]
   rfl
  |cons c l=>have:=hl 0 sM;simp[zad,adr]at this
 |some a=>
  have:=run_convert_bytes_back (P:=P) w s t e a c l hs he hd (λ j hj=>by
   have:=hl j hj;simpa [zad,adr,zae] using this)
  exact zaI this h
def Src1(w:World)(u:Value)(m:Nat)(size:Nat)(news:List Value):Prop:=
 ∃a c,u= .slice a m c/\news.length=m*size/\∀j (h:j<news.length),zad w (adr a j)=some news[j]
theorem Src1.of_row(h:Row w u l):Src1 w u l.length 1 l:=by
 obtain⟨a,c,rfl,_,hl⟩:=h;exact⟨a,c,rfl,sM,hl⟩
theorem zcJ{b:Builtin}{s x:Operand}{ts:Array TypeId}{r:Result Value}
  (h:∀v w',(Builtin.append_ ts ty #[ρ s,ρ x]).run P w= .ok v w'->K v w') (hr:∃v w',(Builtin.append_ ts ty #[ρ s,ρ x]).run P w= .ok v w'):
  opW P ⟨d,.call ⟨.builtin .append,#[s,x],ts⟩,ty,ps,af,g⟩ ρ w K:=by
 obtain⟨v,w',hv⟩:=hr;simp only[opW,execOp,yaJ,resolve];simp only[yaR,yaz,invoke,builtin];exact zaI (s:=Builtin.append_ ts ty (Array.map ρ #[s,x])) (sU hv) (h v w' hv)
theorem zdL{B:Nat}{s x:Operand}{t e:TypeId}{inf:TypeInfo}{z:Value}{size bytes:Nat}(ht:tyU P t=some (.slice e))(hi:P.info? e=some inf)(hz:inf.zero=some z)
  (hsize:inf.size=size) (hby:inf.bytes=bytes) (hzs:z.cells.size=size) (hsz:0<size) {v u:Value} (hv:ρ s=v) (hu:ρ x=u) {n m:Nat} {xs news:List Value}
  (hown:w.ownsRow B e size v n xs) (hsrc:Src1 w u m size news) (h1:∀q∈news,one q=true) (h63:n+m<=maxLen) (hbytes:(n+m)*bytes<=140737488355328) (hB:B<=w.heap.size)
  (h:∀v' w',w'.ownsRow B e size v' (n+m) (xs++news)->Keep (λ b=>some b=v.ownBlock) w w'->((v'= .slice .none 0 0↔v= .slice .none 0 0/\m=0)/\∀b,some b=v'.ownBlock->some b=v.ownBlock\/w.heap.size<=b)->K v' w'):
  opW P ⟨d,.call ⟨.builtin .append,#[s,x],#[t,t]⟩,ty,ps,af,g⟩ ρ w K:=by
 obtain⟨a,c,rfl,hl,hc⟩:=hsrc;have h1':∀q∈news,q.oneCell'=true:=λ q hq=>by
  have:=h1 q hq;cases q<;>first|rfl| (simp[one]at this)
 have key:∃v' w',(Builtin.append_ #[t,t] ty #[v,.slice a m c]).run P w= .ok v' w'/\w'.ownsRow B e size v' (n+m) (xs++news)/\w.grownBy w' v.ownBlock/\
   (v'= .slice .none 0 0↔v= .slice .none 0 0/\m=0):=by
  cases a with
  |some a=>
   exact run_append_own (P:=P) w B t ty e inf z size bytes ht hi hz hsize hby hzs hsz v n xs hown a m c news hl (λ j q hj=>by
    obtain⟨hlt,rfl⟩:=yaj.1 hj;have:=hc j hlt;simpa [zad,adr] using this) h1' h63 hbytes hB
  |none=>
   have hn0:news=[]:=by
    cases news with
    |nil=>rfl
    |cons q r=>have:=hc 0 sM;simp[zad,adr]at this
   subst hn0;have hm0:m=0:=by
    rcases Nat.mul_eq_zero.1 hl.symm with h|h
    ·exact h
    ·omega
   subst hm0;refine⟨v,w,?_,by simpa using hown,⟨rfl,rfl,rfl,ynl _,λ _ _ _=>rfl⟩,sM⟩;have hs':inf.size=size:=hsize;rcases hown.2 with ⟨rfl,rfl⟩| ⟨g,cap,cur,rfl,_,_,hnc,_⟩
   ·simp[Builtin.append_,underlying,program,Sem.run,show P.underlying t=_ from ht,sizeOf,typeInfo,hi,Builtin.lenOf,Builtin.firstCells]
   ·simp[Builtin.append_,underlying,program,Sem.run,show P.underlying t=_ from ht,sizeOf,typeInfo,hi,Builtin.lenOf,Builtin.firstCells,hnc,storeCells]
 obtain⟨v',w',hr,h2,h3,h4⟩:=key;refine zcJ (b:= .append) (r:= .ok v' w') (λ v1 w1 hr1=>?_) ⟨v',w',by rw[hv,hu];exact hr⟩;rw[hv,hu,hr]at hr1;cases hr1;refine h v' w' h2 (zhj h3 (zaW _ _ _ _ hr)) ⟨h4,λ b hb=>?_⟩;cases a with
 |none=>
  have:v'=v:=by
   have hn0:news=[]:=by
    cases news with
    |nil=>rfl
    |cons q r=>have:=hc 0 sM;simp[zad,adr]at this
   subst hn0;have hm0:m=0:=by
    rcases Nat.mul_eq_zero.1 hl.symm with h|h
    ·exact h
    ·omega
   subst hm0;have hx:=hown.2;rcases hown.2 with ⟨rfl,rfl⟩| ⟨g,cap,cur,rfl,_,_,hnc,_⟩
   ·simp[Builtin.append_,underlying,program,Sem.run,show P.underlying t=_ from ht,sizeOf,typeInfo,hi,Builtin.lenOf,Builtin.firstCells]at hr;exact hr.1.symm
   ·simp[Builtin.append_,underlying,program,Sem.run,show P.underlying t=_ from ht,sizeOf,typeInfo,hi,Builtin.lenOf,Builtin.firstCells,hnc,storeCells]at hr;exact hr.1.symm
  exact .inl (this▸hb)
 |some a=>
  have hnews:∀j u,news[j]? =some u->w.cell? (a.add j)=some u:=λ j q hj=>by
   obtain⟨hlt,rfl⟩:=yaj.1 hj;have:=hc j hlt;simpa [zad,adr] using this
  rcases hown.2 with ⟨rfl,rfl⟩| ⟨g,cap,cur,rfl,hbg,hg,hnc,hcm,hcs,htake⟩
  ·obtain⟨v2,w2,k1,k2,_⟩:=run_append_own (P:=P) w w.heap.size t ty e inf z size bytes ht hi hz hsize hby hzs hsz _ 0 xs (⟨hown.1,.inl ⟨rfl,rfl⟩⟩) a m c news hl hnews h1' h63 hbytes (ynl _);rw[k1]at hr;cases hr;rcases k2.2 with ⟨rfl,_⟩| ⟨g,cap,cur,rfl,hg,_⟩
   ·cases hb
   ·cases hb;exact .inr hg
  ·by_cases hroom:n+m<=cap
   ·obtain⟨w2,k1,_⟩:=run_append_fits (P:=P) w B t ty e inf size ht hi hsize g n cap xs hown a m c news hl hnews h1' hroom;rw[k1]at hr;cases hr;exact .inl hb
   ·have holds:∀j u,xs[j]? =some u->w.cell? ((⟨g,0,.none⟩:Addr).add j)=some u:=hown.cells (g:=g) rfl;subst hsize hby;have k1:=run_append_grow (P:=P) w t ty e inf z ht hi hz ⟨g,0,.none⟩ n cap xs hown.1 holds a m c news hl hnews oM (by simp only[maxLen]at h63;omega) (growslice_fits oM hbytes);rw[k1]at hr;cases hr;cases hb;exact .inr (ynl _)
end
section
variable {P : Program} {d : Option Tmp} {ty : TypeId} {ps : String} {af : Array Edge} {g : Option (Nat × Bool)} {ρ : Operand -> Value} {w : World} {K : Value -> World -> Prop}
theorem Row.of_owns{n:Nat}{xs:List Value}(h:w.ownsRow B e 1 v n xs):Row w v xs:=by
 obtain⟨hl,h⟩:=h;rw[ybt]at hl;rcases h with ⟨rfl,rfl⟩| ⟨g,cap,cur,rfl,_,hg,hn,_,hcs,hx⟩
 ·have:xs=[]:=yan.1 hl;subst this;exact⟨.none,0,rfl,ynl _,λ j h=>by simp at h⟩
 ·refine⟨_,_,by rw[hl],oM,λ j hj=>?_⟩;rw[zaY];show w.cell? _=_;rw[zaM hg,←ybV,yn0];have:xs[j]? =some xs[j]:=yam hj;rw[←this,←hx,ybM,if_pos oM]
def RowB(base:Nat)(w:World)(v:Value)(l:List Value):Prop:=Row w v l/\∀a n c,v= .slice (some a) n c->base<=a.block/\a.block<w.heap.size
theorem RowB.of_owns{n:Nat}{xs:List Value}(h:w.ownsRow B e 1 v n xs):RowB B w v xs:=by
 refine⟨Row.of_owns h,λ a m c hv=>?_⟩;rcases h.2 with ⟨h1,_⟩| ⟨g,cap,cur,h1,hg,hb,_⟩
 ·rw[h1]at hv;cases hv
 ·rw[h1]at hv;cases hv;exact⟨hg,(yaa.1 hb).1⟩
theorem RowB.mono{B':Nat}(h:RowB B w v l)(hB:B'<=B):RowB B' w v l:=⟨h.1,λ a n c hv=>⟨yaD hB (h.2 a n c hv).1,(h.2 a n c hv).2⟩⟩
theorem Row.blocks(h:Row w v l)(hb:∀a n c,v= .slice (some a) n c->x.heap[a.block]? =w.heap[a.block]?):Row x v l:=by
 obtain⟨a,c,rfl,hc,hl⟩:=h;refine⟨a,c,rfl,hc,λ j hj=>?_⟩;cases a with
 |none=>exact hl j hj
 |some a=>
  have:=hb a _ _ rfl;have h2:=hl j hj;show x.cell? (a.add j)=_;have hbl:(a.add j).block=a.block:=by unfold Addr.add;split<;>rfl
  rw[ycY (w:=w) (by rw[hbl];exact this)];exact h2
theorem ziF{x y:Operand}{inf:TypeInfo}{z:Value}{n:Nat}(ht:tyU P t=some (.slice e))(hi:P.info? e=some inf)(hz:inf.zero=some z)(hsize:inf.size=1)
  (hx:ρ x=vi n) (hy:ρ y=vi n) (hbytes:inf.bytes*n<=281474976710656) (h63:n<=9223372036854775807) (hz1:z.cells=#[z])
  (h:K (.slice (some ⟨w.heap.size,0,.none⟩) n n) (w.alloc (.cells (madeCells #[z] n) e))):
  opW P ⟨d,.makeSlice t x y,ty,ps,af,g⟩ ρ w K:=by
 have hb':(inf.bytes:Int)*(n:Int)<=281474976710656:=by
  have h:((inf.bytes*n:Nat):Int)<=281474976710656:=oM
  rwa [Int.natCast_mul]at h
 have hr:=run_make (P:=P) w t e inf z ht hi hz .i64 .i64 (n:Int) (n:Int) oM (ydp _) hb' oM;simp only[ycQ,hsize,ybt,hz1]at hr;show opR P K _;refine zaI (s:=Instr.makeSlice t (ρ x) (ρ y)) (by rw[hx,hy];exact hr) h
theorem set1{A:Array Value}(h:A.size=1)(v:Value):A.setIfInBounds 0 v=#[v]:=by
 obtain⟨l⟩:=A
 match l,h with
 | [x],_=>rfl
theorem zic{z:Value}(hu:tyU P t=some (.slice e))(hz:tyZ P e=some z)(hs:tyS P e=1)(hz1:z.cells=#[z])(hv:v.cells=#[v]):
  bsC P t 1 [(0,v)]=some (e,#[v]):=by
 simp[bsC,hu,hz,hs,hz1,Instr.fill,hv];exact set1 sM v
end
def Own(B:Nat)(w:World)(e:TypeId)(v:Value)(l:List Value):Prop:=w.ownsRow B e 1 v l.length l
section
variable {P : Program} {d : Option Tmp} {ty : TypeId} {ps : String} {af : Array Edge} {g : Option (Nat × Bool)} {ρ : Operand -> Value} {w : World} {K : Value -> World -> Prop}
theorem Own.slice(h:Own B w e v l):∃a c,v= .slice a l.length c:=by
 rcases h.2 with ⟨rfl,h0⟩| ⟨g,cap,cur,rfl,_⟩
 ·exact⟨_,_,by rw[h0]⟩
 ·exact⟨_,_,rfl⟩
theorem Own.row(h:Own B w e v l):Row w v l:=Row.of_owns h
theorem Own.rowB(h:Own B w e v l):RowB B w v l:=RowB.of_owns h
theorem Own.nil(B:Nat)(w:World)(e:TypeId):Own B w e (.slice .none 0 0) []:=⟨rfl,.inl ⟨rfl,rfl⟩⟩
theorem Own.ge(h:Own B w e v l)(hb:some b=v.ownBlock):B<=b/\b<w.heap.size:=by
 rcases h.2 with ⟨rfl,_⟩| ⟨g,cap,cur,rfl,hg,hc,_⟩
 ·cases hb
 ·cases hb;exact⟨hg,(yaa.1 hc).1⟩
theorem Own.keep(h:Own B w e v l)(hk:Keep S w x)(hS:∀b,some b=v.ownBlock->¬S b):Own B x e v l:=by
 obtain⟨h1,h2⟩:=h;refine⟨h1,?_⟩;rcases h2 with h2| ⟨g,cap,cur,hv,hb,hg,rest⟩
 ·exact .inl h2
 ·exact .inr ⟨g,cap,cur,hv,hb,(hk.block _ (yaa.1 hg).1 (hS _ (by rw[hv];rfl))).trans hg,rest⟩
theorem Own.ext(h:Own B w e v l)(hk:Ext w x):Own B x e v l:=h.keep hk (λ _ _ h=>h)
theorem Own.mono{B':Nat}(h:Own B w e v l)(hB:B'<=B):Own B' w e v l:=by
 obtain⟨h1,h2⟩:=h;refine⟨h1,?_⟩;rcases h2 with h2| ⟨g,cap,cur,hv,hb,rest⟩
 ·exact .inl h2
 ·exact .inr ⟨g,cap,cur,hv,oM,rest⟩
theorem zc3{t e:TypeId}{z v:Value}(hu:tyU P t=some (.slice e))(hz:tyZ P e=some z)(hs:tyS P e=1)(hz1:z.cells=#[z])(hv:v.cells=#[v])
  (h:∀w1,Ext w w1->w1.heap.size=w.heap.size+1->Own w.heap.size w1 e (.slice (some ⟨w.heap.size,0,.none⟩) 1 1) [v]->K (.slice (some ⟨w.heap.size,0,.none⟩) 1 1) w1):bsL P t 1 [(0,v)] w K .mk:=by
 unfold bsL bsK;rw[zic hu hz hs hz1 hv];exact h _ (yea w _) (zai w _) ⟨rfl,.inr ⟨w.heap.size,1,#[v],rfl,ynl _,zam w _,ynl _,by decide,rfl,rfl⟩⟩
theorem set2{A:Array Value}(h:A.size=2)(u v:Value):(A.setIfInBounds 0 u).setIfInBounds 1 v=#[u,v]:=by
 obtain⟨l⟩:=A
 match l,h with
 | [x,y],_=>rfl
theorem bs_two{t e:TypeId}{z u v:Value}(hu:tyU P t=some (.slice e))(hz:tyZ P e=some z)(hs:tyS P e=1)(hz1:z.cells=#[z])(hu1:u.cells=#[u])(hv:v.cells=#[v])
  (h:∀w1,Ext w w1->w1.heap.size=w.heap.size+1->Own w.heap.size w1 e (.slice (some ⟨w.heap.size,0,.none⟩) 2 2) [u,v]->K (.slice (some ⟨w.heap.size,0,.none⟩) 2 2) w1):bsL P t 2 [(0,u),(1,v)] w K .mk:=by
 unfold bsL bsK;have:bsC P t 2 [(0,u),(1,v)]=some (e,#[u,v]):=by
  simp[bsC,hu,hz,hs,hz1,Instr.fill,hu1,hv];exact set2 sM u v
 rw[this];exact h _ (yea w _) (zai w _) ⟨rfl,.inr ⟨w.heap.size,2,#[u,v],rfl,ynl _,zam w _,ynl _,by decide,rfl,rfl⟩⟩
theorem zhA{t e:TypeId}{z:Value}(hu:tyU P t=some (.slice e))(hz:tyZ P e=some z)(hs:tyS P e=1)(hz1:z.cells=#[z])
  (h:∀w1,Ext w w1->w1.heap.size=w.heap.size+1->Own w.heap.size w1 e (.slice (some ⟨w.heap.size,0,.none⟩) 0 0) []->K (.slice (some ⟨w.heap.size,0,.none⟩) 0 0) w1):bsL P t 0 [] w K .mk:=by
 unfold bsL bsK;have:bsC P t 0 []=some (e,#[]):=by simp[bsC,hu,hz,hs,hz1,Instr.fill]
 rw[this];exact h _ (yea w _) (zai w _) ⟨rfl,.inr ⟨w.heap.size,0,#[],rfl,ynl _,zam w _,ynl _,by decide,rfl,rfl⟩⟩
theorem zb0{B:Nat}{s x:Operand}{t e:TypeId}{inf:TypeInfo}{z:Value}{bytes:Nat}{v u:Value}{l news:List Value}(hown:Own B w e v l)(hrow:Row w u news)
  (ht:tyU P t=some (.slice e)) (hi:P.info? e=some inf) (hz:inf.zero=some z)
  (hsize:inf.size=1) (hby:inf.bytes=bytes) (hzs:z.cells.size=1) (hv:ρ s=v) (hu:ρ x=u) 
  (h1:∀q∈news,one q=true) (hlen:l.length+news.length<=1000000000000) (hbytes:bytes<=100) (hB:B<=w.heap.size)
  (h:∀v' w',Own B w' e v' (l++news)->(∀w0,Ext w0 w->w0.heap.size<=B->Ext w0 w')->Keep (λ b=>some b=v.ownBlock) w w'->(∀b,some b=v'.ownBlock->some b=v.ownBlock\/w.heap.size<=b)->K v' w'):
  opW P ⟨d,.call ⟨.builtin .append,#[s,x],#[t,t]⟩,ty,ps,af,g⟩ ρ w K:=by
 refine zdL (B:=B) (m:=news.length) (xs:=l) (n:=l.length) ht hi hz hsize hby hzs (by decide) hv hu hown (Src1.of_row hrow) h1 (by simp[maxLen];omega) ?_ hB ?_
 ·have:(l.length+news.length)*bytes<=1000000000000*100:=ycj hlen hbytes;omega
 ·intro v' w' ho hk hw;refine h v' w' (by simpa [Own] using ho) (λ w0 hE hB0=>?_) hk hw.2;exact ykt hE rfl (λ b hb=>by have:=(Own.ge (l:=l) hown hb).1;omega) hk
theorem v_min(a:Array Operand)(t:Array TypeId):opV P ⟨d,.call ⟨.builtin .min,a,t⟩,ty,ps,af,g⟩ ρ w K=opL P ⟨d,.call ⟨.builtin .min,a,t⟩,ty,ps,af,g⟩ ρ w K .mk:=nr rfl
theorem zmZ{x y:Operand}{ts:Array TypeId}{k:IntKind}{a b:Int}(hx:ρ x= .int k a)(hy:ρ y= .int k b)(h:K (.int k (min a b)) w):opW P ⟨d,.call ⟨.builtin .min,#[x,y],ts⟩,ty,ps,af,g⟩ ρ w K:=by
 simp only[opW,execOp,yaJ,resolve];simp only[yaR,yaz,invoke,builtin];refine zaI (s:=Builtin.min_ ts ty (Array.map ρ #[x,y])) (v:= .int k (min a b)) (w':=w) ?_ h;simp[Builtin.min_,hx,hy,Builtin.min2,Sem.run,List.foldlM];omega
end
attribute [go_sem] b_quo b_rem
attribute [go_sem ↓] v_min
set_option maxRecDepth 100000
abbrev yfU(n:Nat)(x:TypeDesc):Prop:=tyU prog n=some x
abbrev yfS(n x:Nat):Prop:=tyS prog n=x
abbrev yfA(n:Nat)(x:Bool):Prop:=tyA prog n=x
abbrev yfN(n:Nat):Prop:=(tyU prog n).isSome=true
abbrev yfZ(n:Nat)(x:Value):Prop:=tyZ prog n=some x
abbrev yfF(n k o:Nat):Prop:=∀a:Addr,fdA prog n (.pointer (some a)) k=some (.pointer (adr (some a) o))
abbrev yfC(n:Nat):Prop:=zaD prog n=false
theorem tyUs:yfU 3 (.int (IntKind.i64))/\yfU 4 (.bool)/\yfU 5 (.int (IntKind.u8))/\yfU 9 (.string)/\yfU 21 (.int (IntKind.i32))/\yfU 22 (.slice 50)/\yfU 23 (.slice 3)/\yfU 26 (.slice 9)/\yfU 27 (.slice 9)/\yfU 31 (.slice 53)/\yfU 35 (.slice 71)/\yfU 47 (.array 4 5)/\yfU 48 (.slice 60)/\yfU 51 (.slice 56)/\yfU 54 (.slice 166)/\yfU 58 (.slice 101)/\yfU 61 (.slice 68)/\yfU 62 (.slice 66)/\yfU 73 (.slice 78)/\yfU 74 (.int (IntKind.i64))/\yfU 80 (.slice 26)/\yfU 83 (.slice 87)/\yfU 93 (.slice 5)/\yfU 94 (.slice 27)/\yfU 95 (.slice 99)/\yfU 99 (.int (IntKind.u32))/\yfU 102 (.slice 107)/\yfU 105 (.slice 113)/\yfU 117 (.slice 173)/\yfU 123 (.slice 164)/\yfU 124 (.slice 180)/\yfU 131 (.pointer 135)/\yfU 132 (.map 185 4)/\yfU 133 (.slice 142)/\yfU 137 (.slice 140)/\yfU 144 (.map 3 78)/\yfU 147 (.slice 152)/\yfU 171 (.slice 175)/\yfU 183 (.array 4 3)/\yfU 189 (.slice 97)/\yfU 190 (.slice 331)/\yfU 199 (.pointer 253)/\yfU 202 (.slice 254)/\yfU 206 (.map 9 4)/\yfU 230 (.pointer 232)/\yfU 251 (.pointer 306)/\yfU 254 (.array 2 27)/\yfU 264 (.slice 21)/\yfU 281 (.pointer 5)/\yfU 304 (.map 9 251)/\yfU 319 (.slice 273)/\yfU 358 (.int (IntKind.u64))/\yfU 366 (.int (IntKind.i64))/\yfU 374 (.int (IntKind.u64))/\yfU 375 (.int (IntKind.u64))/\yfU 379 (.pointer 3):=by
 and_intros<;>rfl
theorem tySs:yfS 3 1/\yfS 4 1/\yfS 5 1/\yfS 9 1/\yfS 21 1/\yfS 22 1/\yfS 23 1/\yfS 25 4/\yfS 26 1/\yfS 27 1/\yfS 30 1/\yfS 31 1/\yfS 33 4/\yfS 35 1/\yfS 47 4/\yfS 48 1/\yfS 50 6/\yfS 51 1/\yfS 53 6/\yfS 54 1/\yfS 56 2/\yfS 58 1/\yfS 60 2/\yfS 61 1/\yfS 62 1/\yfS 66 6/\yfS 68 7/\yfS 71 2/\yfS 73 1/\yfS 74 1/\yfS 78 2/\yfS 79 1/\yfS 80 1/\yfS 83 1/\yfS 87 2/\yfS 92 1/\yfS 93 1/\yfS 94 1/\yfS 95 1/\yfS 97 5/\yfS 99 1/\yfS 101 7/\yfS 102 1/\yfS 104 4/\yfS 105 1/\yfS 107 6/\yfS 113 2/\yfS 117 1/\yfS 119 4/\yfS 123 1/\yfS 124 1/\yfS 126 5/\yfS 131 1/\yfS 132 1/\yfS 133 1/\yfS 135 2/\yfS 137 1/\yfS 140 6/\yfS 142 7/\yfS 144 1/\yfS 147 1/\yfS 152 2/\yfS 164 5/\yfS 166 7/\yfS 171 1/\yfS 173 6/\yfS 175 2/\yfS 180 2/\yfS 183 4/\yfS 185 6/\yfS 189 1/\yfS 190 1/\yfS 192 5/\yfS 199 1/\yfS 202 1/\yfS 206 1/\yfS 208 1/\yfS 216 1/\yfS 217 1/\yfS 230 1/\yfS 232 2/\yfS 251 1/\yfS 253 2/\yfS 254 2/\yfS 258 1/\yfS 259 1/\yfS 264 1/\yfS 269 1/\yfS 273 4/\yfS 281 1/\yfS 297 4/\yfS 300 1/\yfS 304 1/\yfS 306 3/\yfS 308 1/\yfS 314 1/\yfS 319 1/\yfS 321 1/\yfS 325 1/\yfS 331 2/\yfS 358 1/\yfS 366 1/\yfS 374 1/\yfS 375 1/\yfS 379 1:=by
 and_intros<;>rfl
theorem tyAs:yfA 3 false/\yfA 4 false/\yfA 5 false/\yfA 9 false/\yfA 21 false/\yfA 22 false/\yfA 23 false/\yfA 25 true/\yfA 26 false/\yfA 27 false/\yfA 30 false/\yfA 31 false/\yfA 33 true/\yfA 35 false/\yfA 47 true/\yfA 48 false/\yfA 50 true/\yfA 51 false/\yfA 53 true/\yfA 54 false/\yfA 56 true/\yfA 58 false/\yfA 60 true/\yfA 61 false/\yfA 62 false/\yfA 66 true/\yfA 68 true/\yfA 71 true/\yfA 73 false/\yfA 74 false/\yfA 78 true/\yfA 79 false/\yfA 80 false/\yfA 83 false/\yfA 87 true/\yfA 92 false/\yfA 93 false/\yfA 94 false/\yfA 95 false/\yfA 97 true/\yfA 99 false/\yfA 101 true/\yfA 102 false/\yfA 104 true/\yfA 105 false/\yfA 107 true/\yfA 113 true/\yfA 117 false/\yfA 119 true/\yfA 123 false/\yfA 124 false/\yfA 126 true/\yfA 131 false/\yfA 132 false/\yfA 133 false/\yfA 135 true/\yfA 137 false/\yfA 140 true/\yfA 142 true/\yfA 144 false/\yfA 147 false/\yfA 152 true/\yfA 164 true/\yfA 166 true/\yfA 171 false/\yfA 173 true/\yfA 175 true/\yfA 180 true/\yfA 183 true/\yfA 185 true/\yfA 189 false/\yfA 190 false/\yfA 192 true/\yfA 199 false/\yfA 202 false/\yfA 206 false/\yfA 208 false/\yfA 216 false/\yfA 217 false/\yfA 230 false/\yfA 232 true/\yfA 251 false/\yfA 253 true/\yfA 254 true/\yfA 258 false/\yfA 259 false/\yfA 264 false/\yfA 269 false/\yfA 273 true/\yfA 281 false/\yfA 297 true/\yfA 300 false/\yfA 304 false/\yfA 306 true/\yfA 308 false/\yfA 314 false/\yfA 319 false/\yfA 321 false/\yfA 325 false/\yfA 331 true/\yfA 358 false/\yfA 366 false/\yfA 374 false/\yfA 375 false/\yfA 379 false:=by
 and_intros<;>rfl
theorem tyNs:yfN 25/\yfN 30/\yfN 33/\yfN 50/\yfN 53/\yfN 56/\yfN 60/\yfN 66/\yfN 68/\yfN 71/\yfN 78/\yfN 79/\yfN 87/\yfN 92/\yfN 97/\yfN 101/\yfN 104/\yfN 107/\yfN 113/\yfN 119/\yfN 126/\yfN 135/\yfN 140/\yfN 142/\yfN 152/\yfN 164/\yfN 166/\yfN 173/\yfN 175/\yfN 180/\yfN 185/\yfN 192/\yfN 208/\yfN 216/\yfN 217/\yfN 232/\yfN 253/\yfN 258/\yfN 259/\yfN 269/\yfN 273/\yfN 297/\yfN 300/\yfN 306/\yfN 308/\yfN 314/\yfN 321/\yfN 325/\yfN 331:=by
 and_intros<;>rfl
theorem tyZs:yfZ 3 (.int .i64 0)/\yfZ 4 (.bool false)/\yfZ 5 (.int .u8 0)/\yfZ 9 (vs [])/\yfZ 21 (.int .i32 0)/\yfZ 22 (.slice .none 0 0)/\yfZ 23 (.slice .none 0 0)/\yfZ 25 (.agg #[.slice .none 0 0,.slice .none 0 0,.int .i64 0,.int .i64 0])/\yfZ 26 (.slice .none 0 0)/\yfZ 27 (.slice .none 0 0)/\yfZ 30 (.nilFunc)/\yfZ 31 (.slice .none 0 0)/\yfZ 33 (.agg #[.slice .none 0 0,.slice .none 0 0,.int .i64 0,.int .i64 0])/\yfZ 35 (.slice .none 0 0)/\yfZ 47 (.agg #[.int .u8 0,.int .u8 0,.int .u8 0,.int .u8 0])/\yfZ 48 (.slice .none 0 0)/\yfZ 50 (.agg #[.slice .none 0 0,.int .u8 0,.int .u8 0,.int .u8 0,.int .u8 0,.slice .none 0 0])/\yfZ 51 (.slice .none 0 0)/\yfZ 53 (.agg #[.slice .none 0 0,.int .u8 0,.int .u8 0,.int .u8 0,.int .u8 0,.slice .none 0 0])/\yfZ 54 (.slice .none 0 0)/\yfZ 56 (.agg #[.slice .none 0 0,.slice .none 0 0])/\yfZ 58 (.slice .none 0 0)/\yfZ 60 (.agg #[.slice .none 0 0,.slice .none 0 0])/\yfZ 61 (.slice .none 0 0)/\yfZ 62 (.slice .none 0 0)/\yfZ 66 (.agg #[.int .i64 0,.slice .none 0 0,.int .i64 0,.int .i64 0,.bool false,.int .i64 0])/\yfZ 68 (.agg #[.int .i64 0,.slice .none 0 0,.int .i64 0,.int .i64 0,.bool false,.int .i64 0,.slice .none 0 0])/\yfZ 71 (.agg #[.int .i64 0,.slice .none 0 0])/\yfZ 73 (.slice .none 0 0)/\yfZ 74 (.int .i64 0)/\yfZ 78 (.agg #[.int .i64 0,.slice .none 0 0])/\yfZ 79 (.nilFunc)/\yfZ 80 (.slice .none 0 0)/\yfZ 83 (.slice .none 0 0)/\yfZ 87 (.agg #[.slice .none 0 0,.bool false])/\yfZ 92 (.nilFunc)/\yfZ 93 (.slice .none 0 0)/\yfZ 94 (.slice .none 0 0)/\yfZ 95 (.slice .none 0 0)/\yfZ 97 (.agg #[.int .i64 0,.slice .none 0 0,.slice .none 0 0,.slice .none 0 0,.slice .none 0 0])/\yfZ 99 (.int .u32 0)/\yfZ 101 (.agg #[.slice .none 0 0,.int .u32 0,.int .i64 0,.slice .none 0 0,.slice .none 0 0,.slice .none 0 0,.slice .none 0 0])/\yfZ 102 (.slice .none 0 0)/\yfZ 104 (.agg #[.slice .none 0 0,.slice .none 0 0,.int .i64 0,.int .i64 0])/\yfZ 105 (.slice .none 0 0)/\yfZ 107 (.agg #[.slice .none 0 0,.int .u8 0,.int .u8 0,.int .u8 0,.int .u8 0,.slice .none 0 0])/\yfZ 113 (.agg #[.slice .none 0 0,vs []])/\yfZ 117 (.slice .none 0 0)/\yfZ 119 (.agg #[.slice .none 0 0,.slice .none 0 0,.int .i64 0,.int .i64 0])/\yfZ 123 (.slice .none 0 0)/\yfZ 124 (.slice .none 0 0)/\yfZ 126 (.agg #[.int .i64 0,.slice .none 0 0,.slice .none 0 0,.bool false,.slice .none 0 0])/\yfZ 131 (.pointer .none)/\yfZ 132 (.map .none)/\yfZ 133 (.slice .none 0 0)/\yfZ 135 (.agg #[.map .none,.slice .none 0 0])/\yfZ 137 (.slice .none 0 0)/\yfZ 140 (.agg #[.int .i64 0,.slice .none 0 0,.int .i64 0,.int .i64 0,.bool false,.int .i64 0])/\yfZ 142 (.agg #[.int .i64 0,.slice .none 0 0,.int .i64 0,.int .i64 0,.bool false,.int .i64 0,.slice .none 0 0])/\yfZ 144 (.map .none)/\yfZ 147 (.slice .none 0 0)/\yfZ 152 (.agg #[.slice .none 0 0,.slice .none 0 0])/\yfZ 164 (.agg #[.int .i64 0,.slice .none 0 0,.slice .none 0 0,.slice .none 0 0,.slice .none 0 0])/\yfZ 166 (.agg #[.slice .none 0 0,.int .u32 0,.int .i64 0,.slice .none 0 0,.slice .none 0 0,.slice .none 0 0,.slice .none 0 0])/\yfZ 171 (.slice .none 0 0)/\yfZ 173 (.agg #[.slice .none 0 0,.int .u8 0,.int .u8 0,.int .u8 0,.int .u8 0,.slice .none 0 0])/\yfZ 175 (.agg #[.slice .none 0 0,vs []])/\yfZ 180 (.agg #[.slice .none 0 0,.slice .none 0 0])/\yfZ 183 (.agg #[.int .i64 0,.int .i64 0,.int .i64 0,.int .i64 0])/\yfZ 185 (.agg #[vs [],.int .i64 0,.int .i64 0,.int .i64 0,.int .i64 0,.bool false])/\yfZ 189 (.slice .none 0 0)/\yfZ 190 (.slice .none 0 0)/\yfZ 192 (.agg #[.int .i64 0,.slice .none 0 0,.slice .none 0 0,.bool false,.slice .none 0 0])/\yfZ 199 (.pointer .none)/\yfZ 202 (.slice .none 0 0)/\yfZ 206 (.map .none)/\yfZ 208 (.nilFunc)/\yfZ 216 (.nilFunc)/\yfZ 217 (.nilFunc)/\yfZ 230 (.pointer .none)/\yfZ 232 (.agg #[.pointer .none,.slice .none 0 0])/\yfZ 251 (.pointer .none)/\yfZ 253 (.agg #[.pointer .none,.int .i64 0])/\yfZ 254 (.agg #[.slice .none 0 0,.slice .none 0 0])/\yfZ 258 (.nilFunc)/\yfZ 259 (.nilFunc)/\yfZ 264 (.slice .none 0 0)/\yfZ 269 (.nilFunc)/\yfZ 273 (.agg #[.slice .none 0 0,.int .i64 0,.int .u32 0,.slice .none 0 0])/\yfZ 281 (.pointer .none)/\yfZ 297 (.agg #[.slice .none 0 0,.int .i64 0,.int .u32 0,.slice .none 0 0])/\yfZ 300 (.nilFunc)/\yfZ 304 (.map .none)/\yfZ 306 (.agg #[.map .none,.bool false,.bool false])/\yfZ 308 (.nilFunc)/\yfZ 314 (.nilFunc)/\yfZ 319 (.slice .none 0 0)/\yfZ 321 (.pointer .none)/\yfZ 325 (.nilFunc)/\yfZ 331 (.agg #[.slice .none 0 0,.slice .none 0 0])/\yfZ 358 (.int .u64 0)/\yfZ 366 (.int .i64 0)/\yfZ 374 (.int .u64 0)/\yfZ 375 (.int .u64 0)/\yfZ 379 (.pointer .none):=by
 and_intros<;>rfl
theorem fdAs:yfF 25 0 0/\yfF 25 1 1/\yfF 25 2 2/\yfF 25 3 3/\yfF 33 0 0/\yfF 33 1 1/\yfF 33 2 2/\yfF 33 3 3/\yfF 50 0 0/\yfF 50 1 1/\yfF 50 2 5/\yfF 53 0 0/\yfF 53 1 1/\yfF 53 2 5/\yfF 56 0 0/\yfF 56 1 1/\yfF 60 0 0/\yfF 60 1 1/\yfF 66 0 0/\yfF 66 1 1/\yfF 66 2 2/\yfF 66 3 3/\yfF 66 4 4/\yfF 66 5 5/\yfF 68 0 0/\yfF 68 1 6/\yfF 71 0 0/\yfF 71 1 1/\yfF 78 0 0/\yfF 78 1 1/\yfF 87 0 0/\yfF 87 1 1/\yfF 97 0 0/\yfF 97 1 1/\yfF 97 2 2/\yfF 97 3 3/\yfF 97 4 4/\yfF 101 0 0/\yfF 101 1 1/\yfF 101 2 2/\yfF 104 0 0/\yfF 104 1 1/\yfF 104 2 2/\yfF 104 3 3/\yfF 107 0 0/\yfF 107 1 1/\yfF 107 2 5/\yfF 113 0 0/\yfF 113 1 1/\yfF 119 0 0/\yfF 119 1 1/\yfF 119 2 2/\yfF 119 3 3/\yfF 126 0 0/\yfF 126 1 1/\yfF 126 2 2/\yfF 126 3 3/\yfF 126 4 4/\yfF 135 0 0/\yfF 135 1 1/\yfF 140 0 0/\yfF 140 1 1/\yfF 140 2 2/\yfF 140 3 3/\yfF 140 4 4/\yfF 140 5 5/\yfF 142 0 0/\yfF 142 1 6/\yfF 152 0 0/\yfF 152 1 1/\yfF 164 0 0/\yfF 164 1 1/\yfF 164 2 2/\yfF 164 3 3/\yfF 164 4 4/\yfF 166 0 0/\yfF 166 1 1/\yfF 166 2 2/\yfF 173 0 0/\yfF 173 1 1/\yfF 173 2 5/\yfF 175 0 0/\yfF 175 1 1/\yfF 180 0 0/\yfF 180 1 1/\yfF 185 0 0/\yfF 185 1 1/\yfF 185 2 5/\yfF 192 0 0/\yfF 192 1 1/\yfF 192 2 2/\yfF 192 3 3/\yfF 192 4 4/\yfF 232 0 0/\yfF 232 1 1/\yfF 253 0 0/\yfF 253 1 1/\yfF 273 0 0/\yfF 273 1 1/\yfF 273 2 2/\yfF 273 3 3/\yfF 297 0 0/\yfF 297 1 1/\yfF 297 2 2/\yfF 297 3 3/\yfF 306 0 0/\yfF 306 1 1/\yfF 306 2 2/\yfF 331 0 0/\yfF 331 1 1:=by
 and_intros<;>intro a<;>kernel_rfl
theorem fns1(f:Nat)(h:1<f)(k:f<193):zaD prog f=true:=(by decide+kernel:∀f,f<193->1<f->zaD prog f=true) f k h
theorem fns193(f:Nat)(h:193<f)(k:f<225):zaD prog f=true:=(by decide+kernel:∀f,f<225->193<f->zaD prog f=true) f k h
theorem fns225(f:Nat)(h:225<f)(k:f<228):zaD prog f=true:=(by decide+kernel:∀f,f<228->225<f->zaD prog f=true) f k h
theorem fns228(f:Nat)(h:228<f)(k:f<241):zaD prog f=true:=(by decide+kernel:∀f,f<241->228<f->zaD prog f=true) f k h
theorem fns241(f:Nat)(h:241<f)(k:f<267):zaD prog f=true:=(by decide+kernel:∀f,f<267->241<f->zaD prog f=true) f k h
theorem fnx:yfC 193/\yfC 225/\yfC 228/\yfC 241/\yfC 267/\yfC 268/\yfC 269/\yfC 270/\yfC 271/\yfC 272/\yfC 273/\yfC 274/\yfC 275/\yfC 276/\yfC 277/\yfC 278/\yfC 279/\yfC 280/\yfC 281/\yfC 282/\yfC 283/\yfC 284/\yfC 285/\yfC 286/\yfC 287:=by
 and_intros<;>rfl
theorem tyIs(t:Nat)(h:t<380):(prog.info? t).isSome=true:=(by decide+kernel:∀t,t<380->(prog.info? t).isSome=true) t h
attribute [go_sem] tyUs tySs tyAs tyIs tyNs fns1 fns193 fns225 fns228 fns241 fnx tyZs fdAs
theorem mixed:prog.follows .mixedOrders=true:=by rfl
abbrev Lab:=List UInt8
def MapAt(w:World)(r:Nat)(l:List (Lab×Value)):Prop:=
 ∃es clk,w.heap[r]? =some (.map es clk)/\es.toList.map (λ e=>(e.key,e.val))=l.map (λ p=>(vs p.1,p.2))/\(es.toList.map (·.born)).Pairwise (·≠·)/\(∀e∈es.toList,e.born<clk)
theorem MapAt.block{r:Nat}{l:List (Lab×Value)}(h:MapAt w r l)(hb:x.heap[r]? =w.heap[r]?):MapAt x r l:=by
 obtain⟨es,clk,h1,h2⟩:=h;exact⟨es,clk,hb.trans h1,h2⟩
theorem zdd(a b:Lab):Instr.sameNow .string (vs a) (vs b)=some (a==b):=by
 simp only[vs,Instr.sameNow,Option.some.injEq];rw[ydv,MapKept.bytes_beq,beq_iff_eq];constructor
 ·intro h;have:=congrArg (λ x:ByteArray=>x.data.toList) h;simpa using this
 ·rintro rfl;rfl
theorem zgE{key:Lab}:∀(es:List MapEntry) (l:List (Lab×Value)) (i:Nat),es.map (λ e=>(e.key,e.val))=l.map (λ p=>(vs p.1,p.2))->l.lookup key= .none->Instr.findNow .string (vs key) es i=some .none
 | [],[],_,_,_=>rfl
 | [],_::_,_,h,_=>by simp at h
 |_::_,[],_,h,_=>by simp at h
 |e::es,(k,v)::l,i,h,hl=>by
  simp only[yaU,List.cons.injEq,Prod.mk.injEq]at h;obtain⟨⟨h1,h2⟩,h3⟩:=h;simp only[ybU]at hl
  split at hl
  ·cases hl
  ·rename_i hne;simp only[Instr.findNow,h1,zdd,hne];exact zgE es l (i+1) h3 hl
theorem ziY{key:Lab}:∀(es:List MapEntry) (l:List (Lab×Value)) (i:Nat),es.map (λ e=>(e.key,e.val))=l.map (λ p=>(vs p.1,p.2))->l.lookup key=some v->∃j,Instr.findNow .string (vs key) es i=some (some (j,v))
 | [],[],_,_,h=>by simp at h
 | [],_::_,_,h,_=>by simp at h
 |_::_,[],_,h,_=>by simp at h
 |e::es,(k,u)::l,i,h,hl=>by
  simp only[yaU,List.cons.injEq,Prod.mk.injEq]at h;obtain⟨⟨h1,h2⟩,h3⟩:=h;simp only[ybU]at hl
  split at hl
  ·rename_i heq;cases hl;exact⟨i,by simp only[Instr.findNow,h1,zdd,heq,h2]⟩
  ·rename_i hne;simp only[Instr.findNow,h1,zdd,hne];exact ziY es l (i+1) h3 hl
section
variable {P : Program} {d : Option Tmp} {ty : TypeId} {ps : String} {af : Array Edge} {g : Option (Nat × Bool)} {ρ : Operand -> Value} {w : World} {K : Value -> World -> Prop}
theorem MapAt.lk{r:Nat}{l:List (Lab×Value)}(h:MapAt w r l){kt et:TypeId}{z:Value}(ht:tyU P t=some (.map kt et))(hk:tyU P kt=some .string)(hz:tyZ P et=some z)(key:Lab):
  lkV P w t (.map (some r)) (vs key) false=some ((l.lookup key).getD z):=by
 obtain⟨es,clk,h1,h2,_⟩:=h;unfold lkV;rw[ht];simp only[hk,hz,h1];cases hl:l.lookup key with
 |none=>rw[zgE _ _ 0 h2 hl];rfl
 |some v=>obtain⟨j,hj⟩:=ziY _ _ 0 h2 hl;rw[hj];rfl
theorem zdK{kt et:TypeId}{m k x:Operand}{r:Nat}{l:List (Lab×Value)}{key:Lab}(ht:tyU P t=some (.map kt et))(hk:tyU P kt=some .string)
  (hm:ρ m= .map (some r)) (hkey:ρ k=vs key) (hx:ρ x=v) (hat:MapAt w r l) (hno:l.lookup key= .none)
  (h:∀w',MapAt w' r (l++ [(key,v)])->Keep (λ i=>i=r) w w'->w'.heap.size=w.heap.size->K undef w'):
  opW P ⟨d,.mapUpdate t m k x,ty,ps,af,g⟩ ρ w K:=by
 obtain⟨es,clk,h1,h2,h3,h4⟩:=hat;have hf:=zgE es.toList l 0 h2 hno;have hrun:(Instr.mapUpdate t (.map (some r)) (vs key) v).run P w= .ok () (w.putObj r (.map (es.push {key:=vs key,val:=v,born:=clk}) (clk+1))):=by
  have hck:∀e,(Instr.checkKey e 10000 kt (vs key)).run P w= .ok () w:=λ e=>zcP hk 9999;simp[Instr.mapUpdate,run_underlying (show P.underlying t=_ from ht),MapKept.run_getObj_map h1,hck,Instr.findKey,run_underlying (show P.underlying kt=_ from hk),hf,MapKept.run_setObj_map _ h1,Result.andThen]
  rfl
 have hlt:r<w.heap.size:=(yaa.1 h1).1;have hat':MapAt (w.putObj r (.map (es.push {key:=vs key,val:=v,born:=clk}) (clk+1))) r (l++ [(key,v)]):=by
  refine⟨_,_,yaX hlt,by simp[h2],?_,?_⟩
  ·simp only[Array.toList_push,yaC,yaU,ycp,yap];refine⟨h3,sM,λ a ha b hb=>?_⟩;simp at hb;subst hb;obtain⟨e,he,rfl⟩:=yaq.1 ha;exact Nat.ne_of_lt (h4 e he)
  ·intro e he;simp only[Array.toList_push,yai,yae]at he;rcases he with he|rfl
   ·exact Nat.lt_succ_of_lt (h4 e he)
   ·exact Nat.lt_succ_self _
 have hfin:=h _ hat' (zaB rfl) sM;show opR P K ((do Instr.mapUpdate t (ρ m) (ρ k) (ρ x);pure .skip:Sem Next).run P w);rw[hm,hkey,hx];simp only[yaJ,hrun,yaz,yaR];exact hfin
theorem zjO(w:World):MapAt (w.alloc (.map #[] 0)) w.heap.size []:=⟨_,_,zam w _,rfl,sM,sM⟩
end
inductive Pln
 |fin
 |run (pl:List (Nat×Bool)) (p:Pln)
 |fork (m:Nat) (is:List Nat) (p:Nat->Pln)
def Pln.len:Pln->Nat
 | .fin=>0
 | .run pl p=>pl.length+p.len
 | .fork m _ _=>m+1
def zfh(ops:Array Oper)(isB:Nat->Bool):List (Nat×Bool)->Array Bool->Option (Array Bool)
 | [],l=>some l
 | (i,true)::pl,l=>if (rdy ops l).contains i && Region.free .any ops l i && !isB i then zfh ops isB pl (l.setIfInBounds i true) else .none
 | (i,false)::pl,l=>if rdy ops l==[i] then zfh ops isB pl (l.setIfInBounds i true) else .none
def zjM(ops:Array Oper)(isB:Nat->Bool):Pln->Array Bool->Bool
 | .fin,l=>(rdy ops l).isEmpty
 | .run pl p,l=>match zfh ops isB pl l with|some l'=>zjM ops isB p l'| .none=>false
 | .fork m is p,l=>(rdy ops l==is) && !is.isEmpty && is.all λ i=>(p i).len==m && zjM ops isB (p i) (l.setIfInBounds i true)
section
variable {P : Program} {ops : Array Oper} {n : Nat} {isB : Nat -> Bool} {K : Sto -> World -> Prop} {S : Nat -> Prop}
theorem zid(hsel:Region.noSelect ops=true)(hB:zet ops isB=true){f:Nat}{l':Array Bool}:∀(pl:List (Nat×Bool)) (l:Array Bool) (σ:Sto) (w:World),zcO ops l->
  zfh ops isB pl l=some l'->zgI P ops n S isB pl σ w (λ σ' w'=>zcO ops l'->anyK P ops n isB K (Keep S w') f l' σ' w')->anyK P ops n isB K (Keep S w) (pl.length+f) l σ w
 | [],l,σ,w,hcl,hp,h=>by
  cases hp;rw[ybe,yn0];exact h hcl
 | (i,true)::pl,l,σ,w,hcl,hp,h=>by
  unfold zfh at hp
  split at hp
  ·rename_i hc;simp only[yaB,yao,yco]at hc;obtain⟨⟨hr,hfree⟩,hni⟩:=hc;obtain⟨v,hq,h⟩:=h;obtain⟨_,oi,hoi,_⟩:=mem_ready.1 hr;have hd:zjW ops i=oi.dst:=by simp[zjW,hoi]
   rw[hd]at h;have:=zhB hoi hsel hB hni (pl.length+f) (Keep S w) l σ w hcl (Region.free_spec hoi hfree) hr hq (Keep.refl S w)
    (zid hsel hB pl _ _ w (zbO hcl hr) hp h)
   rwa [show ((i,true)::pl).length+f=(pl.length+f)+1 from by simp;omega]
  ·cases hp
 | (i,false)::pl,l,σ,w,hcl,hp,h=>by
  unfold zfh at hp
  split at hp
  ·rename_i hr;rw[beq_iff_eq]at hr;have hmem:i∈rdy ops l:=by rw[hr];exact yae.2 rfl
   rw[show ((i,false)::pl).length+f=(pl.length+f)+1 from by simp;omega];refine⟨λ h0=>(by rw[hr]at h0;cases h0),λ j hj=>?_⟩;rw[hr]at hj;obtain rfl:=yae.1 hj;refine zcn (λ σ' w' ⟨hor,hk⟩=>?_) h;have hrec:=zid hsel hB pl _ σ' w' (zbO hcl hmem) hp hk;cases hb:isB j with
   |true=>exact .inl ⟨rfl,zdk _ _ _ _ _ hrec⟩
   |false=>
    rw[hb]at hor;have hkeep:=hor.resolve_left sM;exact .inr ⟨rfl,Keep S w',λ x hx=>hkeep.trans hx,Keep.refl S w',hrec⟩
  ·cases hp
def zkU(P:Program)(ops:Array Oper)(n:Nat)(S:Nat->Prop)(isB:Nat->Bool)(K:Sto->World->Prop):Pln->Sto->World->Prop
 | .fin,σ,w=>K σ w
 | .run pl p,σ,w=>zgI P ops n S isB pl σ w (λ σ' w'=>zkU P ops n S isB K p σ' w')
 | .fork _ is p,σ,w=>∀i∈is,opAt P ops n i σ w (λ σ' w'=>(isB i=true\/Keep S w w')/\zkU P ops n S isB K (p i) σ' w')
theorem zee{K K':Sto->World->Prop}(hk:∀σ w,K σ w->K' σ w):∀(pl:List (Nat×Bool)) (σ:Sto) (w:World),zgI P ops n S isB pl σ w K->zgI P ops n S isB pl σ w K'
 | [],σ,w,h=>hk σ w h
 | (i,true)::pl,σ,w,⟨v,h1,h2⟩=>⟨v,h1,zee hk pl _ _ h2⟩
 | (i,false)::pl,σ,w,h=>zcn (λ σ' w' ⟨h1,h2⟩=>⟨h1,zee hk pl _ _ h2⟩) h
theorem zdZ(hsel:Region.noSelect ops=true)(hB:zet ops isB=true):∀(p:Pln) (l:Array Bool) (σ:Sto) (w:World),zcO ops l->
  zjM ops isB p l=true->zkU P ops n S isB K p σ w->anyK P ops n isB K (Keep S w) p.len l σ w
 | .fin,l,σ,w,_,hp,h=>⟨by simpa [zjM] using hp,h⟩
 | .run pl p,l,σ,w,hcl,hp,h=>by
  unfold zjM at hp
  split at hp
  ·rename_i l' hl';exact zid hsel hB pl l σ w hcl hl' (zee (λ σ' w' hk hcl'=>zdZ hsel hB p l' σ' w' hcl' hp hk) pl σ w h)
  ·cases hp
 | .fork m is p,l,σ,w,hcl,hp,h=>by
  simp only[zjM,yaB,beq_iff_eq,ybg,yao]at hp;obtain⟨⟨hr,hne⟩,hall⟩:=hp;refine⟨λ h0=>(by rw[hr]at h0;subst h0;cases hne),λ j hj=>?_⟩;have hj':=hj;rw[hr]at hj';obtain⟨hlen,hpj⟩:=hall j hj';refine zcn (λ σ' w' ⟨hor,hk⟩=>?_) (h j hj');have hrec:=zdZ hsel hB (p j) _ σ' w' (zbO hcl hj) hpj hk;rw[hlen]at hrec;cases hb:isB j with
  |true=>exact .inl ⟨rfl,zdk _ _ _ _ _ hrec⟩
  |false=>
   rw[hb]at hor;have hkeep:=hor.resolve_left sM;exact .inr ⟨rfl,Keep S w',λ x hx=>hkeep.trans hx,Keep.refl S w',hrec⟩
end
def treeOk(ops:Array Oper)(isB:Nat->Bool)(p:Pln):Bool:=
 Region.noSelect ops && zaX ops && zet ops isB && decide (p.len=ops.size) && zjM ops isB p (Array.replicate ops.size false)
def allL{α:Type}:List α->(α->Prop)->Prop
 | [],_=>True
 | [a],f=>f a
 |a::l,f=>f a/\allL l f
theorem zk5{α:Type}{f:α->Prop}:∀{l:List α},allL l f->∀a∈l,f a
 | [],_,a,h=>by cases h
 | [b],h,a,ha=>by rw[yae.1 ha];exact h
 |b::c::l,h,a,ha=>by
  rcases yay.1 ha with rfl|ha
  ·exact h.1
  ·exact zk5 h.2 a ha
def zh6(P:Program)(gd:Nat->Option Tmp)(ops:List Oper)(n:Nat)(S:Nat->Prop)(isB:Nat->Bool):Pln->Sto->World->(Sto->World->Prop)->Prop
 | .fin,σ,w,K=>K σ w
 | .run pl p,σ,w,K=>zcg P gd ops n S isB pl σ w (λ σ' w'=>zh6 P gd ops n S isB p σ' w' K)
 | .fork _ is p,σ,w,K=>allL is λ i=>zcg P gd ops n S isB [(i,false)] σ w (λ σ' w'=>zh6 P gd ops n S isB (p i) σ' w' K)
section
variable {P : Program} {n : Nat} {S : Nat -> Prop} {isB : Nat -> Bool} {K : Sto -> World -> Prop}
theorem zeD{ops:Array Oper}:∀(p:Pln) (σ:Sto) (w:World),zh6 P (dstL ops.toList) ops.toList n S isB p σ w K->zkU P ops n S isB K p σ w
 | .fin,_,_,h=>h
 | .run pl p,σ,w,h=>zee (λ σ' w' hk=>zeD p σ' w' hk) pl σ w (zbI pl σ w h)
 | .fork m is p,σ,w,h=>λ i hi=>by
  have:=zbI _ σ w (zk5 h i hi);exact zcn (λ σ' w' ⟨h1,h2⟩=>⟨h1,zeD (p i) σ' w' h2⟩) this
variable {r : Option Nat} {Q : Post} {σ : Sto} {ds : List Deferred} {w : World}
theorem zfH{id:Nat}{ops:Array Oper}(isB:Nat->Bool)(p:Pln)(S:Nat->Prop)
  (hm:P.follows .mixedOrders=true) (hok:treeOk ops isB p=true)
  (h:∀(gd:Nat->Option Tmp) (K:Sto->World->Prop) (x:World),gd=dstL ops.toList->Keep S w x->x=w.drew->(∀σ' w',Q .normal σ' ds w'->K σ' w')->zh6 P gd ops.toList n S isB p σ x K):
  W P r n (.region id ops true) Q σ ds w:=by
 simp only[treeOk,yaB,ydT]at hok;obtain⟨⟨⟨⟨h1,h2⟩,h3⟩,h4⟩,h5⟩:=hok;refine wpIn_region_any hm ?_;have:=zdZ (K:=λ σ w=>Q .normal σ ds w) h1 h3 p _ σ w.drew (zfD ops) h5 (zeD p σ w.drew (h _ _ _ rfl (Keep.drew S w) rfl (λ _ _ h=>h)));rw[h4]at this;exact zbT h2 (λ σ w hk=>⟨σ,ds,rfl,hk⟩) _ _ _ _ (zdk _ _ _ _ _ this)
variable {gd : Nat -> Option Tmp} {ops : List Oper}
theorem znM:zh6 P gd ops n S isB .fin σ w K=K σ w:=nr rfl
theorem znL(pl:List (Nat×Bool))(p:Pln):zh6 P gd ops n S isB (.run pl p) σ w K=zcg P gd ops n S isB pl σ w (λ σ' w'=>zh6 P gd ops n S isB p σ' w' K):=nr rfl
theorem zlR(m:Nat)(is:List Nat)(p:Nat->Pln):zh6 P gd ops n S isB (.fork m is p) σ w K=allL is λ i=>zcg P gd ops n S isB [(i,false)] σ w (λ σ' w'=>zh6 P gd ops n S isB (p i) σ' w' K):=nr rfl
end
section
variable {α : Type} {f : α -> Prop} {a b : α} {l : List α}
theorem zbk:allL [a] f=f a:=nr rfl
theorem za5:allL (a::b::l) f=(f a/\allL (b::l) f):=nr rfl
end
def zda(n:Nat):Nat->Prop:=λ b=>n<=b
theorem zlu{n o:Nat}(h:b<n):offS (zda n) (some ⟨b,o,.none⟩)=True:=by
 simp only[offS,zda,eq_iff_iff,iff_true];intro a ha;cases ha;show¬n<=b;omega
theorem Ext.keep(h:Ext w x):Keep S w x:=h.mono (λ _ _ h=>h.elim)
attribute [go_sem ↓] znM znL zlR
theorem zcD{n0:Nat}(hk:KeepB n0 C w x){a:Addr}(hn:a.block<n0)(hC:¬C a.block)(h:w.cell? a=some v):x.cell? a=some v:=by
 rw[←h];exact ycY (w:=w) (hk.block a.block hn hC)
theorem ze3(hk:Ext w x){a:Addr}(h:w.cell? a=some v):x.cell? a=some v:=zdW hk (λ h=>h) h
theorem zal{α:Type}{l:List α}(h:i<l.length):l.take (i+1)=l.take i++ [l[i]]:=by
 rw[List.take_succ_eq_append_getElem h]
theorem zcW{α:Type}{l:List α}(h:i<l.length):l=l.take i++l[i]::l.drop (i+1):=by
 rw[←yag h,yar]
theorem zfw{α:Type}{l:List α}{pre suf:List (α×Nat)}{x:α×Nat}(h:l.zipIdx=pre++x::suf):∃hk:pre.length<l.length,x=(l[pre.length],pre.length):=by
 have hk:pre.length<l.length:=by have:=congrArg List.length h;simp at this;omega
 refine⟨hk,?_⟩;have h1:l.zipIdx[pre.length]? =some x:=by rw[h];simp
 rw[List.getElem?_zipIdx]at h1;simp[hk]at h1;exact h1.symm
def znJ(p:UInt8×Nat)(_:World)(args:Array Value):Prop:=args=#[vi p.2,zae p.1]
theorem zlw{n0:Nat}{l:List UInt8}(hb:W0.cell? ⟨b,0,.none⟩=some (vs l))(hbn:b<n0)(hbC:¬C b)(hl:l.length<=9000000000000000000):
  Iter prog 138 #[.pointer (some ⟨b,0,.none⟩)] W0 n0 C l.zipIdx znJ:=by
 intro lp J Jx W hW hnW hJ hJx hY h0;refine enx func138 ntmps138 ?_;repeat (first|refine c_r ?_|refine rg0 ?_)
 refine zan (λ m σ ds v=>ds=[]/\∃i,i+m=l.length/\σ 3=vi i/\σ 0= .func (.yield lp) #[] #[]/\σ 1= .pointer (some ⟨b,0,.none⟩)/\J (l.zipIdx.take i) v/\KeepB n0 C W v) l.length ?_ ?_
 ·refine⟨rfl,0,oM,?_,?_,?_,by simpa using h0,KeepB.refl _ _ _⟩<;>simp only[go_sem]<;>rfl
 ·rintro m σ ds v ⟨rfl,i,him,h3,hf0,hf1,hj,hK0⟩;have hcell:zad v (some ⟨b,0,.none⟩)=some (vs l):=zcD hK0 hbn hbC (ze3 hW hb);repeat refine c_r ?_
  refine rg4 h3 hf0 hf1 hcell ?_;refine wc0 ?_ ?_
  ·intro hlt;simp only[ydT]at hlt;have hi:i<l.zipIdx.length:=by simp;omega
   repeat refine c_r ?_
   refine rq ?_;intro gd K hgd hK;try simp (disch:=first|omega|assumption|rfl) only[go_sem,h3,hf0,hf1,hcell]
   refine Yld.mono (hY (l.zipIdx.take i) l.zipIdx[i] (l.zipIdx.drop (i+1)) v _ (zcW hi) hj hK0 (by simp[znJ,zae])) ?_;rintro u x (⟨rfl,hj',hk'⟩| ⟨rfl,hjx⟩)
   ·try simp only[go_sem]
    refine hK _ _ ?_;clear hK hgd;clear K;try clear gd
    repeat refine c_r ?_
    refine wc0 ?_ ?_
    ·intro h;simp at h
    ·intro _;repeat refine c_r ?_
     refine rg1 h3 ?_;refine zao ?_;refine⟨m - 1,oM,rfl,i+1,oM,?_,?_,?_,?_,hK0.trans hk'⟩
     ·simp only[go_sem];rfl
     ·simp only[go_sem,hf0]
     ·simp only[go_sem,hf1]
     ·rw[zal hi];exact hj'
   ·try simp only[go_sem]
    refine hK _ _ ?_;clear hK hgd;clear K;try clear gd
    repeat refine c_r ?_
    refine wc0 ?_ ?_
    ·intro _;repeat refine c_r ?_
     refine zap (by simp) rfl (.inr ⟨_,_,_,zcW hi,hjx⟩)
    ·intro h;simp at h
  ·intro hge;simp only[ydF]at hge;repeat refine c_r ?_
   refine zap (by simp) rfl (.inl ?_);have:l.zipIdx.take i=l.zipIdx:=yaf (by simp;omega);rw[this]at hj;exact hj
theorem ziI(w:World)(l:List UInt8)(hl:l.length<=9000000000000000000):Fn prog 98 #[vs l] w (λ v w'=>Ext w w'/\∃cap,v= .func (.func 138) #[] cap/\
  ∀C:Nat->Prop,(∀b,C b->b<w.heap.size)->Iter prog 138 cap w' w'.heap.size C l.zipIdx znJ):=by
 refine enx func98 ntmps98 ?_;refine gz0 ?_;refine rt0 ntmps98 ?_;refine⟨yea _ _,_,rfl,λ C hC=>zlw ?_ sM (λ h=>by have:=hC _ h;omega) hl⟩;rw[zaM (zam _ _)];rfl
def zez(c:UInt8):UInt8:=if 65<=c/\c<=90 then c+32 else c
def zaJ(l:List UInt8):List UInt8:=l.map zez
def zbf(l:List UInt8)(k:Nat):List UInt8:=zaJ (l.take k)++l.drop k
theorem zey{l:List UInt8}(hk:k<l.length):(zbf l k).set k (zez l[k])=zbf l (k+1):=by
 unfold zbf zaJ;have e:(List.map zez (l.take k)).length=k:=by simp;omega
 rw[zal hk,yaC,ybL _ _ oM,e,ycI,yag hk,ybi];simp
theorem zlK(l:List UInt8)(k:Nat):(zbf l k).length=l.length:=by simp[zbf,zaJ];omega
theorem zh2{c:UInt8}(h:65<=c/\c<=90):zez c=c+32:=if_pos h
theorem zfX{c:UInt8}(h:¬(65<=c/\c<=90)):zez c=c:=if_neg h
theorem zgC{l:List UInt8}(hk:k<l.length)(h:¬(65<=l[k]/\l[k]<=90)):zbf l k=zbf l (k+1):=by
 rw[←zey hk,zfX h];apply List.ext_getElem?;intro j;rw[List.getElem?_set]
 split
 ·rename_i hj;subst hj;rw[if_pos (by rw[zlK];exact hk)];unfold zbf zaJ;have e:(List.map zez (l.take k)).length=k:=by simp;omega
  rw[yaH oM,e];simp[hk]
 ·rfl
theorem zc4(w:World)(l:List UInt8)(hl:l.length<=9000000000000000000):Fn prog 63 #[vs l] w (λ v w'=>v=vs (zaJ l)/\Ext w w'):=by
 refine enx func63 ntmps63 ?_;refine gz0 ?_;refine rq ?_;intro gd K hgd hK;try simp only[go_sem]
 refine zkV rfl rfl rfl vq0 ?_;intro c cur w1 hlc hcur htake hE1 hsz1 hb1;try simp only[go_sem]
 refine zbx rfl rfl rfl (zam _ _) (by simp) (by simp) ?_;intro w2 hsz2 hb2 hk2;simp only[ybT]at hsz2 hb2 hk2;have hE2:Ext w w2:=hE1.trans (ykt (yea w1 _) rfl (λ b hb=>oM) hk2);have hgb:w2.heap[w.heap.size]? =some (.cells cur 5 (c,c+1)):=(hk2.block _ (by simp;omega) oM).trans ((yaE _ _ _ oM).trans hb1);rw[hsz1]at hsz2 hb2 ⊢;simp at hb2;clear hk2 hb1;apply hK;refine rqz ?_;intro gd K hgd hK;try simp only[go_sem]
 refine yfm (ziI _ _ hl) ?_;rintro _ w3 ⟨hE3,cap,rfl,hit⟩;try simp only[go_sem]
 refine en hK ?_;have hE3':=hE2.trans hE3;have hsz3:=hE3.size;refine zd4 (g:=138) (cap:=cap) vq0 rfl (hit (λ b=>b=w.heap.size) (λ b hb=>oM)) ykr (ynl _) (λ b hb=>oM)
  (λ x A args h=>by rw[h];rfl)
  (λ pre A=>Ext w A/\A.heap[w.heap.size+1]? =some (.cells #[.slice (some ⟨w.heap.size,0,.none⟩) l.length c] 93 (0,0))/\
   ∃cur:Array Value,cur.size=c/\cur.toList.take l.length=(zbf l pre.length).map zae/\A.heap[w.heap.size]? =some (.cells cur 5 (c,c+1)))
  (λ _ _ _=>False) ?_ (λ _ _ _ _ h _=>h.elim) ?_ ?_ ?_ (λ _ _ _ _ _ _ _ h _=>h.elim)
 ·rintro pre A B ⟨h1,h2,cu,h3,h4,h5⟩ hk;have ne1:¬two w3.heap.size (w.heap.size+1):=by unfold two;omega
  have ne2:¬two w3.heap.size w.heap.size:=by unfold two;omega
  exact⟨ykt h1 rfl (λ b hb=>by unfold two at hb;omega) hk,(hk.block _ (yaa.1 h2).1 ne1).trans h2,cu,h3,h4,
   (hk.block _ (yaa.1 h5).1 ne2).trans h5⟩
 ·refine⟨hE3',(hE3.block _ oM (λ h=>h)).trans hb2,cur,hcur,?_,(hE3.block _ oM (λ h=>h)).trans hgb⟩;simpa [zbf,zaJ] using htake
 ·rintro lp pre x suf A args hxs hszA ⟨hEA,hbox,cu,hcu,hpre,hrow⟩ rfl;obtain⟨hk,rfl⟩:=zfw hxs
  dsimp only
  repeat (first|refine c_r ?_| (refine zcx (by rfl) ?_;intro gd K hgd hK;simp (disch:=first|omega|assumption|rfl) only[go_sem,zae];refine hK _ _ ?_;clear hK hgd;clear K gd))
  refine⟨rfl,KeepB.refl _ _ _,λ A2 hA2=>?_⟩;have ne1:¬two w3.heap.size (w.heap.size+1):=by unfold two;omega
  have ne2:¬two w3.heap.size w.heap.size:=by unfold two;omega
  have hbox2:=(hA2.block _ (yaa.1 hbox).1 ne1).trans hbox;have hrow2:=(hA2.block _ (yaa.1 hrow).1 ne2).trans hrow;have hE2':Ext w A2:=ykt hEA rfl (λ b hb=>by unfold two at hb;omega) hA2;have hs2:=hA2.size;clear hbox hrow hA2 hit hb2 hgb;have hcu':cu[pre.length]? =some (zae (l[pre.length])):=by
   have:(cu.toList.take l.length)[pre.length]? =some (zae (l[pre.length])):=by
    rw[hpre,ybP];unfold zbf;rw[yaH (by simp[zaJ];omega)];have e:(zaJ (l.take pre.length)).length=pre.length:=by simp[zaJ];omega
    rw[e];simp[hk]
   rw[ybM,if_pos hk]at this;simpa using this
  have hbit:∀u:UInt8,(65<=u↔(65:Int)<=u.toNat)/\(u<=90↔(u.toNat:Int)<=90):=λ u=>by
   rw[ybo,ybo];constructor
   ·show 65<=u.toNat↔_;omega
   ·show u.toNat<=90↔_;omega
  have hkeep:∀B,A2=B->¬(65<=l[pre.length]/\l[pre.length]<=90)->(Ext w B/\B.heap[w.heap.size+1]? =some (.cells #[.slice (some ⟨w.heap.size,0,.none⟩) l.length c] 93 (0,0))/\
   ∃cur:Array Value,cur.size=c/\cur.toList.take l.length=(zbf l (pre++ [(l[pre.length],pre.length)]).length).map zae/\B.heap[w.heap.size]? =some (.cells cur 5 (c,c+1)))/\
    KeepB (w3.heap.size+2) (λ b=>b=w.heap.size) A2 B:=by
   rintro B rfl hno;refine⟨⟨hE2',hbox2,cu,hcu,?_,hrow2⟩,KeepB.refl _ _ _⟩;rw[hpre,zgC hk hno];simp
  generalize hcc:l[pre.length]=cc at*;refine rqz ?_;intro gd K hgd hK;have hg2:=gk 2 14 hgd rfl;by_cases h65:(65:Int)<=cc.toNat
  ·try simp (disch:=first|omega|assumption|rfl) only[go_sem,hg2,zb8,zcy,zgS,yet h65,beq_self_eq_true]
   apply hK;refine wcz ?_ ?_
   ·intro h90;simp only[ydT]at h90;have hc1:zad A2 (some ⟨w.heap.size+1,0,.none⟩)=some (.slice (some ⟨w.heap.size,0,.none⟩) l.length c):=by
     show A2.cell? _=_;rw[zaM hbox2];rfl
    refine rqz ?_;intro gd K hgd hK;refine sgz hc1 ?_;refine zbx rfl rfl rfl hrow2 oM (by simp;omega) ?_;intro w5 hsz5 hb5 hk5;refine en hK ?_;have hset:((zbf l pre.length).map zae).set pre.length (.int .u8 (↑cc.toNat+97 - 65))=(zbf l (pre.length+1)).map zae:=by
     rw[←zey hk,hcc,ybp]
     congr 1
     rw[zh2 ⟨(hbit cc).1.2 h65,(hbit cc).2.2 h90⟩];unfold zae
     congr 1
     have:(cc+32).toNat=cc.toNat+32:=by
      rw[ydb];show(cc.toNat+32) % 256=_;omega
     rw[this];push_cast;omega
    refine⟨⟨ykt hE2' rfl (λ b hb=>oM) hk5,?_,cu.setIfInBounds pre.length (.int .u8 (↑cc.toNat+97 - 65)),by simpa using hcu,?_,hb5⟩,hk5.toB oM (λ i _ h=>h)⟩
    ·exact(hk5.block _ oM oM).trans hbox2
    ·rw[ybr,ydq,hpre,hset];simp
   ·intro h90;simp only[ydF]at h90;repeat refine c_r ?_
    exact hkeep _ rfl (λ h=>h90 ((hbit cc).2.1 h.2))
  ·try simp (disch:=first|omega|assumption|rfl) only[go_sem,hg2,zb8,zcy,zgS,yef h65,beq_self_eq_true]
   apply hK;refine wcz ?_ ?_
   ·intro h;simp at h
   ·intro _;repeat refine c_r ?_
    exact hkeep _ rfl (λ h=>h65 ((hbit cc).1.1 h.1))
 ·rintro w4 hsz4 ⟨hE4,hbox,cu,hcu,hpre,hrow⟩ hD;have hc1:zad w4 (some ⟨w.heap.size+1,0,.none⟩)=some (.slice (some ⟨w.heap.size,0,.none⟩) l.length c):=by
   show w4.cell? _=_;rw[zaM hbox];rfl
  have hfull:zbf l l.zipIdx.length=zaJ l:=by simp[zbf]
  rw[hfull]at hpre;have hlen:(zaJ l).length=l.length:=by simp[zaJ]
  refine rqz ?_;intro gd K hgd hK;refine sgz hc1 ?_;rw[←hlen];refine zcv rfl rfl rfl vq0 ?_ ?_
  ·intro j hj;rw[hlen]at hj;rw[zaY];show w4.cell? _=_;rw[zaM hrow];have:(cu.toList.take l.length)[j]? =some (zae ((zaJ l)[j]'(oM))):=by
    rw[hpre,ybP,yam oM];rfl
   rw[ybM,if_pos hj]at this;simpa using this
  try simp only[go_sem]
  refine en hK ?_;refine zcY (by simp) rfl ntmps63 (by simp only[go_sem];rfl) hD ?_;intro w5 hk5 _;exact⟨rfl,ykt hE4 rfl (λ b hb=>oM) hk5⟩
def zat(w:World)(p:Option Addr)(k:Nat):Option (List Value):=p.bind λ a=>zaS w a 0 k
theorem zni{P:Program}{p:Option Addr}(hA:tyA P t=true):ldA P w t p=(zat w p (tyS P t)).map λ l=> .agg l.toArray:=by
 cases p with
 |none=>rfl
 |some a=>simp[ldA,ldP,ldV,hA,zat]
theorem zfE{o:Nat}{cur:Array Value}{fr:Nat×Nat}(h:w.heap[b]? =some (.cells cur e fr)):∀(k i:Nat),o+i+k<=cur.size->
  zaS w ⟨b,o,.none⟩ i k=some ((cur.toList.drop (o+i)).take k)
 |0,_,_=>by simp[zaS]
 |k+1,i,hk=>by
  unfold zaS;rw[zf1,zaM h,zfE h k (i+1) oM];have hlt:o+i<cur.size:=oM;have hd:=yag (l:=cur.toList) (i:=o+i) (sU hlt);rw[ycz hlt,hd,List.take_succ_cons]
  rfl
theorem zaK{o:Nat}{cur:Array Value}{fr:Nat×Nat}(h:w.heap[b]? =some (.cells cur e fr))(hk:o+k<=cur.size):
  zat w (some ⟨b,o,.none⟩) k=some ((cur.toList.drop o).take k):=by
 have:=zfE (o:=o) h k 0 oM;simpa [zat] using this
theorem zj4(hk:Keep S w x){p:Option Addr}(hS:offS S p)(h:zat w p k=some l):zat x p k=some l:=by
 cases p with
 |none=>cases h
 |some a=>exact zeE hk (hS a rfl) k 0 l h
theorem zac(hk:Ext w x){p:Option Addr}(h:zat w p k=some l):zat x p k=some l:=
 zj4 hk (by simp[offS,NoS]) h
theorem zak(h:zat w (adr a j) k=some l):a.isSome=true:=by
 cases a with
 |none=>simp[zat,adr]at h
 |some a=>rfl
theorem zhy{a:Addr}:∀{k i:Nat} {l:List Value},zaS w a i k=some l->l.length=k
 |0,_,l,h=>by simp[zaS]at h;subst h;rfl
 |k+1,i,l,h=>by
  unfold zaS at h
  split at h
  ·rename_i v l' h1 h2;cases h;simp[zhy h2]
  ·cases h
theorem zlY{p:Option Addr}(h:zat w p k=some l):l.length=k:=by
 cases p with
 |none=>cases h
 |some a=>exact zhy h
theorem zfu{a:Addr}:∀{k i:Nat} {l:List Value},zaS w a i k=some l->∀(j:Nat) (h:j<l.length),w.cell? (a.add (i+j))=some l[j]
 |0,_,l,h,j,hj=>by simp[zaS]at h;subst h;simp at hj
 |k+1,i,l,h,j,hj=>by
  unfold zaS at h
  split at h
  ·rename_i v l' h1 h2;cases h;cases j with
   |zero=>exact h1
   |succ j=>
    have:=zfu h2 j (sU hj);rw[show i+(j+1)=i+1+j from by omega];exact this
  ·cases h
theorem zcC{p:Option Addr}(h:zat w p k=some l)(hj:j<l.length):zad w (adr p j)=some l[j]:=by
 cases p with
 |none=>cases h
 |some a=>
  have:=zfu (i:=0) h j hj;rw[yn0]at this;exact this
def RowK(k:Nat)(w:World)(v:Value)(L:List (List Value)):Prop:=
 ∃a c,v= .slice a L.length c/\L.length<=c/\∀j (h:j<L.length),zat w (adr a (j*k)) k=some L[j]
theorem RowK.ext{L:List (List Value)}(h:RowK k w v L)(hE:Ext w x):RowK k x v L:=by
 obtain⟨a,c,rfl,hc,hl⟩:=h;exact⟨a,c,rfl,hc,λ j hj=>zac hE (hl j hj)⟩
/-! ### a block of elements -/
structure SD(k:Nat)(w:World)(b:Nat)(e:TypeId)(cap:Nat)(D:List (List Value)):Prop where
 lies:∃cur:Array Value,∃R:List Value,w.heap[b]? =some (.cells cur e (0,0))/\cur.toList=D.flatten++R/\cur.size=cap*k
 len:∀x∈D,x.length=k
 ones:∀x∈D,∀v∈x,one v=true
theorem zbN:∀{D:List (List Value)},(∀x∈D,x.length=k)->D.flatten.length=D.length*k
 | [],_=>sM
 |x::D,h=>by
  have h1:=h x (yal ..);have h2:=zbN (D:=D) (λ y hy=>h y (yak _ hy));rw[ybC,yab,h1,h2,yah,ydw];omega
theorem zh4{D:List (List Value)}(h:∀x∈D,x.length=k)(hj:j<D.length):D.flatten=(D.take j).flatten++D[j]++(D.drop (j+1)).flatten/\(D.take j).flatten.length=j*k:=by
 constructor
 ·refine(congrArg List.flatten (zcW hj)).trans ?_;rw[ybl,ybC,yla]
 ·rw[zbN (λ x hx=>h x (yaO hx)),yaQ,ydx oM]
theorem SD.get{D:List (List Value)}(h:SD k w b e cap D)(hj:j<D.length):zat w (some ⟨b,j*k,.none⟩) k=some D[j]:=by
 obtain⟨cur,R,hb,hc,hs⟩:=h.lies;obtain⟨e1,e2⟩:=zh4 h.len hj;have hk:=h.len D[j] (yac hj);have hlen:cur.toList.length=D.flatten.length+R.length:=by rw[hc];simp
 have e3:=congrArg List.length e1;simp only[yab]at e3;have hsz:cur.toList.length=cur.size:=by simp
 rw[zaK hb oM,hc,e1,yla,yla,List.drop_left' e2,List.take_left' hk]
theorem zgd{b o:Nat}{e:TypeId}:∀(l:List Value) (i:Nat) (w:World) (A V B:List Value) (cur:Array Value),w.heap[b]? =some (.cells cur e (0,0))->cur.toList=A++V++B->A.length=o+i->V.length=l.length->(∀v∈l,one v=true)->
  ∃w',stC w ⟨b,o,.none⟩ i l=some w'/\w'.heap.size=w.heap.size/\Keep (λ x=>x=b) w w'/\∃cur':Array Value,w'.heap[b]? =some (.cells cur' e (0,0))/\cur'.toList=A++l++B
 | [],i,w,A,V,B,cur,hb,hc,hA,hV,_=>by
  have:V=[]:=yan.1 hV;subst this;exact⟨w,rfl,rfl,Keep.refl _ _,cur,hb,by simpa using hc⟩
 |v::l,i,w,A,V,B,cur,hb,hc,hA,hV,h1=>by
  cases V with
  |nil=>simp at hV
  |cons u V=>
   have hcl:=congrArg List.length hc;simp only[yab,yah,ydc]at hcl;have hlt:o+i<cur.size:=oM;have hset:(cur.setIfInBounds (o+i) v).toList=(A++ [v])++V++B:=by
    rw[ybr,hc,←hA,yla,ybL _ _ (ynl _),ycI];simp
   obtain⟨w',k1,k2,k3,cur',k4,k5⟩:=zgd l (i+1) (w.setCell ⟨b,o+i,.none⟩ v) (A++ [v]) V B _ (ziv hb) hset (by rw[yab,hA];rfl) (sU hV) (λ x hx=>h1 x (yak _ hx));refine⟨w',?_,by rw[k2];simp,(zkr w b (o+i) v).trans k3,cur',k4,by simpa using k5⟩;unfold stC;rw[zf1,zaM hb,zgz hb,ycz hlt,h1 v (yal ..)];simpa using k1
theorem SD.set{D:List (List Value)}(h:SD k w b e cap D){P:Program}{K:Value->World->Prop}(hj:j<D.length){x:List Value}(hx:x.length=k)(h1:∀v∈x,one v=true)
  (hs:tyS P t=k) (hi:(P.info? t).isSome=true) (hK:∀w',w'.heap.size=w.heap.size->SD k w' b e cap (D.set j x)->Keep (λ i=>i=b) w w'->K undef w'):
  stK P t (.pointer (some ⟨b,j*k,.none⟩)) (.agg x.toArray) w K:=by
 obtain⟨cur,R,hb,hc,hsz⟩:=h.lies;obtain⟨e1,e2⟩:=zh4 h.len hj;have hk:=h.len D[j] (yac hj);rw[e1,yla,yla]at hc;obtain⟨w',k1,k2,k3,cur',k4,k5⟩:=zgd (o:=j*k) x 0 w (D.take j).flatten D[j] ((D.drop (j+1)).flatten++R) cur hb (by rw[hc];simp) (by simpa using e2) (by rw[hk,hx]) h1;refine⟨by simp[Value.cells,hx,hs],hi,w',by simpa [Value.cells] using k1,hK w' k2 ⟨⟨cur',R,k4,?_,?_⟩,?_,?_⟩ k3⟩
 ·have e3:(D.set j x).flatten=(D.take j).flatten++x++(D.drop (j+1)).flatten:=by
   rw[ycL,if_pos hj];simp
  rw[k5,e3];simp
 ·have l1:=congrArg List.length k5;have l2:=congrArg List.length hc;simp only[yab,ydc]at l1 l2;omega
 ·intro y hy;rcases ybK hy with hy|rfl
  ·exact h.len y hy
  ·exact hx
 ·intro y hy;rcases ybK hy with hy|rfl
  ·exact h.ones y hy
  ·exact h1
theorem SD.keep{D:List (List Value)}(h:SD k w b e cap D)(hk:Keep S w x)(hS:¬S b):SD k x b e cap D:=by
 obtain⟨⟨cur,R,hb,hr⟩,h1,h2⟩:=h;exact⟨⟨cur,R,(hk.block _ (yaa.1 hb).1 hS).trans hb,hr⟩,h1,h2⟩
theorem SD.ext{D:List (List Value)}(h:SD k w b e cap D)(hE:Ext w x):SD k x b e cap D:=h.keep hE (λ h=>h)
theorem SD.lt{D:List (List Value)}(h:SD k w b e cap D):b<w.heap.size:=by
 obtain⟨cur,R,hb,_⟩:=h.lies;exact(yaa.1 hb).1
def ldAX(P:Program)(w:World)(t:TypeId)(p:Option Addr):Bool->Nat->Option Value
 |true,k=>(zat w p k).map λ l=> .agg l.toArray
 |false,_=>ldP P w t p
theorem ldA_X{P:Program}(p:Option Addr):ldA P w t p=ldAX P w t p (tyA P t) (tyS P t):=by
 cases hA:tyA P t with
 |true=>exact zni hA
 |false=>rfl
theorem znj{P:Program}(p:Option Addr)(k:Nat):ldAX P w t p true k=(zat w p k).map λ l=> .agg l.toArray:=nr rfl
attribute [go_sem] ldA_X znj
theorem zab{cur:Array Value}{fr:Nat×Nat}(h:w.heap[b]? =some (.cells cur e fr))(hv:cur[i]? =some v):zad w (some ⟨b,i,.none⟩)=some v:=by
 show w.cell? _=_;rw[zaM h];exact hv
def zgo(k:Nat):List Value->List (Nat×Value)
 | []=>[]
 |v::l=>(k,v)::zgo (k+1) l
theorem ziZ:∀(l:List Value) (k:Nat) (cells:Array Value),(∀v∈l,v.cells=#[v])->k+l.length<=cells.size->
  ∃r,Instr.fill (λ i=>some (i*1,1)) cells (zgo k l)=some r/\r.toList=cells.toList.take k++l++cells.toList.drop (k+l.length)
 | [],k,cells,_,_=>⟨cells,rfl,sM⟩
 |v::l,k,cells,h,hk=>by
  simp only[yah]at hk;have hv:=h v (yal ..);obtain⟨r,h1,h2⟩:=ziZ l (k+1) (cells.setIfInBounds k v) (λ u hu=>h u (yak _ hu)) (by simp;omega);refine⟨r,?_,?_⟩
  ·unfold zgo Instr.fill;simp only[hv,ybt];have:¬((#[v]:Array Value).size≠1\/k+(#[v]:Array Value).size>cells.size):=by simp;omega
   rw[if_neg (sU this)];simpa using h1
  ·rw[h2,ybr,ydq,List.drop_set_of_lt oM];have hlt:k<cells.toList.length:=by simp;omega
   rw[zal hlt];have e1:(cells.toList.take k).length=k:=by rw[yaQ];omega
   rw[ybL _ _ oM,e1,ycI,ybi];simp[yct,ydf 1]
section
variable {P : Program} {w : World} {K : Value -> World -> Prop}
theorem zbK{z:Value}{n:Nat}{parts:List (Nat×Value)}(hn:n=l.length)(hp:parts=zgo 0 l)(hu:tyU P t=some (.slice e))(hz:tyZ P e=some z)(hs:tyS P e=1)(hz1:z.cells=#[z])(hv:∀v∈l,v.cells=#[v])(hl:l.length<=1000000)
  (h:∀w1,Ext w w1->w1.heap.size=w.heap.size+1->Own w.heap.size w1 e (.slice (some ⟨w.heap.size,0,.none⟩) n n) l->K (.slice (some ⟨w.heap.size,0,.none⟩) n n) w1):bsL P t n parts w K .mk:=by
 subst hn hp;unfold bsL bsK;have hsz:((Array.range (l.length*1)).map λ x=>z.cells[x % z.cells.size]!).size=l.length:=sM;obtain⟨r,h1,h2⟩:=ziZ l 0 ((Array.range (l.length*1)).map λ x=>z.cells[x % z.cells.size]!) hv (by rw[hsz];omega);have hr:r.toList=l:=by
  rw[h2,ydk,yaI,yn0,yat (by rw[ydc,hsz];exact ynl _),yaF]
 have:bsC P t l.length (zgo 0 l)=some (e,r):=by
  unfold bsC;rw[hu];simp only[hz,hs];have c1:(decide (l.length*1<=2 ^ 24) && decide (z.cells.size=1))=true:=by rw[hz1];simp;omega
  rw[c1,cond_true,h1];rfl
 rw[this];have hrs:r.size=l.length:=by rw[←hr];simp
 exact h _ (yea w _) (zai w _) ⟨sM,.inr ⟨w.heap.size,l.length,r,rfl,ynl _,zam w _,ynl _,by simp[maxLen];omega,by simpa using hrs,by rw[hr];simp⟩⟩
end
structure OwnK(k B:Nat)(w:World)(e:TypeId)(v:Value)(L:List (List Value)):Prop where
 own:w.ownsRow B e k v L.length L.flatten
 len:∀x∈L,x.length=k
 ones:∀x∈L,∀v∈x,one v=true
section
variable {P : Program} {d : Option Tmp} {ty : TypeId} {ps : String} {af : Array Edge} {g : Option (Nat × Bool)} {ρ : Operand -> Value} {w : World} {K : Value -> World -> Prop}
theorem OwnK.nil(k B:Nat)(w:World)(e:TypeId):OwnK k B w e (.slice .none 0 0) []:=⟨⟨sM,.inl ⟨rfl,rfl⟩⟩,λ x h=>(by cases h),λ x h=>(by cases h)⟩
theorem OwnK.ge{L:List (List Value)}(h:OwnK k B w e v L)(hb:some b=v.ownBlock):B<=b/\b<w.heap.size:=by
 rcases h.own.2 with ⟨rfl,_⟩| ⟨g,cap,cur,rfl,hg,hc,_⟩
 ·cases hb
 ·cases hb;exact⟨hg,(yaa.1 hc).1⟩
theorem OwnK.keep{L:List (List Value)}(h:OwnK k B w e v L)(hk:Keep S w x)(hS:∀b,some b=v.ownBlock->¬S b):OwnK k B x e v L:=by
 obtain⟨⟨h1,h2⟩,h3,h4⟩:=h;refine⟨⟨h1,?_⟩,h3,h4⟩;rcases h2 with h2| ⟨g,cap,cur,hv,hb,hg,rest⟩
 ·exact .inl h2
 ·exact .inr ⟨g,cap,cur,hv,hb,(hk.block _ (yaa.1 hg).1 (hS _ (by rw[hv];rfl))).trans hg,rest⟩
theorem OwnK.ext{L:List (List Value)}(h:OwnK k B w e v L)(hk:Ext w x):OwnK k B x e v L:=h.keep hk (λ _ _ h=>h)
theorem OwnK.mono{B':Nat}{L:List (List Value)}(h:OwnK k B w e v L)(hB:B'<=B):OwnK k B' w e v L:=by
 obtain⟨⟨h1,h2⟩,h3,h4⟩:=h;refine⟨⟨h1,?_⟩,h3,h4⟩;rcases h2 with h2| ⟨g,cap,cur,hv,hb,rest⟩
 ·exact .inl h2
 ·exact .inr ⟨g,cap,cur,hv,oM,rest⟩
theorem OwnK.cases{k B:Nat}{e:TypeId}{v:Value}{L:List (List Value)}(h:OwnK k B w e v L):
  (v= .slice .none 0 0/\L=[])\/∃b cap,v= .slice (some ⟨b,0,.none⟩) L.length cap/\B<=b/\L.length<=cap/\cap<=maxLen/\SD k w b e cap L:=by
 obtain⟨⟨h1,h2⟩,h3,h4⟩:=h;rcases h2 with ⟨rfl,h0⟩| ⟨g,cap,cur,rfl,hg,hb,hn,hm,hcs,hx⟩
 ·exact .inl ⟨rfl,yan.1 h0⟩
 ·refine .inr ⟨g,cap,rfl,hg,hn,hm,⟨cur,cur.toList.drop (L.length*k),hb,?_,hcs⟩,h3,h4⟩;rw[←hx,yar]
theorem OwnK.of_sd{L:List (List Value)}(h:SD k w b e cap L)(hB:B<=b)(hc:L.length<=cap)(hm:cap<=maxLen):OwnK k B w e (.slice (some ⟨b,0,.none⟩) L.length cap) L:=by
 obtain⟨cur,R,hb,e1,e2⟩:=h.lies;refine⟨⟨zbN h.len,.inr ⟨b,cap,cur,rfl,hB,hb,hc,hm,e2,?_⟩⟩,h.len,h.ones⟩;rw[e1,List.take_left' (zbN h.len)]
theorem OwnK.rowK{L:List (List Value)}(h:OwnK k B w e v L):RowK k w v L:=by
 rcases h.cases with ⟨rfl,rfl⟩| ⟨b,cap,rfl,_,hc,_,hD⟩
 ·exact⟨.none,0,rfl,ynl _,λ j h=>by simp at h⟩
 ·exact⟨_,cap,rfl,hc,λ j hj=>by rw[zaY,yn0];exact hD.get hj⟩
theorem Src1.of_rowK{L:List (List Value)}(h:RowK k w u L)(hk:∀x∈L,x.length=k):Src1 w u L.length k L.flatten:=by
 obtain⟨a,c,rfl,hc,hl⟩:=h;refine⟨a,c,rfl,zbN hk,λ j hj=>?_⟩;rw[zbN hk]at hj;have hk0:0<k:=Nat.pos_of_ne_zero (λ h=>by subst h;simp at hj);have hq:j / k<L.length:=Nat.div_lt_of_lt_mul (by rw[Nat.mul_comm];exact hj);obtain⟨e1,e2⟩:=zh4 hk hq;have hlen:=hk L[j / k] (yac hq);have hr:j % k<L[j / k].length:=by rw[hlen];exact Nat.mod_lt _ hk0
 have hg:=zcC (hl (j / k) hq) hr;have hj2:j / k*k+j % k=j:=by rw[Nat.mul_comm];exact Nat.div_add_mod j k
 rw[zie,hj2]at hg;rw[hg];have:L.flatten[j]? =some L[j / k][j % k]:=by
  rw[e1,yla,yaH (by rw[e2];omega),yaL (by rw[e2];omega),e2];rw[show j - j / k*k=j % k from by omega];exact yam hr
 rw[yam (by rw[zbN hk];exact hj)]at this;exact this.symm
theorem zgq{k B:Nat}{s x:Operand}{t e:TypeId}{inf:TypeInfo}{z:Value}{bytes:Nat}{v u:Value}{L N:List (List Value)}(hown:OwnK k B w e v L)(hrow:RowK k w u N)
  (ht:tyU P t=some (.slice e)) (hi:P.info? e=some inf) (hz:inf.zero=some z)
  (hsize:inf.size=k) (hby:inf.bytes=bytes) (hzs:z.cells.size=k) (hk0:0<k) (hv:ρ s=v) (hu:ρ x=u)
  (hl:∀x∈N,x.length=k) (h1:∀x∈N,∀q∈x,one q=true) (hlen:L.length+N.length<=100000000000) (hbytes:bytes<=1000) (hB:B<=w.heap.size)
  (h:∀v' w',OwnK k B w' e v' (L++N)->(∀w0,Ext w0 w->w0.heap.size<=B->Ext w0 w')->Keep (λ b=>some b=v.ownBlock) w w'->(∀b,some b=v'.ownBlock->some b=v.ownBlock\/w.heap.size<=b)->(v'= .slice .none 0 0->v= .slice .none 0 0)->K v' w'):
  opW P ⟨d,.call ⟨.builtin .append,#[s,x],#[t,t]⟩,ty,ps,af,g⟩ ρ w K:=by
 refine zdL (B:=B) (m:=N.length) (xs:=L.flatten) (news:=N.flatten) (n:=L.length) ht hi hz hsize hby hzs hk0 hv hu hown.own (Src1.of_rowK hrow hl) ?_ (by simp[maxLen];omega) ?_ hB ?_
 ·intro q hq;obtain⟨y,hy,hq⟩:=ych.1 hq;exact h1 y hy q hq
 ·have:(L.length+N.length)*bytes<=100000000000*1000:=ycj hlen hbytes;omega
 ·intro v' w' ho hk hw;refine h v' w' ⟨by simpa using ho,?_,?_⟩ (λ w0 hE hB0=>?_) hk hw.2 (λ hv'=>(hw.1.1 hv').1)
  ·intro y hy;rcases yai.1 hy with hy|hy
   ·exact hown.len y hy
   ·exact hl y hy
  ·intro y hy;rcases yai.1 hy with hy|hy
   ·exact hown.ones y hy
   ·exact h1 y hy
  ·exact ykt hE rfl (λ b hb=>by have:=(hown.ge hb).1;omega) hk
theorem zj8{k:Nat}{t e:TypeId}{z:Value}(hu:tyU P t=some (.slice e))(hz:tyZ P e=some z)(hs:tyS P e=k)(hz1:z.cells.size=k)
  (h:∀w1,Ext w w1->w1.heap.size=w.heap.size+1->OwnK k w.heap.size w1 e (.slice (some ⟨w.heap.size,0,.none⟩) 0 0) []->K (.slice (some ⟨w.heap.size,0,.none⟩) 0 0) w1):bsL P t 0 [] w K .mk:=by
 unfold bsL bsK;have:bsC P t 0 []=some (e,#[]):=by simp[bsC,hu,hz,hs,hz1,Instr.fill]
 rw[this];exact h _ (yea w _) (zai w _) ⟨⟨sM,.inr ⟨w.heap.size,0,#[],rfl,ynl _,zam w _,ynl _,by decide,sM,sM⟩⟩,λ x h=>(by cases h),λ x h=>(by cases h)⟩
theorem ziu:∀(l:List Value) (n:Nat) (cells:Array Value),n+l.length<=cells.size->((l.zipIdx n).foldl (λ cs (x:Value×Nat)=>cs.setIfInBounds (0+x.2) x.1) cells).toList=cells.toList.take n++l++cells.toList.drop (n+l.length)
 | [],n,cells,_=>sM
 |v::l,n,cells,h=>by
  simp only[yah]at h;rw[List.zipIdx_cons,yce,ziu l (n+1) _ (by simp;omega)];rw[yn0,ybr,ydq,List.drop_set_of_lt oM];have hlt:n<cells.toList.length:=by simp;omega
  rw[zal hlt];have e1:(cells.toList.take n).length=n:=by rw[yaQ];omega
  rw[ybL _ _ oM,e1,ycI,ybi];simp[yct,ydf 1]
theorem fill_agg{cells:Array Value}(hl:l.length=k)(hc:cells.size=k):
  ∃r,Instr.fill (λ i=>some (i*k,k)) cells [(0,.agg l.toArray)]=some r/\r.toList=l:=by
 refine⟨(l.zipIdx 0).foldl (λ cs (x:Value×Nat)=>cs.setIfInBounds (0+x.2) x.1) cells,?_,?_⟩
 ·unfold Instr.fill;have hcl:(Value.agg l.toArray).cells=l.toArray:=rfl;have c1:(decide (l.toArray.size≠k)||decide (0*k+l.toArray.size>cells.size))=false:=by simp[hl,hc]
  simp only[hcl];rw[if_neg (by rw[c1];exact yaV)];show some _=some _
  congr 1
  rw[ybj];simp[ybW,←ybW]
 ·rw[ziu l 0 cells oM];simp[hl,hc]
theorem zj7{k:Nat}{t e:TypeId}{z:Value}{l:List Value}(hu:tyU P t=some (.slice e))(hz:tyZ P e=some z)(hs:tyS P e=k)(hz1:z.cells.size=k)(hl:l.length=k)(hk:k<=1000)(h1:∀q∈l,one q=true)
  (h:∀w1,Ext w w1->w1.heap.size=w.heap.size+1->OwnK k w.heap.size w1 e (.slice (some ⟨w.heap.size,0,.none⟩) 1 1) [l]->K (.slice (some ⟨w.heap.size,0,.none⟩) 1 1) w1):bsL P t 1 [(0,.agg l.toArray)] w K .mk:=by
 unfold bsL bsK;obtain⟨r,hr1,hr2⟩:=fill_agg (cells:=(Array.range (1*k)).map (z.cells[· % z.cells.size]!)) hl sM;have:bsC P t 1 [(0,.agg l.toArray)]=some (e,r):=by
  unfold bsC;rw[hu];simp only[hz,hs];have c1:(decide (1*k<=2 ^ 24) && decide (z.cells.size=k))=true:=by rw[hz1];simp;omega
  rw[c1,cond_true,hr1];rfl
 rw[this];have hsz:r.size=k:=by rw[←hl,←hr2];simp
 exact h _ (yea w _) (zai w _) ⟨⟨by simp[hl],.inr ⟨w.heap.size,1,r,rfl,ynl _,zam w _,ynl _,by decide,by simpa using hsz,by rw[hr2];simp[←hl]⟩⟩,λ x h=>(by rw[yae.1 h];exact hl),λ x h=>(by rw[yae.1 h];exact h1)⟩
theorem zkt{fn:Func}{n:Nat}{σ:Sto}{R:Value->World->Prop}{e:Exit}(he:e= .normal\/e= .ret){t:Tmp}{tt:TypeId}{x:Addr}{l:List Value}(hl:fn.results.toList=[.cell t tt])(hm:fn.ntmps=n)(hv:ev n σ (.tmp t)= .pointer (some x))
  (hA:tyA P tt=true) {k:Nat} (hk:tyS P tt=k) (hc:zat w (some x) k=some l) (h:R (.agg l.toArray) w):retQ P fn R e σ [] w:=by
 subst hm hk;refine zeL he hl (rs:=[.agg l.toArray]) ?_ h;unfold resV;rw[show (if t<fn.ntmps then σ t else undef)= .pointer (some x) from hv];have:ldV P w tt x=some (.agg l.toArray):=by
  unfold ldV;rw[hA,cond_true,show zaS w x 0 (tyS P tt)=some l from hc];rfl
 simp only[this,resV]
theorem zd1(w:World)(A B:Obj):Ext w ((w.alloc A).alloc B)/\((w.alloc A).alloc B).heap.size=w.heap.size+2/\((w.alloc A).alloc B).heap[w.heap.size]? =some A/\((w.alloc A).alloc B).heap[w.heap.size+1]? =some B:=by
 have s1:=zai w A;have s2:=zai (w.alloc A) B;have b1:=zam w A;have b2:=zam (w.alloc A) B;rw[s1]at s2 b2;exact⟨(yea w A).trans (yea _ B),s2,(yaE _ B _ (by rw[s1];omega)).trans b1,b2⟩
theorem zgU(w:World)(A B C:Obj):Ext w (((w.alloc A).alloc B).alloc C)/\(((w.alloc A).alloc B).alloc C).heap.size=w.heap.size+3/\(((w.alloc A).alloc B).alloc C).heap[w.heap.size]? =some A/\(((w.alloc A).alloc B).alloc C).heap[w.heap.size+1]? =some B/\(((w.alloc A).alloc B).alloc C).heap[w.heap.size+2]? =some C:=by
 obtain⟨h1,h2,h3,h4⟩:=zd1 w A B;have s3:=zai ((w.alloc A).alloc B) C;have b3:=zam ((w.alloc A).alloc B) C;rw[h2]at s3 b3;exact⟨h1.trans (yea _ C),s3,(yaE _ C _ (by rw[h2];omega)).trans h3,(yaE _ C _ (by rw[h2];omega)).trans h4,b3⟩
theorem eqIn_sl{t e:TypeId}(h:P.underlying t=some (.slice e))(n:Nat)(a:Option Addr)(l c:Nat):
  (Op.equalIn (n+1) t (.slice a l c) (.slice .none 0 0)).run P w= .ok a.isNone w:=by
 cases a<;>simp[Op.equalIn,underlying,program,Sem.run,h]
theorem zh5{yt:TypeId}{x y:Operand}{n:Nat}(ht:tyU P t=some (.slice e))(hx:ρ x= .slice a n c)(hy:ρ y= .slice .none 0 0)(h:K (.bool a.isNone) w):
  opW P ⟨d,.binOp .eql t x y yt,ty,ps,af,g⟩ ρ w K:=by
 have h2:(Op.equal t (.slice a n c) (.slice .none 0 0)).run P w= .ok a.isNone w:=eqIn_sl (show P.underlying t=_ from ht) 9999 a n c;have hr:(do eqGuard .eql t x y (.slice a n c) (.slice .none 0 0);binOp .eql t (.slice a n c) (.slice .none 0 0):Sem Value).run P w= .ok (.bool a.isNone) w:=by
  simp[eqGuard,binOp,h2]
 have:=zaI (P:=P) (K:=K) hr h;rw[←hx,←hy]at this;exact this
end
section
variable {α : Type}
def Rows(k:Nat)(C:List Value->α->Prop)(w:World)(v:Value)(xs:List α):Prop:=∃L,RowK k w v L/\L.length=xs.length/\∀i (h:i<L.length) (h':i<xs.length),C L[i] xs[i]
def Owns(k:Nat)(C:List Value->α->Prop)(B:Nat)(w:World)(e:TypeId)(v:Value)(xs:List α):Prop:=∃L,OwnK k B w e v L/\L.length=xs.length/\∀i (h:i<L.length) (h':i<xs.length),C L[i] xs[i]
structure zdD(k:Nat)(C:List Value->α->Prop):Prop where
 len:∀{cs:List Value} {a:α},C cs a->cs.length=k
 ones:∀{cs:List Value} {a:α},C cs a->∀q∈cs,one q=true
variable {k B : Nat} {C C' : List Value -> α -> Prop} {w x : World} {v : Value} {xs : List α} {e : TypeId}
theorem Rows.ext(h:Rows k C w v xs)(hE:Ext w x):Rows k C x v xs:=by
 obtain⟨L,h1,h2,h3⟩:=h;exact⟨L,h1.ext hE,h2,h3⟩
theorem Rows.to(h:Rows k C w v xs)(hC:∀cs a,C cs a->C' cs a):Rows k C' w v xs:=by
 obtain⟨L,h1,h2,h3⟩:=h;exact⟨L,h1,h2,λ i h h'=>hC _ _ (h3 i h h')⟩
theorem Owns.ext(h:Owns k C B w e v xs)(hE:Ext w x):Owns k C B x e v xs:=by
 obtain⟨L,h1,h2,h3⟩:=h;exact⟨L,h1.ext hE,h2,h3⟩
theorem Owns.keep(h:Owns k C B w e v xs)(hk:Keep S w x)(hS:∀b,some b=v.ownBlock->¬S b):Owns k C B x e v xs:=by
 obtain⟨L,h1,h2,h3⟩:=h;exact⟨L,h1.keep hk hS,h2,h3⟩
theorem Owns.to(h:Owns k C B w e v xs)(hC:∀cs a,C cs a->C' cs a):Owns k C' B w e v xs:=by
 obtain⟨L,h1,h2,h3⟩:=h;exact⟨L,h1,h2,λ i h h'=>hC _ _ (h3 i h h')⟩
theorem Owns.rows(h:Owns k C B w e v xs):Rows k C w v xs:=by
 obtain⟨L,h1,h2,h3⟩:=h;exact⟨L,h1.rowK,h2,h3⟩
theorem Owns.nil(k:Nat)(C:List Value->α->Prop)(B:Nat)(w:World)(e:TypeId):Owns k C B w e (.slice .none 0 0) []:=⟨[],OwnK.nil _ _ _ _,rfl,λ i h=>absurd h sM⟩
theorem Rows.nil(k:Nat)(C:List Value->α->Prop)(w:World):Rows k C w (.slice .none 0 0) []:=(Owns.nil k C 0 w 0).rows
theorem Owns.mono{B':Nat}(h:Owns k C B w e v xs)(hB:B'<=B):Owns k C B' w e v xs:=by
 obtain⟨L,h1,h2,h3⟩:=h;exact⟨L,h1.mono hB,h2,h3⟩
theorem Owns.ge(h:Owns k C B w e v xs)(hb:some b=v.ownBlock):B<=b/\b<w.heap.size:=by
 obtain⟨L,h1,_⟩:=h;exact h1.ge hb
theorem Rows.open(h:Rows k C w v xs):∃a c,v= .slice a xs.length c/\xs.length<=c/\∀i (h:i<xs.length),∃cs,zat w (adr a (i*k)) k=some cs/\C cs xs[i]:=by
 obtain⟨L,⟨a,c,rfl,hc,hg⟩,h2,h3⟩:=h;refine⟨a,c,by rw[h2],oM,λ i hi=>⟨L[i]'(oM),hg i oM,h3 i oM hi⟩⟩
theorem zkD{D:Nat->List Value->Prop}:∀(m:Nat),(∀i,i<m->∃cs,D i cs)->∃L:List (List Value),L.length=m/\∀i (h:i<L.length),D i L[i]
 |0,_=>⟨[],rfl,λ i h=>absurd h sM⟩
 |m+1,h=>by
  obtain⟨L,hl,hL⟩:=zkD m (λ i hi=>h i oM);obtain⟨cs,h1⟩:=h m oM;refine⟨L++ [cs],by simp[hl],λ i hi=>?_⟩;by_cases he:i<L.length
  ·rw[yaK he];exact hL i he
  ·have hi0:i=L.length:=by simp at hi;omega
   have e1:(L++ [cs])[i]=cs:=by simp[hi0]
   rw[e1,hi0,hl];exact h1
theorem Rows.close(hc:xs.length<=c)(h:∀i (h:i<xs.length),∃cs,zat w (adr a (i*k)) k=some cs/\C cs xs[i]):Rows k C w (.slice a xs.length c) xs:=by
 obtain⟨L,hl,hL⟩:=zkD (D:=λ i cs=>∀h:i<xs.length,zat w (adr a (i*k)) k=some cs/\C cs xs[i]) xs.length (λ i hi=>by
  obtain⟨cs,h1⟩:=h i hi;exact⟨cs,λ _=>h1⟩)
 exact⟨L,⟨a,c,by rw[hl],oM,λ i hi=>(hL i hi oM).1⟩,hl,λ i h h'=>(hL i h h').2⟩
theorem all_app{L M:List (List Value)}{ys:List α}(hl:L.length=xs.length)(hm:M.length=ys.length)(h:∀q (h:q<L.length) (h':q<xs.length),C L[q] xs[q])(hM:∀q (h:q<M.length) (h':q<ys.length),C M[q] ys[q]):
  ∀q (h:q<(L++M).length) (h':q<(xs++ys).length),C (L++M)[q] (xs++ys)[q]:=by
 intro q h1 h2;by_cases hq:q<L.length
 ·rw[yaK hq,yaK oM];exact h q hq oM
 ·have e1:(L++M)[q]=M[q - L.length]'(by simp at h1;omega):=List.getElem_append_right oM;have e2:(xs++ys)[q]=ys[q - L.length]'(by simp at h2;omega):=by rw[List.getElem_append_right oM];simp[hl]
  rw[e1,e2];exact hM _ _ _
theorem Rows.drop{a:Option Addr}{c n:Nat}(h:Rows k C w (.slice a n c) xs){m:Nat}(hm:m<=n):Rows k C w (.slice (if c=m then a else adr a (m*k)) (n - m) (c - m)) (xs.drop m):=by
 obtain⟨a',c',hv',hc,hg⟩:=h.open;have e1:a=a':=by injection hv'
 have e2:n=xs.length:=by injection hv'
 have e3:c=c':=by injection hv'
 subst e1 e2 e3;rw[show xs.length - m=(xs.drop m).length from(ybb ..).symm];refine Rows.close (by rw[ybb];omega) (λ i hi=>?_);rw[ybb]at hi;obtain⟨cs,h1,h2⟩:=hg (m+i) oM;refine⟨cs,?_,by rw[ycR];exact h2⟩;rw[if_neg oM,zie,←Nat.add_mul];exact h1
theorem Rows.take{n:Nat}(h:Rows k C w (.slice a n c) xs){c2:Nat}(hm:m<=n)(hc2:m<=c2):Rows k C w (.slice a m c2) (xs.take m):=by
 obtain⟨a',c',hv',hc,hg⟩:=h.open;have e1:a=a':=by injection hv'
 have e2:n=xs.length:=by injection hv'
 subst e1 e2;have hl:(xs.take m).length=m:=by rw[yaQ];omega
 have:=Rows.close (k:=k) (C:=C) (w:=w) (a:=a) (c:=c2) (xs:=xs.take m) oM (λ i hi=>by
  rw[hl]at hi;obtain⟨cs,h1,h2⟩:=hg i oM;exact⟨cs,h1,by rw[ybG];exact h2⟩)
 rwa [hl]at this
theorem Rows.len{n:Nat}(h:Rows k C w (.slice a n c) xs):n=xs.length/\xs.length<=c:=by
 obtain⟨a',c',hv',hc,hg⟩:=h.open;have e2:n=xs.length:=by injection hv'
 have e3:c=c':=by injection hv'
 exact⟨e2,oM⟩
theorem Rows.get{n:Nat}(h:Rows k C w (.slice a n c) xs)(hi:i<xs.length):∃cs,zat w (adr a (i*k)) k=some cs/\C cs xs[i]:=by
 obtain⟨a',c',hv',hc,hg⟩:=h.open;have e1:a=a':=by injection hv'
 subst e1;exact hg i hi
theorem all_set{L:List (List Value)}{X:List Value}{m:α}{j:Nat}(hl:L.length=xs.length)(h:∀q (h:q<L.length) (h':q<xs.length),C L[q] xs[q])(hX:C X m):
  ∀q (h:q<(L.set j X).length) (h':q<(xs.set j m).length),C (L.set j X)[q] (xs.set j m)[q]:=by
 intro q h1 h2;by_cases hq:j=q
 ·subst hq;rw[List.getElem_set_self,List.getElem_set_self];exact hX
 ·rw[ycE hq,ycE hq];exact h q (sU h1) (sU h2)
theorem Owns.cases(h:Owns k C B w e v xs):
  (v= .slice .none 0 0/\xs=[])\/∃b cap L,v= .slice (some ⟨b,0,.none⟩) xs.length cap/\B<=b/\xs.length<=cap/\cap<=maxLen/\SD k w b e cap L/\L.length=xs.length/\∀i (h:i<L.length) (h':i<xs.length),C L[i] xs[i]:=by
 obtain⟨L,h1,h2,h3⟩:=h;rcases h1.cases with ⟨hv,h0⟩| ⟨b,cap,hv,hb,hc,hm,hD⟩
 ·refine .inl ⟨hv,?_⟩;rw[h0]at h2;exact yan.1 h2.symm
 ·exact .inr ⟨b,cap,L,by rw[hv,h2],hb,oM,hm,hD,h2,h3⟩
theorem Owns.of_sd{L:List (List Value)}(h:SD k w b e cap L)(hB:B<=b)(hc:xs.length<=cap)(hm:cap<=maxLen)(hl:L.length=xs.length)(h3:∀i (h:i<L.length) (h':i<xs.length),C L[i] xs[i]):
  Owns k C B w e (.slice (some ⟨b,0,.none⟩) xs.length cap) xs:=by
 have:=OwnK.of_sd h hB oM hm;rw[hl]at this;exact⟨L,this,hl,h3⟩
end
section
variable {P : Program} {d : Option Tmp} {ty : TypeId} {ps : String} {af : Array Edge} {g : Option (Nat × Bool)} {ρ : Operand -> Value} {w : World} {K : Value -> World -> Prop} {α : Type} {k : Nat} {C : List Value -> α -> Prop}
theorem Ext.at(h:Ext w x){O:Obj}(hb:w.heap[b]? =some O):x.heap[b]? =some O:=(h.block _ (yaa.1 hb).1 (λ h=>h)).trans hb
theorem zav{f:Option Nat}{n:Nat}{c:Code}{Q:Post}{σ:Sto}{ds:List Deferred}{O:Obj}(h:∀w1,Ext w w1->w1.heap.size=w.heap.size+1->w1.heap[w.heap.size]? =some O->W P f n c Q σ ds w1):W P f n c Q σ ds (w.alloc O):=
 h _ (yea w O) (zai w O) (zam w O)
theorem zaQ{f:Option Nat}{n:Nat}{c:Code}{Q:Post}{σ:Sto}{ds:List Deferred}{A B:Obj}(h:∀w1,Ext w w1->w1.heap.size=w.heap.size+2->w1.heap[w.heap.size]? =some A->w1.heap[w.heap.size+1]? =some B->W P f n c Q σ ds w1):W P f n c Q σ ds ((w.alloc A).alloc B):=by
 obtain⟨h1,h2,h3,h4⟩:=zd1 w A B;exact h _ h1 h2 h3 h4
theorem zaR(hC:zdD k C){B:Nat}{s x:Operand}{t e:TypeId}{inf:TypeInfo}{z:Value}{bytes:Nat}{v u:Value}{xs ys:List α}(hown:Owns k C B w e v xs)(hrow:Rows k C w u ys)
  (ht:tyU P t=some (.slice e)) (hi:P.info? e=some inf) (hz:inf.zero=some z)
  (hsize:inf.size=k) (hby:inf.bytes=bytes) (hzs:z.cells.size=k) (hk0:0<k) (hv:ρ s=v) (hu:ρ x=u)
  (hlen:xs.length+ys.length<=100000000000) (hbytes:bytes<=1000) (hB:B<=w.heap.size)
  (h:∀v' w',Owns k C B w' e v' (xs++ys)->(∀w0,Ext w0 w->w0.heap.size<=B->Ext w0 w')->Keep (λ b=>some b=v.ownBlock) w w'->(∀b,some b=v'.ownBlock->some b=v.ownBlock\/w.heap.size<=b)->K v' w'):
  opW P ⟨d,.call ⟨.builtin .append,#[s,x],#[t,t]⟩,ty,ps,af,g⟩ ρ w K:=by
 obtain⟨L,h1,h2,h3⟩:=hown;obtain⟨M,m1,m2,m3⟩:=hrow;have hMl:∀x∈M,x.length=k:=λ x hx=>by
  obtain⟨i,hi,rfl⟩:=yaG hx;exact hC.len (m3 i hi oM)
 have hM1:∀x∈M,∀q∈x,one q=true:=λ x hx=>by
  obtain⟨i,hi,rfl⟩:=yaG hx;exact hC.ones (m3 i hi oM)
 refine zgq h1 m1 ht hi hz hsize hby hzs hk0 hv hu hMl hM1 oM hbytes hB ?_;intro v' w' ho hE hk hb _;exact h v' w' ⟨L++M,ho,by simp[h2,m2],all_app h2 m2 h3 m3⟩ hE hk hb
theorem za4(hC:zdD k C){t e:TypeId}{z:Value}{l:List Value}{a:α}(hu:tyU P t=some (.slice e))(hz:tyZ P e=some z)(hs:tyS P e=k)(hz1:z.cells.size=k)(hl:C l a)(hk:k<=1000)
  (h:∀w1,Ext w w1->w1.heap.size=w.heap.size+1->Owns k C w.heap.size w1 e (.slice (some ⟨w.heap.size,0,.none⟩) 1 1) [a]->K (.slice (some ⟨w.heap.size,0,.none⟩) 1 1) w1):bsL P t 1 [(0,.agg l.toArray)] w K .mk:=by
 refine zj7 hu hz hs hz1 (hC.len hl) hk (hC.ones hl) ?_;intro w1 hE hsz ho;refine h w1 hE hsz ⟨[l],ho,rfl,λ i h h'=>?_⟩;have:i=0:=by simp at h;omega
 subst this;exact hl
end
end Go.Proofs.YtfacfpcopcgbdaaGreat
