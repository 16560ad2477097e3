/-
  Texts of a proof, joined: K6, SF, K7, KD, K8, K9, K10.
  Conditions: none.
-/
import Derived.KernelRfl
import Derived.Attr
import Derived.Test.YtihbdhjibplldaaGreatDoorQLM00
import Derived.Test.YtihbdhjibplldaaGreatDoorProg
import Derived.Laws.OwnMore
import Derived.Laws.MakeOwn
import Derived.MapFrom
set_option linter.unusedVariables false
set_option linter.unusedSimpArgs false
set_option linter.defProp false
set_option linter.unnecessarySimpa false
set_option maxHeartbeats 8000000
namespace Go.Proofs.YtihbdhjibplldaaGreatDoor
open Go
universe u
theorem nr{α:Sort u}{a b:α}(h:a=b):a=b:=h
/-! what comes behind an operation is left as it is till the operation is known -/
inductive Lck{α β:Type}(a:α)(b:β):Type|mk
def optL(o:Option Value)(w:World)(K:Value→World→Prop)(F:Prop)(_:Lck K F):Prop:=optK o w K F
def okL(o:Option Value)(k:Value→Prop)(_:Lck k k):Prop:=okV o k
def callL(P:Program)(f:Value)(args:Array Value)(w:World)(K:Value→World→Prop)(_:Lck K K):Prop:=zgl P f args w K
def FnL(P:Program)(f:FuncId)(args:Array Value)(w:World)(K:Value→World→Prop)(_:Lck K K):Prop:=Fn P f args w K
def extL(P:Program)(f:FuncId)(args:Array Value)(w:World)(K:Value→World→Prop)(_:Lck K K):Prop:=extC P f args w K
def callQ(P:Program)(f:FuncId)(args:Array Value)(w:World)(K:Value→World→Prop)(m:Lck K K):Bool→Prop
 |true=>FnL P f args w K m
 |false=>extL P f args w K m
theorem callQ_t(P:Program)(f:FuncId)(args:Array Value)(w:World)(K:Value→World→Prop)(m:Lck K K):callQ P f args w K m true=FnL P f args w K m:=nr rfl
theorem callQ_f(P:Program)(f:FuncId)(args:Array Value)(w:World)(K:Value→World→Prop)(m:Lck K K):callQ P f args w K m false=extL P f args w K m:=nr rfl
def stL(P:Program)(t:TypeId)(p v:Value)(w:World)(K:Value→World→Prop)(_:Lck K K):Prop:=stK P t p v w K
def bsL(P:Program)(t:TypeId)(n:Nat)(l:List (Nat×Value))(w:World)(K:Value→World→Prop)(_:Lck K K):Prop:=bsK P t n l w K
def opL(P:Program)(o:Oper)(ρ:Operand→Value)(w:World)(K:Value→World→Prop)(_:Lck K K):Prop:=opW P o ρ w K
def iteL(c:Bool)(a b:Prop)(_:Lck a b):Prop:=if c=true then a else b
theorem iteL_t(a b:Prop)(m:Lck a b):iteL true a b m=a:=nr (by simp[iteL])
theorem iteL_f(a b:Prop)(m:Lck a b):iteL false a b m=b:=nr (by simp[iteL])
section
variable {P : Program} {gd : Nat → Option Tmp} {n : Nat} {σ : Sto} {w : World}
def getL:List Value→Nat→Value
 | [],_=>undef
 |v::_,0=>v
 |_::l,i+1=>getL l i
theorem ziv(l:List Value)(i:Nat):sto0 l.toArray i=getL l i:=by
 unfold sto0
 induction l generalizing i with
 |nil=>simp[getL]
 |cons v l ih=>
  cases i with
  |zero=>simp[getL]
  |succ i=>simp only[getL,←ih i];simp
theorem opsV_nil{K:Sto→World→Prop}:opsV P gd n [] σ w K=K σ w:=nr rfl
theorem ziR{K:Sto→World→Prop}{d:Option Tmp}{op:Op}{ty:TypeId}{ps:String}{af:Array Edge}{l:List Oper}:
  opsV P gd n (⟨d,op,ty,ps,af,Option.none⟩::l) σ w K=opV P ⟨d,op,ty,ps,af,Option.none⟩ (ev n σ) w (fun v w'=>opsV P gd n l (putS σ d v) w' K):=nr rfl
theorem zhN{K:Sto→World→Prop}{d:Option Tmp}{op:Op}{ty:TypeId}{ps:String}{af:Array Edge}{j:Nat}{b:Bool}{l:List Oper}:
  opsV P gd n (⟨d,op,ty,ps,af,some (j,b)⟩::l) σ w K=
   iteL (zaJ gd n σ (some (j,b))) (opV P ⟨d,op,ty,ps,af,some (j,b)⟩ (ev n σ) w (fun v w'=>opsV P gd n l (putS σ d v) w' K))
   (opsV P gd n l (putS σ d undef) w K) .mk:=nr rfl
def zat(v:Value)(b:Bool):Bool:=match v with| .bool c=>c==b|_=>false
def wantO(o:Option Tmp)(n:Nat)(σ:Sto)(b:Bool):Bool:=match o with|some d=>zat (ev n σ (.tmp d)) b|Option.none=>false
theorem zag{j:Nat}{b:Bool}:zaJ gd n σ (some (j,b))=wantO (gd j) n σ b:=by
 unfold zaJ ylV wantO
 dsimp only
 cases gd j with
 |none=>rfl
 |some d=>
  dsimp only
  unfold ev zat
  by_cases h:d<n
  ·simp only[h,if_true];cases σ d<;>rfl
  ·simp[h,undef]
theorem zbE{b:Bool}(d:Tmp):wantO (some d) n σ b=zat (ev n σ (.tmp d)) b:=nr rfl
theorem bi1:zat (.bool true) true=true:=nr rfl
theorem bi2:zat (.bool false) true=false:=nr rfl
theorem bi3:zat (.bool true) false=false:=nr rfl
theorem bi4:zat (.bool false) false=true:=nr rfl
theorem bq1:(false==true)=false:=nr rfl
theorem bq2:(true==true)=true:=nr rfl
theorem bq3:(true==false)=false:=nr rfl
theorem bq4:(false==false)=true:=nr rfl
theorem m16:(false=true)=False:=by simp
theorem zep(c b:Bool):zat (.bool c) b=(c==b):=nr rfl
theorem zjy{ops:List Oper}{S:Nat→Prop}{isB:Nat→Bool}{K:Sto→World→Prop}:zbr P gd ops n S isB [] σ w K=K σ w:=nr rfl
theorem ev_tmp(t:Tmp):ev n σ (.tmp t)=if t<n then σ t else undef:=nr rfl
theorem ev_const(v:Value):ev n σ (.const v)=v:=nr rfl
theorem ev_func(f:FuncId):ev n σ (.func f)= .func (.func f) #[] #[]:=nr rfl
theorem upd_at(d:Nat)(v:Value)(i:Nat):upd σ d v i=if i=d then v else σ i:=nr rfl
theorem putS_at(d:Nat)(v:Value)(i:Nat):putS σ (some d) v i=if i=d then v else σ i:=nr rfl
theorem putS_no(v:Value)(i:Nat):putS σ Option.none v i=σ i:=nr rfl
theorem ziJ(d:Nat)(v:Value):putS σ (some d) v=upd σ d v:=nr rfl
theorem ziK(v:Value):putS σ Option.none v=σ:=nr rfl
variable {ρ : Operand → Value} {K : Value → World → Prop} {k : Value → Prop} {S : Nat → Prop} {d : Option Tmp} {ty : TypeId} {ps : String} {af : Array Edge} {g : Option (Nat × Bool)}
theorem ziQ(v:Value)(alt:Prop):optK (some v) w K alt=K v w:=nr rfl
theorem zfT(v:Value)(alt:Prop)(m:Lck K alt):optL (some v) w K alt m=K v w:=nr rfl
theorem okL_some(v:Value)(m:Lck k k):okL (some v) k m=k v:=nr rfl
theorem okV_some(v:Value):okV (some v) k=k v:=nr rfl
theorem v_move(x:Operand):opV P ⟨d,.move x,ty,ps,af,g⟩ ρ w K=optL (some (ρ x)) w K False .mk:=nr rfl
theorem v_assign(x:Operand):opV P ⟨d,.assign x,ty,ps,af,g⟩ ρ w K=optL (some (ρ x)) w K False .mk:=nr rfl
def pickV:Value→Value→Value→Option Value
 | .bool t,a,b=>some (bif t then a else b)
 |_,_,_=>Option.none
theorem v_pick(c a b:Operand):opV P ⟨d,.pick c a b,ty,ps,af,g⟩ ρ w K=optL (pickV (ρ c) (ρ a) (ρ b)) w K False .mk:=by
 unfold opV;dsimp only;cases ρ c<;>rfl
theorem v_bin(op:BinOp)(t:TypeId)(x y:Operand)(yt:TypeId):
  opV P ⟨d,.binOp op t x y yt,ty,ps,af,g⟩ ρ w K=optL (binV P op t (ρ x) (ρ y)) w K (opW P ⟨d,.binOp op t x y yt,ty,ps,af,g⟩ ρ w K) .mk:=nr rfl
theorem v_un(op:UnOp)(t:TypeId)(x:Operand):opV P ⟨d,.unOp op t x,ty,ps,af,g⟩ ρ w K=optL (unV op (ρ x)) w K (opW P ⟨d,.unOp op t x,ty,ps,af,g⟩ ρ w K) .mk:=nr rfl
def ldVal(P:Program)(w:World)(t:TypeId):Value→Option Value
 | .pointer p=>ldP P w t p
 |_=>Option.none
theorem v_load(t:TypeId)(x:Operand):opV P ⟨d,.load t x,ty,ps,af,g⟩ ρ w K=optL (ldVal P w t (ρ x)) w K False .mk:=by
 unfold opV;dsimp only;cases ρ x<;>rfl
theorem v_store(t:TypeId)(a x:Operand):opV P ⟨d,.store t a x,ty,ps,af,g⟩ ρ w K=stL P t (ρ a) (ρ x) w K .mk:=nr rfl
theorem v_ixA(t:TypeId)(x i:Operand):opV P ⟨d,.indexAddr t x i,ty,ps,af,g⟩ ρ w K=optL (ixA P t (ρ x) (ρ i)) w K (opW P ⟨d,.indexAddr t x i,ty,ps,af,g⟩ ρ w K) .mk:=nr rfl
theorem v_ix(t:TypeId)(x i:Operand):opV P ⟨d,.index t x i,ty,ps,af,g⟩ ρ w K=optL (ixS P t (ρ x) (ρ i)) w K (opW P ⟨d,.index t x i,ty,ps,af,g⟩ ρ w K) .mk:=nr rfl
theorem v_slice(t:TypeId)(x:Operand)(lo hi mx:Option Operand):
  opV P ⟨d,.slice t x lo hi mx,ty,ps,af,g⟩ ρ w K=optL (slV P t (ρ x) (lo.map ρ) (hi.map ρ) (mx.map ρ)) w K (opW P ⟨d,.slice t x lo hi mx,ty,ps,af,g⟩ ρ w K) .mk:=nr rfl
theorem v_ext(x:Operand)(i:Nat):opV P ⟨d,.extract x i,ty,ps,af,g⟩ ρ w K=optL (exV i (ρ x)) w K False .mk:=nr rfl
theorem v_conv(s t:TypeId)(x:Operand):opV P ⟨d,.convert s t x,ty,ps,af,g⟩ ρ w K=optL (cvV P s t (ρ x)) w K (opW P ⟨d,.convert s t x,ty,ps,af,g⟩ ρ w K) .mk:=nr rfl
theorem v_field(s:TypeId)(x:Operand)(f:Nat):opV P ⟨d,.fieldAddr s x f,ty,ps,af,g⟩ ρ w K=optL (fdA P s (ρ x) f) w K (opW P ⟨d,.fieldAddr s x f,ty,ps,af,g⟩ ρ w K) .mk:=nr rfl
def ncV:Value→Option Value
 | .pointer (some a)=>some (.pointer (some a))
 |_=>Option.none
theorem ncV_some{p:Option Addr}(h:p.isSome=true):ncV (.pointer p)=some (.pointer p):=by cases p<;>first|rfl|cases h
theorem ncV_pt(a:Addr):ncV (.pointer (some a))=some (.pointer (some a)):=nr rfl
theorem v_nc(x:Operand):opV P ⟨d,.nilCheck x,ty,ps,af,g⟩ ρ w K↔
  optL (ncV (ρ x)) w K (match ρ x with| .pointer Option.none=>False| .pointer (some _)=>False|_=>opW P ⟨d,.nilCheck x,ty,ps,af,g⟩ ρ w K) .mk:=by
 unfold opV optL optK ncV;dsimp only
 cases ρ x<;>first|exact Iff.rfl| (rename_i p;cases p<;>simp)
theorem v_func(fn:Go.Fn)(f c:Array Operand):opV P ⟨d,.makeFunc fn f c,ty,ps,af,g⟩ ρ w K=optL (some (.func fn (f.map ρ) (c.map ρ))) w K False .mk:=nr rfl
theorem v_box(e:TypeId)(x:Operand):opV P ⟨d,.box e x,ty,ps,af,g⟩ ρ w K=K (.pointer (some ⟨w.heap.size,0,Option.none⟩)) (w.alloc (.cells (ρ x).cells e)):=nr rfl
theorem v_alloc(e:TypeId):opV P ⟨d,.alloc e,ty,ps,af,g⟩ ρ w K=(match tyZ P e with|some z=>K (.pointer (some ⟨w.heap.size,0,Option.none⟩)) (w.alloc (.cells z.cells e))|Option.none=>False):=nr rfl
theorem v_map(t:TypeId):opV P ⟨d,.makeMap t Option.none,ty,ps,af,g⟩ ρ w K=K (.map (some w.heap.size)) (w.alloc (.map #[] 0)):=nr rfl
theorem v_build(t:TypeId)(parts:Array (Nat×Operand)):opV P ⟨d,.build t parts,ty,ps,af,g⟩ ρ w K=
  (zba P t=true∧optL (bdV P t (parts.toList.map fun p=>(p.1,ρ p.2))) w K False .mk):=nr rfl
theorem v_bs(t:TypeId)(m:Nat)(parts:Array (Nat×Operand)):opV P ⟨d,.buildSlice t m parts,ty,ps,af,g⟩ ρ w K=bsL P t m (parts.toList.map fun p=>(p.1,ρ p.2)) w K .mk:=nr rfl
theorem v_call(f:Operand)(args:Array Operand)(ts:Array TypeId):opV P ⟨d,.call ⟨.value f,args,ts⟩,ty,ps,af,g⟩ ρ w K=callL P (ρ f) (args.map ρ) w K .mk:=nr rfl
theorem v_len(x:Operand)(t:TypeId):opV P ⟨d,.call ⟨.builtin .len,#[x],#[t]⟩,ty,ps,af,g⟩ ρ w K=optL (lenV P t (ρ x)) w K (opW P ⟨d,.call ⟨.builtin .len,#[x],#[t]⟩,ty,ps,af,g⟩ ρ w K) .mk:=nr rfl
theorem v_append(a:Array Operand)(t:Array TypeId):opV P ⟨d,.call ⟨.builtin .append,a,t⟩,ty,ps,af,g⟩ ρ w K=opL P ⟨d,.call ⟨.builtin .append,a,t⟩,ty,ps,af,g⟩ ρ w K .mk:=nr rfl
theorem v_copy(a:Array Operand)(t:Array TypeId):opV P ⟨d,.call ⟨.builtin .copy,a,t⟩,ty,ps,af,g⟩ ρ w K=opL P ⟨d,.call ⟨.builtin .copy,a,t⟩,ty,ps,af,g⟩ ρ w K .mk:=nr rfl
theorem v_mkS(t:TypeId)(x y:Operand):opV P ⟨d,.makeSlice t x y,ty,ps,af,g⟩ ρ w K=opL P ⟨d,.makeSlice t x y,ty,ps,af,g⟩ ρ w K .mk:=nr rfl
theorem v_mapU(t:TypeId)(m x y:Operand):opV P ⟨d,.mapUpdate t m x y,ty,ps,af,g⟩ ρ w K=opL P ⟨d,.mapUpdate t m x y,ty,ps,af,g⟩ ρ w K .mk:=nr rfl
theorem v_look(t:TypeId)(x y:Operand)(b:Bool):opV P ⟨d,.lookup t x y b,ty,ps,af,g⟩ ρ w K=opL P ⟨d,.lookup t x y b,ty,ps,af,g⟩ ρ w K .mk:=nr rfl
theorem v_range(t:TypeId)(x:Operand):opV P ⟨d,.range t x,ty,ps,af,g⟩ ρ w K=opL P ⟨d,.range t x,ty,ps,af,g⟩ ρ w K .mk:=nr rfl
theorem v_next(x:Operand)(b:Bool):opV P ⟨d,.next x b,ty,ps,af,g⟩ ρ w K=opL P ⟨d,.next x b,ty,ps,af,g⟩ ρ w K .mk:=nr rfl
theorem zh7(f:FuncId)(first captured args:Array Value):callL P (.func (.func f) first captured) args w K .mk=callQ P f (first++args++captured) w K .mk (zah P f):=by
 unfold callL zgl
 dsimp only
 cases zah P f<;>rfl
end
section
variable {P : Program} {t e : TypeId} {k : IntKind} {a b : Int}
theorem b_add:binV P .add t (.int k a) (.int k b)=some (.int k (k.wrap (a+b))):=by simp[binV]
theorem b_sub:binV P .sub t (.int k a) (.int k b)=some (.int k (k.wrap (a - b))):=by simp[binV]
theorem b_mul:binV P .mul t (.int k a) (.int k b)=some (.int k (k.wrap (a*b))):=by simp[binV]
theorem b_lss:binV P .lss t (.int k a) (.int k b)=some (.bool (decide (a<b))):=by simp[binV]
theorem b_leq:binV P .leq t (.int k a) (.int k b)=some (.bool (decide (a≤b))):=by simp[binV]
theorem b_gtr:binV P .gtr t (.int k a) (.int k b)=some (.bool (decide (b<a))):=by simp[binV]
theorem b_geq:binV P .geq t (.int k a) (.int k b)=some (.bool (decide (b≤a))):=by simp[binV]
theorem b_eql:binV P .eql t (.int k a) (.int k b)=some (.bool (decide (a=b))):=by simp[binV]
theorem b_neq:binV P .neq t (.int k a) (.int k b)=some (.bool (!decide (a=b))):=by simp[binV]
theorem b_quo(h:¬b=0):binV P .quo t (.int k a) (.int k b)=some (.int k (k.wrap (a.tdiv b))):=by simp[binV,h]
theorem b_rem(h:¬b=0):binV P .rem t (.int k a) (.int k b)=some (.int k (a.tmod b)):=by simp[binV,h]
theorem b_shr1:binV P .shr t (.int .u64 a) (.int .u64 1)=some (.int .u64 (a.fdiv 2)):=by simp[binV,IntKind.bits]
theorem zcV{x:Int}(h1:0≤x)(h2:x≤18446744073709551615):IntKind.u64.wrap x=x:=by
 simp[IntKind.wrap,IntKind.bits,IntKind.signed];omega
theorem wrap_u32{x:Int}(h1:0≤x)(h2:x≤4294967295):IntKind.u32.wrap x=x:=by
 simp[IntKind.wrap,IntKind.bits,IntKind.signed];omega
theorem fdiv_two(n:Nat):((n:Int)).fdiv 2=((n / 2:Nat):Int):=by
 rw[Int.fdiv_eq_ediv_of_nonneg _ (by omega)];rfl
variable {s u : List UInt8}
theorem zd7:((⟨s.toArray⟩:ByteArray)=⟨u.toArray⟩)↔s=u:=by
 constructor
 ·intro h
  have:=congrArg (fun x:ByteArray=>x.data.toList) h
  simpa using this
 ·intro h;rw[h]
theorem b_seql:binV P .eql t (vs s) (vs u)=some (.bool (decide (s=u))):=by simp[binV,zd7]
theorem b_sneq:binV P .neq t (vs s) (vs u)=some (.bool (!decide (s=u))):=by simp[binV,zd7]
theorem b_slss:binV P .lss t (vs s) (vs u)=some (.bool (zdu s u)):=by simp[binV]
theorem b_sgtr:binV P .gtr t (vs s) (vs u)=some (.bool (!(zdu s u||decide (s=u)))):=by simp[binV,zd7]
theorem b_sadd(h:s.length+u.length≤9223372036854775807):binV P .add t (vs s) (vs u)=some (vs (s++u)):=by
 have h1:(⟨s.toArray⟩:ByteArray).size=s.length:=rfl
 have h2:(⟨u.toArray⟩:ByteArray).size=u.length:=rfl
 have h3:IntKind.i64.max=9223372036854775807:=by decide
 have h4:¬(((s.length+u.length:Nat):Int)>9223372036854775807):=by omega
 simp only[binV,h1,h2,h3,if_neg h4,Option.some.injEq,Value.string.injEq]
 apply ByteArray.ext
 simp
variable {p q : Bool} {x : Option Addr}
def binB(P:Program)(op:BinOp)(t:Option TypeDesc)(p q:Bool):Option Value:=
 match op,t with
 | .eql,some .bool=>some (.bool (p==q))
 | .neq,some .bool=>some (.bool (!(p==q)))
 |_,_=>Option.none
theorem b_bool(op:BinOp):binV P op t (.bool p) (.bool q)=binB P op (tyU P t) p q:=by
 simp only[binV,binB];cases op<;>try rfl
theorem b_beql:binB P .eql (some .bool) p q=some (.bool (p==q)):=nr rfl
theorem b_bneq:binB P .neq (some .bool) p q=some (.bool (!(p==q))):=nr rfl
def binP(op:BinOp)(t:Option TypeDesc)(x:Option Addr):Option Value:=
 match op,t with
 | .eql,some (.pointer _)=>some (.bool x.isNone)
 | .neq,some (.pointer _)=>some (.bool (!x.isNone))
 |_,_=>Option.none
theorem b_ptr(op:BinOp):binV P op t (.pointer x) (.pointer Option.none)=binP op (tyU P t) x:=by
 simp only[binV,binP];cases x<;>cases op<;>try rfl
theorem b_peql:binP .eql (some (.pointer e)) x=some (.bool x.isNone):=nr rfl
theorem b_pneq:binP .neq (some (.pointer e)) x=some (.bool (!x.isNone)):=nr rfl
theorem u_not:unV .not (.bool p)=some (.bool (!p)):=by simp[unV]
theorem u_neg:unV .neg (.int k a)=some (.int k (k.wrap (0 - a))):=by simp[unV]
variable {ad : Option Addr} {n c : Nat} {w : World}
def lenD(o:Option TypeDesc)(v:Value):Option Value:=
 match o,v with
 |some .string,.string s=>some (vi s.size)
 |some (.slice _),.slice _ n _=>some (vi n)
 |some (.array n _),_=>some (vi n)
 |_,_=>Option.none
theorem l_D(v:Value):lenV P t v=lenD (tyU P t) v:=by unfold lenV lenD;rfl
theorem l_slice:lenD (some (.slice e)) (.slice ad n c)=some (.int .i64 n):=nr rfl
theorem l_str:lenD (some .string) (vs s)=some (.int .i64 s.length):=nr rfl
def ixD(P:Program)(o:Option TypeDesc)(x i:Value):Option Value:=
 match o,x,i with
 |some (.slice e),.slice a n _,.int _ j=>if 0≤j∧j<n∧a.isSome=true then(bif (P.info? e).isSome then some (.pointer (adr a (j.toNat*tyS P e))) else Option.none) else Option.none
 |some (.array n e),.pointer a,.int _ j=>if 0≤j∧j<n∧a.isSome=true then(bif (P.info? e).isSome then some (.pointer (adr a (j.toNat*tyS P e))) else Option.none) else Option.none
 |_,_,_=>Option.none
theorem i_D(x i:Value):ixA P t x i=ixD P (tyU P t) x i:=by unfold ixA ixD;rfl
theorem zji{j:Int}(h0:0≤j)(h1:j<n)(h2:ad.isSome=true):
  ixD P (some (.slice e)) (.slice ad n c) (.int k j)=(bif (P.info? e).isSome then some (.pointer (adr ad (j.toNat*tyS P e))) else Option.none):=by simp[ixD,h0,h1,h2]
theorem i_slice1{x:Addr}{j:Int}(h0:0≤j)(h1:j<n):
  ixD P (some (.slice e)) (.slice (some x) n c) (.int k j)=(bif (P.info? e).isSome then some (.pointer (adr (some x) (j.toNat*tyS P e))) else Option.none):=zji h0 h1 rfl
theorem i_array1{x:Addr}{m:Nat}{j:Int}(h0:0≤j)(h1:j<m):
  ixD P (some (.array m e)) (.pointer (some x)) (.int k j)=(bif (P.info? e).isSome then some (.pointer (adr (some x) (j.toNat*tyS P e))) else Option.none):=by simp[ixD,h0,h1]
theorem i_array{m:Nat}{j:Int}(h0:0≤j)(h1:j<m)(h2:ad.isSome=true):
  ixD P (some (.array m e)) (.pointer ad) (.int k j)=(bif (P.info? e).isSome then some (.pointer (adr ad (j.toNat*tyS P e))) else Option.none):=by simp[ixD,h0,h1,h2]
def ixSD(o:Option TypeDesc)(x i:Value):Option Value:=
 match o,x,i with
 |some .string,.string s,.int _ j=>if 0≤j then(s.data.toList[j.toNat]?).map (fun c=> .int .u8 c.toNat) else Option.none
 |_,_,_=>Option.none
theorem i_SD(x i:Value):ixS P t x i=ixSD (tyU P t) x i:=by unfold ixS ixSD;rfl
theorem zhU{j:Int}(h0:0≤j)(h1:j.toNat<s.length):ixSD (some .string) (vs s) (.int k j)=some (.int .u8 (s[j.toNat]'h1).toNat):=by
 simp[ixSD,h0,h1]
def slD(P:Program)(o:Option TypeDesc)(x:Value)(lo hi mx:Option Value):Option Value:=
 match o,x,mx with
 |some .string,.string s,Option.none=>match slB lo,slH hi s.size with
  |some l,some h=>if l≤h∧h≤s.size then some (.string (s.extract l h)) else Option.none
  |_,_=>Option.none
 |some (.slice e),.slice a n c,_=>match slB lo,slH hi n,slH mx c with
  |some l,some h,some m=>if l≤h∧h≤m∧m≤c∧(mx.isSome=true→hi.isSome=true) then
    (bif (P.info? e).isSome then some (.slice (if m=l then a else adr a (l*tyS P e)) (h - l) (m - l)) else Option.none)
   else Option.none
  |_,_,_=>Option.none
 |_,_,_=>Option.none
theorem s_D(x:Value)(lo hi mx:Option Value):slV P t x lo hi mx=slD P (tyU P t) x lo hi mx:=by unfold slV slD;rfl
def bdN(o:Option Value)(d:Nat):Nat:=match o with|some (.int _ i)=>i.toNat|_=>d
def bdOk(o:Option Value):Prop:=match o with|some (.int _ i)=>0≤i|some _=>False|Option.none=>True
theorem slB_eq{o:Option Value}(h:bdOk o):slB o=some (bdN o 0):=by
 cases o with
 |none=>rfl
 |some v=>cases v<;>first|exact h.elim| (simp only[bdOk]at h;simp[slB,bdN,h])
theorem slH_eq{o:Option Value}{m:Nat}(h:bdOk o):slH o m=some (bdN o m):=by
 cases o with
 |none=>rfl
 |some v=>cases v<;>first|exact h.elim| (simp only[bdOk]at h;simp[slH,bdN,h])
theorem zbo{i:Int}{m:Nat}:bdN (some (.int k i)) m=i.toNat:=nr rfl
theorem zcE{m:Nat}:bdN Option.none m=m:=nr rfl
theorem ziA{lo hi:Option Value}(h1:bdOk lo)(h2:bdOk hi)(h3:bdN lo 0≤bdN hi s.length)(h4:bdN hi s.length≤s.length):
  slD P (some .string) (vs s) lo hi Option.none=some (vs ((s.drop (bdN lo 0)).take (bdN hi s.length - bdN lo 0))):=by
 have e3:(⟨s.toArray⟩:ByteArray).size=s.length:=rfl
 have e4:∀l m,(⟨s.toArray⟩:ByteArray).extract l m=⟨((s.drop l).take (m - l)).toArray⟩:=fun l m=>by
  apply ByteArray.ext
  rw[ByteArray.data_extract]
  simp[List.take_drop]
 simp[slD,slB_eq h1,e3,slH_eq h2,h3,h4,e4]
theorem s_str{l m:Int}{k':IntKind}(h1:0≤l)(h3:l≤m)(h4:m≤s.length):
  slD P (some .string) (vs s) (some (.int k l)) (some (.int k' m)) Option.none=some (vs ((s.drop l.toNat).take (m.toNat - l.toNat))):=
 ziA h1 (show 0≤m by omega) (by simp only[zbo];omega) (by simp only[zbo];omega)
theorem s_strl{l:Int}(h1:0≤l)(h4:l≤s.length):
  slD P (some .string) (vs s) (some (.int k l)) Option.none Option.none=some (vs (s.drop l.toNat)):=by
 rw[ziA (lo:=some (.int k l)) (hi:=Option.none) h1 trivial (by simp only[zbo,zcE];omega) (Nat.le_refl _)]
 simp only[zbo,zcE]
 rw[List.take_of_length_le (by simp)]
theorem s_strh{m:Int}{k':IntKind}(h1:0≤m)(h4:m≤s.length):
  slD P (some .string) (vs s) Option.none (some (.int k' m)) Option.none=some (vs (s.take m.toNat)):=by
 rw[ziA (lo:=Option.none) (hi:=some (.int k' m)) trivial h1 (by simp only[zbo,zcE];omega) (by simp only[zbo];omega)]
 simp[zbo,zcE]
theorem s_sl0{lo hi:Option Value}(h1:bdOk lo)(h2:bdOk hi)(h3:bdN lo 0≤bdN hi n)(h4:bdN hi n≤c):
  slD P (some (.slice e)) (.slice ad n c) lo hi Option.none=
   (bif (P.info? e).isSome then some (.slice (if c=bdN lo 0 then ad else adr ad (bdN lo 0*tyS P e)) (bdN hi n - bdN lo 0) (c - bdN lo 0)) else Option.none):=by
 have hm:slH Option.none c=some c:=rfl
 simp[slD,slB_eq h1,slH_eq h2,h3,h4,hm]
theorem s_sl{l m:Int}{k':IntKind}(h1:0≤l)(h3:l≤m)(h4:m≤c):
  slD P (some (.slice e)) (.slice ad n c) (some (.int k l)) (some (.int k' m)) Option.none=
   (bif (P.info? e).isSome then some (.slice (if c=l.toNat then ad else adr ad (l.toNat*tyS P e)) (m.toNat - l.toNat) (c - l.toNat)) else Option.none):=
 s_sl0 h1 (show 0≤m by omega) (by simp only[zbo];omega) (by simp only[zbo];omega)
theorem s_sll{l:Int}(h1:0≤l)(h3:l≤n)(h4:n≤c):
  slD P (some (.slice e)) (.slice ad n c) (some (.int k l)) Option.none Option.none=
   (bif (P.info? e).isSome then some (.slice (if c=l.toNat then ad else adr ad (l.toNat*tyS P e)) (n - l.toNat) (c - l.toNat)) else Option.none):=
 s_sl0 h1 trivial (by simp only[zbo,zcE];omega) h4
theorem s_slh{m:Int}{k':IntKind}(h1:0≤m)(h4:m≤c):
  slD P (some (.slice e)) (.slice ad n c) Option.none (some (.int k' m)) Option.none=
   (bif (P.info? e).isSome then some (.slice (if c=0 then ad else adr ad (0*tyS P e)) (m.toNat - 0) (c - 0)) else Option.none):=
 s_sl0 trivial h1 (by simp only[zcE];omega) (by simp only[zbo];omega)
theorem zi8(p:Option Addr):ldVal P w t (.pointer p)=ldP P w t p:=by rfl
theorem ex_tuple(l:List Value)(i:Nat):exV i (.tuple l.toArray)=l[i]?:=by simp[exV]
def cvD(o o':Option TypeDesc)(x:Value):Option Value:=
 match o,o',x with
 |some (.int _),some (.int k),.int _ n=>some (.int k (k.wrap n))
 |_,_,_=>Option.none
theorem c_D{t':TypeId}(x:Value):cvV P t t' x=cvD (tyU P t) (tyU P t') x:=by unfold cvV cvD;rfl
theorem c_int{k' k'':IntKind}:cvD (some (.int k')) (some (.int k'')) (.int k a)=some (.int k'' (k''.wrap a)):=nr rfl
theorem ldP_D(p:Option Addr):ldP P w t p=(bif tyA P t then ldP P w t p else bif (tyU P t).isSome then zad w p else Option.none):=by
 cases hA:tyA P t with
 |true=>rfl
 |false=>
  cases hs:(tyU P t).isSome with
  |true=>simp only[cond_false,cond_true];exact ldP_cell hA hs
  |false=>
   cases p with
   |none=>rfl
   |some x=>simp[ldP,ldV,hA,hs]
def ldA(P:Program)(w:World)(t:TypeId)(p:Option Addr):Option Value:=ldP P w t p
def ldX(P:Program)(w:World)(t:TypeId)(p:Option Addr):Bool→Bool→Option Value
 |true,_=>ldA P w t p
 |false,true=>zad w p
 |false,false=>Option.none
theorem ldP_X(p:Option Addr):ldP P w t p=ldX P w t p (tyA P t) (tyU P t).isSome:=by
 rw[ldP_D]
 cases tyA P t<;>cases (tyU P t).isSome<;>rfl
theorem ldX_one(p:Option Addr):ldX P w t p false true=zad w p:=nr rfl
theorem ldX_agg(p:Option Addr)(b:Bool):ldX P w t p true b=ldA P w t p:=nr rfl
theorem zcW{x:Int}(h1: -9223372036854775808≤x)(h2:x≤9223372036854775807):IntKind.i64.wrap x=x:=zby h1 h2
theorem wrap_u8{x:Int}(h1:0≤x)(h2:x≤255):IntKind.u8.wrap x=x:=zgx h1 h2
end
section
variable {P : Program} {r : Option Nat} {n : Nat} {Q : Post} {f : Sto → List Deferred → World → Prop} {σ : Sto} {ds : List Deferred} {w : World}
theorem zaE(h:f σ ds w):zc0 f Q .normal σ ds w:=h
theorem zbU{id:Nat}(h:Q (.exit id) σ ds w):zc0 f Q (.exit id) σ ds w:=h
theorem zcd(h:Q .ret σ ds w):zc0 f Q .ret σ ds w:=h
theorem zbn{id:Nat}(h:Q .normal σ ds w):zco id Q .normal σ ds w:=h
theorem zb1{id:Nat}(h:Q .ret σ ds w):zco id Q .ret σ ds w:=h
theorem zbt{id:Nat}(h:Q .normal σ ds w):zco id Q (.exit id) σ ds w:=by
 show(if id=id then Q .normal σ ds w else Q (.exit id) σ ds w);rw[if_pos rfl];exact h
theorem zbf{id id':Nat}(hne:Nat.beq id' id=false)(h:Q (.exit id') σ ds w):zco id Q (.exit id') σ ds w:=by
 show(if id'=id then Q .normal σ ds w else Q (.exit id') σ ds w);rw[if_neg (Nat.ne_of_beq_eq_false hne)];exact h
inductive Ctl:Prop→Prop→Prop
 |seq {P:Program} {r:Option Nat} {n:Nat} {x y:Code} {Q:Post} {σ:Sto} {ds:List Deferred} {w:World}:Ctl (W P r n (.seq x y) Q σ ds w) (W P r n x (zc0 (fun σ ds w=>W P r n y Q σ ds w) Q) σ ds w)
 |block {P:Program} {r:Option Nat} {n:Nat} {id:Nat} {c:Code} {Q:Post} {σ:Sto} {ds:List Deferred} {w:World}:Ctl (W P r n (.block id c) Q σ ds w) (W P r n c (zco id Q) σ ds w)
 |skip {P:Program} {r:Option Nat} {n:Nat} {Q:Post} {σ:Sto} {ds:List Deferred} {w:World}:Ctl (W P r n .skip Q σ ds w) (Q .normal σ ds w)
 |ret {P:Program} {r:Option Nat} {n:Nat} {Q:Post} {σ:Sto} {ds:List Deferred} {w:World}:Ctl (W P r n .ret Q σ ds w) (Q .ret σ ds w)
 |exit {P:Program} {r:Option Nat} {n:Nat} {id:Nat} {Q:Post} {σ:Sto} {ds:List Deferred} {w:World}:Ctl (W P r n (.exit id) Q σ ds w) (Q (.exit id) σ ds w)
 |tn {f:Sto→List Deferred→World→Prop} {Q:Post} {σ:Sto} {ds:List Deferred} {w:World}:Ctl (zc0 f Q .normal σ ds w) (f σ ds w)
 |te {f:Sto→List Deferred→World→Prop} {id:Nat} {Q:Post} {σ:Sto} {ds:List Deferred} {w:World}:Ctl (zc0 f Q (.exit id) σ ds w) (Q (.exit id) σ ds w)
 |tr {f:Sto→List Deferred→World→Prop} {Q:Post} {σ:Sto} {ds:List Deferred} {w:World}:Ctl (zc0 f Q .ret σ ds w) (Q .ret σ ds w)
 |bn {id:Nat} {Q:Post} {σ:Sto} {ds:List Deferred} {w:World}:Ctl (zco id Q .normal σ ds w) (Q .normal σ ds w)
 |br {id:Nat} {Q:Post} {σ:Sto} {ds:List Deferred} {w:World}:Ctl (zco id Q .ret σ ds w) (Q .ret σ ds w)
 |bs {id:Nat} {Q:Post} {σ:Sto} {ds:List Deferred} {w:World}:Ctl (zco id Q (.exit id) σ ds w) (Q .normal σ ds w)
 |bo {id id':Nat} {Q:Post} {σ:Sto} {ds:List Deferred} {w:World} (hne:Nat.beq id' id=false):Ctl (zco id Q (.exit id') σ ds w) (Q (.exit id') σ ds w)
theorem c_r{p q:Prop}(hq:q)(h:Ctl p q:=by (with_reducible constructor)<;>exact rfl):p:=by
 cases h with
 |seq=>exact W_seq hq
 |block=>exact W_block hq
 |skip=>exact zeS hq
 |ret=>exact zic hq
 |exit=>exact zeT hq
 |tn=>exact hq
 |te=>exact hq
 |tr=>exact hq
 |bn=>exact hq
 |br=>exact hq
 |bs=>exact zbt hq
 |bo hne=>exact zbf hne hq
theorem zfN{fn:Func}{R:Value→World→Prop}{e:Exit}(he:e= .normal∨e= .ret){l:List ResultVar}{rs:List Value}(hl:fn.results.toList=l)(hr:resV P fn.ntmps σ w l=some rs)
  (h:R (resT rs) w):retQ P fn R e σ [] w:=⟨he,trivial,rs,by rw[hl];exact hr,h⟩
theorem resV_tmp(t:Tmp):resV P n σ w [.tmp t]=some [ev n σ (.tmp t)]:=rfl
theorem resV_nil:resV P n σ w []=some []:=rfl
theorem ziG{fn:Func}{R:Value→World→Prop}{e:Exit}(he:e= .normal∨e= .ret){t:Tmp}{m:Nat}{v:Value}(hl:fn.results.toList=[.tmp t])(hm:fn.ntmps=m)(hv:ev m σ (.tmp t)=v)
  (h:R v w):retQ P fn R e σ [] w:=by
 refine zfN he hl (resV_tmp t) ?_
 rw[hm,hv];exact h
theorem zaA{fn:Func}{R:Value→World→Prop}{e:Exit}(he:e= .normal∨e= .ret)(hl:fn.results.toList=[])
  (h:R (.tuple #[]) w):retQ P fn R e σ [] w:=zfN he hl resV_nil h
end
section
variable {P : Program} {gd : Nat → Option Tmp} {n : Nat} {σ : Sto} {w : World} {ops : List Oper} {S : Nat → Prop} {isB : Nat → Bool} {K : Sto → World → Prop} {i : Nat} {pl : List (Nat × Bool)}
def drawQ(P:Program)(gd:Nat→Option Tmp)(ops:List Oper)(n:Nat)(S:Nat→Prop)(isB:Nat→Bool)(pl:List (Nat×Bool))(σ:Sto)(w:World)(K:Sto→World→Prop):Option Oper→Prop
 |some o=>if zaJ gd n σ o.guard=true then quV P S o (ev n σ) w (fun v=>zbr P gd ops n S isB pl (putS σ o.dst v) w K) else zbr P gd ops n S isB pl (putS σ o.dst undef) w K
 |Option.none=>False
def drawA(P:Program)(gd:Nat→Option Tmp)(ops:List Oper)(n:Nat)(S:Nat→Prop)(isB:Nat→Bool)(b:Bool)(pl:List (Nat×Bool))(σ:Sto)(w:World)(K:Sto→World→Prop):Option Oper→Prop
 |some o=>if zaJ gd n σ o.guard=true then opV P o (ev n σ) w (fun v w'=>(b=true∨Keep S w w')∧zbr P gd ops n S isB pl (putS σ o.dst v) w' K) else zbr P gd ops n S isB pl (putS σ o.dst undef) w K
 |Option.none=>False
theorem drawV_q:zbr P gd ops n S isB ((i,true)::pl) σ w K=drawQ P gd ops n S isB pl σ w K (nthO ops i):=by
 unfold drawQ;rw[zbr];cases nthO ops i<;>rfl
theorem drawV_a:zbr P gd ops n S isB ((i,false)::pl) σ w K=drawA P gd ops n S isB (isB i) pl σ w K (nthO ops i):=by
 unfold drawA;rw[zbr];cases nthO ops i<;>rfl
variable {d : Option Tmp} {op : Op} {ty : TypeId} {ps : String} {af : Array Edge}
theorem zh3:drawQ P gd ops n S isB pl σ w K (some ⟨d,op,ty,ps,af,Option.none⟩)=quV P S ⟨d,op,ty,ps,af,Option.none⟩ (ev n σ) w (fun v=>zbr P gd ops n S isB pl (putS σ d v) w K):=nr rfl
theorem zh4{b:Bool}:drawA P gd ops n S isB b pl σ w K (some ⟨d,op,ty,ps,af,Option.none⟩)=
 opV P ⟨d,op,ty,ps,af,Option.none⟩ (ev n σ) w (fun v w'=>(b=true∨Keep S w w')∧zbr P gd ops n S isB pl (putS σ d v) w' K):=nr rfl
theorem zgP{j:Nat}{c:Bool}:drawQ P gd ops n S isB pl σ w K (some ⟨d,op,ty,ps,af,some (j,c)⟩)=
 iteL (zaJ gd n σ (some (j,c))) (quV P S ⟨d,op,ty,ps,af,some (j,c)⟩ (ev n σ) w (fun v=>zbr P gd ops n S isB pl (putS σ d v) w K)) (zbr P gd ops n S isB pl (putS σ d undef) w K) .mk:=nr rfl
theorem zgQ{b:Bool}{j:Nat}{c:Bool}:drawA P gd ops n S isB b pl σ w K (some ⟨d,op,ty,ps,af,some (j,c)⟩)=
 iteL (zaJ gd n σ (some (j,c))) (opV P ⟨d,op,ty,ps,af,some (j,c)⟩ (ev n σ) w (fun v w'=>(b=true∨Keep S w w')∧zbr P gd ops n S isB pl (putS σ d v) w' K))
  (zbr P gd ops n S isB pl (putS σ d undef) w K) .mk:=nr rfl
theorem zi3{o:Oper}{l:List Oper}:nthO (o::l) 0=some o:=nr rfl
theorem zi4{o:Oper}{l:List Oper}{i:Nat}:nthO (o::l) (i+1)=nthO l i:=nr rfl
variable {ρ : Operand → Value} {k : Value → Prop} {g : Option (Nat × Bool)}
theorem q_move(x:Operand):quV P S ⟨d,.move x,ty,ps,af,g⟩ ρ w k=okL (some (ρ x)) k .mk:=nr rfl
theorem q_assign(x:Operand):quV P S ⟨d,.assign x,ty,ps,af,g⟩ ρ w k=okL (some (ρ x)) k .mk:=nr rfl
theorem q_pick(c a b:Operand):quV P S ⟨d,.pick c a b,ty,ps,af,g⟩ ρ w k=okL (pickV (ρ c) (ρ a) (ρ b)) k .mk:=by
 unfold quV;dsimp only;cases ρ c<;>rfl
theorem q_bin(op:BinOp)(t:TypeId)(x y:Operand)(yt:TypeId):quV P S ⟨d,.binOp op t x y yt,ty,ps,af,g⟩ ρ w k=okL (binV P op t (ρ x) (ρ y)) k .mk:=nr rfl
theorem q_un(op:UnOp)(t:TypeId)(x:Operand):quV P S ⟨d,.unOp op t x,ty,ps,af,g⟩ ρ w k=okL (unV op (ρ x)) k .mk:=nr rfl
def offV(S:Nat→Prop):Value→Prop| .pointer p=>offS S p|_=>False
theorem q_load(t:TypeId)(x:Operand):quV P S ⟨d,.load t x,ty,ps,af,g⟩ ρ w k=(offV S (ρ x)∧okL (ldVal P w t (ρ x)) k .mk):=by
 unfold quV offV ldVal okL;dsimp only;cases ρ x<;>simp[okV]
theorem offV_ptr(p:Option Addr):offV S (.pointer p)=offS S p:=nr rfl
theorem q_ixA(t:TypeId)(x i:Operand):quV P S ⟨d,.indexAddr t x i,ty,ps,af,g⟩ ρ w k=okL (ixA P t (ρ x) (ρ i)) k .mk:=nr rfl
theorem q_ix(t:TypeId)(x i:Operand):quV P S ⟨d,.index t x i,ty,ps,af,g⟩ ρ w k=okL (ixS P t (ρ x) (ρ i)) k .mk:=nr rfl
theorem q_slice(t:TypeId)(x:Operand)(lo hi mx:Option Operand):quV P S ⟨d,.slice t x lo hi mx,ty,ps,af,g⟩ ρ w k=okL (slV P t (ρ x) (lo.map ρ) (hi.map ρ) (mx.map ρ)) k .mk:=nr rfl
theorem q_ext(x:Operand)(i:Nat):quV P S ⟨d,.extract x i,ty,ps,af,g⟩ ρ w k=okL (exV i (ρ x)) k .mk:=nr rfl
theorem q_conv(s t:TypeId)(x:Operand):quV P S ⟨d,.convert s t x,ty,ps,af,g⟩ ρ w k=okL (cvV P s t (ρ x)) k .mk:=nr rfl
theorem q_field(s:TypeId)(x:Operand)(f:Nat):quV P S ⟨d,.fieldAddr s x f,ty,ps,af,g⟩ ρ w k=okL (fdA P s (ρ x) f) k .mk:=nr rfl
theorem q_nc(x:Operand):quV P S ⟨d,.nilCheck x,ty,ps,af,g⟩ ρ w k↔okL (ncV (ρ x)) k .mk:=by
 unfold quV okL okV ncV;dsimp only
 cases ρ x<;>first|exact Iff.rfl| (rename_i p;cases p<;>simp)
theorem q_func(fn:Go.Fn)(f c:Array Operand):quV P S ⟨d,.makeFunc fn f c,ty,ps,af,g⟩ ρ w k=okL (some (.func fn (f.map ρ) (c.map ρ))) k .mk:=nr rfl
theorem q_len(x:Operand)(t:TypeId):quV P S ⟨d,.call ⟨.builtin .len,#[x],#[t]⟩,ty,ps,af,g⟩ ρ w k=okL (lenV P t (ρ x)) k .mk:=nr rfl
theorem q_build(t:TypeId)(parts:Array (Nat×Operand)):quV P S ⟨d,.build t parts,ty,ps,af,g⟩ ρ w k=
  (zba P t=true∧okL (bdV P t (parts.toList.map fun p=>(p.1,ρ p.2))) k .mk):=nr rfl
theorem q_look(t:TypeId)(m key:Operand)(ok:Bool):quV P S ⟨d,.lookup t m key ok,ty,ps,af,g⟩ ρ w k=
  ((∀r,ρ m= .map (some r)→¬S r)∧okL (lkV P w t (ρ m) (ρ key) ok) k .mk):=nr rfl
end
theorem zjn(v:Value)(l:List Value):getL (v::l) 0=v:=nr rfl
theorem zjo(v:Value)(l:List Value)(i:Nat):getL (v::l) (i+1)=getL l i:=nr rfl
theorem zhM(t:Bool)(a b:Value):pickV (.bool t) a b=some (bif t then a else b):=nr rfl
theorem m1{α β:Type}(f:α→β)(a:α):(some a).map f=some (f a):=nr rfl
theorem m2{α β:Type}(f:α→β):(Option.none:Option α).map f=Option.none:=nr rfl
theorem m3{α:Type}(a:α):(some a).isSome=true:=nr rfl
theorem m4{α β:Type}(f:α→β)(l:List α):l.toArray.map f=(l.map f).toArray:=by simp
theorem m5{α β:Type}(f:α→β)(a:α)(l:List α):(a::l).map f=f a::l.map f:=nr rfl
theorem m6{α β:Type}(f:α→β):([]:List α).map f=[]:=nr rfl
theorem m7{α:Type}(l:List α):[]++l=l:=nr rfl
theorem m8{α:Type}(l:List α):l++ []=l:=by simp
theorem m9{α:Type}(l m:List α):l.toArray++m.toArray=(l++m).toArray:=by simp
theorem m10{α:Type}(a:α)(l m:List α):(a::l)++m=a::(l++m):=nr rfl
theorem m11{α:Type}(a b:α):(bif true then a else b)=a:=nr rfl
theorem m12{α:Type}(a b:α):(bif false then a else b)=b:=nr rfl
theorem m13{α:Type}(a:α)(l:List α):(a::l)[0]? =some a:=nr rfl
theorem m14{α:Type}(a:α)(l:List α)(i:Nat):(a::l)[i+1]? =l[i]?:=by simp
attribute [go_sem ↓] putS_at putS_no v_alloc v_nc ziR  opsV_nil zhN zjy v_move v_assign v_pick v_bin v_un v_load v_ixA v_ix v_slice v_ext v_conv v_field v_func v_call v_len v_store v_box v_bs v_build v_map v_append v_copy v_mkS v_mapU v_look v_range v_next ev_const ev_tmp ev_func upd_at drawV_q drawV_a zh3 zh4 zgP zgQ q_move q_assign q_pick q_bin q_un q_load q_ixA q_ix q_slice q_ext q_conv q_field q_nc q_func q_len q_build q_look
theorem m15(n:Nat):0+n=n:=by omega
attribute [go_sem] callQ_t callQ_f b_shr1 zcV wrap_u32 fdiv_two bq1 bq2 bq3 bq4 zfT okL_some iteL_t iteL_f ncV_pt ncV_some Option.isNone_some Option.isNone_none Option.isSome_some Bool.not_true Bool.not_false bi1 bi2 bi3 bi4 m16 i_slice1 i_array1 zaZ m15 ziQ  okV_some  ziJ  ziK  ziv  zjn  zjo  zhM  b_add  b_sub  b_mul  b_lss  b_leq  b_gtr  b_geq  b_eql  b_neq  b_seql  b_sneq  b_slss  b_sgtr  b_sadd  b_bool  b_beql  b_bneq  b_ptr  b_peql  b_pneq  u_not  u_neg  l_D  l_slice  l_str  i_D  zji  i_array  i_SD  zhU  s_D  s_str  s_strl  s_strh  s_sl  s_sll  s_slh  c_D  c_int  zi8  ldP_X  ldX_one  ldX_agg  ex_tuple  zcW  wrap_u8  zh7  zia  zdw  offV_ptr  offS_no  zi3 zi4 m1  m2  m3  m4  m5  m6  m7  m8  m9  m10  m11  m12  m13  m14  Int.toNat_natCast  Nat.mul_one  true_and and_true
attribute [go_sem] Nat.reduceLT Nat.reduceEqDiff Nat.reduceSub
attribute [go_sem ↓] reduceIte
/-! the short rules:their last arguments are found by simp -/
section
variable {α : Type} {a b : α}
theorem vq0(h:a=b:=by simp only[go_sem]):a=b:=h 
theorem vq1{P1:Prop}(p1:P1)(h:P1→a=b:=by intro h1;simp only[go_sem,h1]):a=b:=h p1
theorem vr0(h:a=b:=by first| (simp only[go_sem];done)| (simp only[go_sem];rfl)):a=b:=h 
theorem vr1{P1:Prop}(p1:P1)(h:P1→a=b:=by intro h1;first| (simp only[go_sem,h1];done)| (simp only[go_sem,h1];rfl)):a=b:=h p1
end
section
variable {P : Program} {r : Option Nat} {n : Nat} {Q : Post} {σ : Sto} {ds : List Deferred} {w : World}
theorem rg0{id:Nat}{ops:Array Oper}{σ1:Sto}{w1:World}(h:Q .normal σ1 ds w1)(hs:∀(gd:Nat→Option Tmp) (K:Sto→World→Prop),gd=dstL ops.toList→(opsV P gd n ops.toList σ w K=K σ1 w1):=by intro gd K hgd;(simp (disch:=first|omega|assumption|rfl) only[go_sem])<;>exact rfl)(hd:zaY ops=true:=by rfl):
  W P r n (.region id ops false) Q σ ds w:=zeA hd fun gd K hgd hK=>(hs gd K hgd).mpr (hK _ _ h)
theorem rg1{P1:Prop}{id:Nat}{ops:Array Oper}{σ1:Sto}{w1:World}(p1:P1)(h:Q .normal σ1 ds w1)(hs:P1→∀(gd:Nat→Option Tmp) (K:Sto→World→Prop),gd=dstL ops.toList→(opsV P gd n ops.toList σ w K=K σ1 w1):=by intro h1 gd K hgd;(simp (disch:=first|omega|assumption|rfl) only[go_sem,h1])<;>exact rfl)(hd:zaY ops=true:=by rfl):
  W P r n (.region id ops false) Q σ ds w:=zeA hd fun gd K hgd hK=>(hs p1 gd K hgd).mpr (hK _ _ h)
theorem rg2{P1:Prop}{P2:Prop}{id:Nat}{ops:Array Oper}{σ1:Sto}{w1:World}(p1:P1)(p2:P2)(h:Q .normal σ1 ds w1)(hs:P1→P2→∀(gd:Nat→Option Tmp) (K:Sto→World→Prop),gd=dstL ops.toList→(opsV P gd n ops.toList σ w K=K σ1 w1):=by intro h1 h2 gd K hgd;(simp (disch:=first|omega|assumption|rfl) only[go_sem,h1,h2])<;>exact rfl)(hd:zaY ops=true:=by rfl):
  W P r n (.region id ops false) Q σ ds w:=zeA hd fun gd K hgd hK=>(hs p1 p2 gd K hgd).mpr (hK _ _ h)
theorem rg4{P1:Prop}{P2:Prop}{P3:Prop}{P4:Prop}{id:Nat}{ops:Array Oper}{σ1:Sto}{w1:World}(p1:P1)(p2:P2)(p3:P3)(p4:P4)(h:Q .normal σ1 ds w1)(hs:P1→P2→P3→P4→∀(gd:Nat→Option Tmp) (K:Sto→World→Prop),gd=dstL ops.toList→(opsV P gd n ops.toList σ w K=K σ1 w1):=by intro h1 h2 h3 h4 gd K hgd;(simp (disch:=first|omega|assumption|rfl) only[go_sem,h1,h2,h3,h4])<;>exact rfl)(hd:zaY ops=true:=by rfl):
  W P r n (.region id ops false) Q σ ds w:=zeA hd fun gd K hgd hK=>(hs p1 p2 p3 p4 gd K hgd).mpr (hK _ _ h)
theorem rg5{P1:Prop}{P2:Prop}{P3:Prop}{P4:Prop}{P5:Prop}{id:Nat}{ops:Array Oper}{σ1:Sto}{w1:World}(p1:P1)(p2:P2)(p3:P3)(p4:P4)(p5:P5)(h:Q .normal σ1 ds w1)(hs:P1→P2→P3→P4→P5→∀(gd:Nat→Option Tmp) (K:Sto→World→Prop),gd=dstL ops.toList→(opsV P gd n ops.toList σ w K=K σ1 w1):=by intro h1 h2 h3 h4 h5 gd K hgd;(simp (disch:=first|omega|assumption|rfl) only[go_sem,h1,h2,h3,h4,h5])<;>exact rfl)(hd:zaY ops=true:=by rfl):
  W P r n (.region id ops false) Q σ ds w:=zeA hd fun gd K hgd hK=>(hs p1 p2 p3 p4 p5 gd K hgd).mpr (hK _ _ h)
theorem rg7{P1:Prop}{P2:Prop}{P3:Prop}{P4:Prop}{P5:Prop}{P6:Prop}{P7:Prop}{id:Nat}{ops:Array Oper}{σ1:Sto}{w1:World}(p1:P1)(p2:P2)(p3:P3)(p4:P4)(p5:P5)(p6:P6)(p7:P7)(h:Q .normal σ1 ds w1)(hs:P1→P2→P3→P4→P5→P6→P7→∀(gd:Nat→Option Tmp) (K:Sto→World→Prop),gd=dstL ops.toList→(opsV P gd n ops.toList σ w K=K σ1 w1):=by intro h1 h2 h3 h4 h5 h6 h7 gd K hgd;(simp (disch:=first|omega|assumption|rfl) only[go_sem,h1,h2,h3,h4,h5,h6,h7])<;>exact rfl)(hd:zaY ops=true:=by rfl):
  W P r n (.region id ops false) Q σ ds w:=zeA hd fun gd K hgd hK=>(hs p1 p2 p3 p4 p5 p6 p7 gd K hgd).mpr (hK _ _ h)
theorem rq{id:Nat}{ops:Array Oper}(h:∀(gd:Nat→Option Tmp) (K:Sto→World→Prop),gd=dstL ops.toList→(∀σ' w',Q .normal σ' ds w'→K σ' w')→opsV P gd n ops.toList σ w K)(hd:zaY ops=true:=by rfl):
  W P r n (.region id ops false) Q σ ds w:=zeA hd h
theorem wc0{c:Operand}{x y:Code}{t:Bool}(ht:t=true→W P r n x Q σ ds w)(hf:t=false→W P r n y Q σ ds w)(hc:ev n σ c= .bool t:=by simp only[go_sem];rfl):W P r n (.cond c x y) Q σ ds w:=zes (hc) ht hf
theorem rt0{fn:Func}{R:Value→World→Prop}{e:Exit}{t:Tmp}{m:Nat}{v:Value}(hm:fn.ntmps=m)(h:R v w)(hl:fn.results.toList=[.tmp t]:=by exact rfl)(hv:ev m σ (.tmp t)=v:=by simp only[go_sem];rfl)(he:e= .normal∨e= .ret:=by simp):retQ P fn R e σ [] w:=ziG he hl hm (hv) h
theorem rt1{P1:Prop}{fn:Func}{R:Value→World→Prop}{e:Exit}{t:Tmp}{m:Nat}{v:Value}(p1:P1)(hm:fn.ntmps=m)(h:R v w)(hl:fn.results.toList=[.tmp t]:=by exact rfl)(hv:P1→ev m σ (.tmp t)=v:=by intro h1;simp only[go_sem,h1];rfl)(he:e= .normal∨e= .ret:=by simp):retQ P fn R e σ [] w:=ziG he hl hm (hv p1) h
end
end Go.Proofs.YtihbdhjibplldaaGreatDoor
namespace Go.Proofs.YtihbdhjibplldaaGreatDoor
open Go
set_option maxRecDepth 100000
theorem tyUs:(tyU Tryz.prog 2=some (.int (IntKind.i64)))∧
 (tyU Tryz.prog 3=some (.int (IntKind.i64)))∧
 (tyU Tryz.prog 4=some (.bool))∧
 (tyU Tryz.prog 5=some (.int (IntKind.u8)))∧
 (tyU Tryz.prog 9=some (.string))∧
 (tyU Tryz.prog 21=some (.int (IntKind.i32)))∧
 (tyU Tryz.prog 22=some (.slice 36))∧
 (tyU Tryz.prog 23=some (.slice 9))∧
 (tyU Tryz.prog 24=some (.slice 9))∧
 (tyU Tryz.prog 29=some (.int (IntKind.u32)))∧
 (tyU Tryz.prog 30=some (.slice 24))∧
 (tyU Tryz.prog 31=some (.slice 29))∧
 (tyU Tryz.prog 32=some (.slice 5))∧
 (tyU Tryz.prog 38=some (.slice 23))∧
 (tyU Tryz.prog 44=some (.pointer 59))∧
 (tyU Tryz.prog 49=some (.slice 48))∧
 (tyU Tryz.prog 51=some (.slice 42))∧
 (tyU Tryz.prog 56=some (.slice 3))∧
 (tyU Tryz.prog 57=some (.int (IntKind.i64)))∧
 (tyU Tryz.prog 71=some (.int (IntKind.u64)))∧
 (tyU Tryz.prog 77=some (.pointer 85))∧
 (tyU Tryz.prog 95=some (.pointer 97))∧
 (tyU Tryz.prog 105=some (.slice 132))∧
 (tyU Tryz.prog 110=some (.slice 115))∧
 (tyU Tryz.prog 113=some (.slice 145))∧
 (tyU Tryz.prog 119=some (.pointer 5))∧
 (tyU Tryz.prog 126=some (.array 24 5))∧
 (tyU Tryz.prog 137=some (.pointer 139))∧
 (tyU Tryz.prog 157=some (.array 20 71))∧
 (tyU Tryz.prog 158=some (.array 65 5))∧
 (tyU Tryz.prog 159=some (.int (IntKind.u64)))∧
 (tyU Tryz.prog 204=some (.array 32 5))∧
 (tyU Tryz.prog 205=some (.array 64 5))∧
 (tyU Tryz.prog 214=some (.array 3 3))∧
 (tyU Tryz.prog 220=some (.array 256 4))∧
 (tyU Tryz.prog 224=some (.pointer 220))∧
 (tyU Tryz.prog 229=some (.slice 249))∧
 (tyU Tryz.prog 232=some (.pointer 234))∧
 (tyU Tryz.prog 287=some (.array 256 5))∧
 (tyU Tryz.prog 290=some (.array 16 289))∧
 (tyU Tryz.prog 299=some (.slice 309))∧
 (tyU Tryz.prog 303=some (.pointer 309))∧
 (tyU Tryz.prog 307=some (.array 3 21)):=by
 and_intros
 all_goals rfl
theorem tySs:(tyS Tryz.prog 2=1)∧
 (tyS Tryz.prog 3=1)∧
 (tyS Tryz.prog 4=1)∧
 (tyS Tryz.prog 5=1)∧
 (tyS Tryz.prog 9=1)∧
 (tyS Tryz.prog 21=1)∧
 (tyS Tryz.prog 22=1)∧
 (tyS Tryz.prog 23=1)∧
 (tyS Tryz.prog 24=1)∧
 (tyS Tryz.prog 29=1)∧
 (tyS Tryz.prog 30=1)∧
 (tyS Tryz.prog 31=1)∧
 (tyS Tryz.prog 32=1)∧
 (tyS Tryz.prog 34=5)∧
 (tyS Tryz.prog 36=7)∧
 (tyS Tryz.prog 38=1)∧
 (tyS Tryz.prog 40=5)∧
 (tyS Tryz.prog 42=7)∧
 (tyS Tryz.prog 44=1)∧
 (tyS Tryz.prog 48=2)∧
 (tyS Tryz.prog 49=1)∧
 (tyS Tryz.prog 51=1)∧
 (tyS Tryz.prog 56=1)∧
 (tyS Tryz.prog 57=1)∧
 (tyS Tryz.prog 59=3)∧
 (tyS Tryz.prog 71=1)∧
 (tyS Tryz.prog 77=1)∧
 (tyS Tryz.prog 79=2)∧
 (tyS Tryz.prog 81=2)∧
 (tyS Tryz.prog 83=9)∧
 (tyS Tryz.prog 85=13)∧
 (tyS Tryz.prog 92=1)∧
 (tyS Tryz.prog 95=1)∧
 (tyS Tryz.prog 97=2)∧
 (tyS Tryz.prog 100=1)∧
 (tyS Tryz.prog 105=1)∧
 (tyS Tryz.prog 110=1)∧
 (tyS Tryz.prog 113=1)∧
 (tyS Tryz.prog 115=3)∧
 (tyS Tryz.prog 119=1)∧
 (tyS Tryz.prog 126=24)∧
 (tyS Tryz.prog 132=2)∧
 (tyS Tryz.prog 137=1)∧
 (tyS Tryz.prog 139=7)∧
 (tyS Tryz.prog 145=2)∧
 (tyS Tryz.prog 151=1)∧
 (tyS Tryz.prog 157=20)∧
 (tyS Tryz.prog 158=65)∧
 (tyS Tryz.prog 159=1)∧
 (tyS Tryz.prog 187=3)∧
 (tyS Tryz.prog 204=32)∧
 (tyS Tryz.prog 205=64)∧
 (tyS Tryz.prog 208=1)∧
 (tyS Tryz.prog 214=3)∧
 (tyS Tryz.prog 220=256)∧
 (tyS Tryz.prog 224=1)∧
 (tyS Tryz.prog 229=1)∧
 (tyS Tryz.prog 232=1)∧
 (tyS Tryz.prog 234=3)∧
 (tyS Tryz.prog 249=2)∧
 (tyS Tryz.prog 251=4)∧
 (tyS Tryz.prog 266=1)∧
 (tyS Tryz.prog 273=1)∧
 (tyS Tryz.prog 287=256)∧
 (tyS Tryz.prog 289=2)∧
 (tyS Tryz.prog 290=32)∧
 (tyS Tryz.prog 293=3)∧
 (tyS Tryz.prog 299=1)∧
 (tyS Tryz.prog 302=1)∧
 (tyS Tryz.prog 303=1)∧
 (tyS Tryz.prog 307=3)∧
 (tyS Tryz.prog 309=5):=by
 and_intros
 all_goals rfl
theorem tyAs:(tyA Tryz.prog 2=false)∧
 (tyA Tryz.prog 3=false)∧
 (tyA Tryz.prog 4=false)∧
 (tyA Tryz.prog 5=false)∧
 (tyA Tryz.prog 9=false)∧
 (tyA Tryz.prog 21=false)∧
 (tyA Tryz.prog 22=false)∧
 (tyA Tryz.prog 23=false)∧
 (tyA Tryz.prog 24=false)∧
 (tyA Tryz.prog 29=false)∧
 (tyA Tryz.prog 30=false)∧
 (tyA Tryz.prog 31=false)∧
 (tyA Tryz.prog 32=false)∧
 (tyA Tryz.prog 34=true)∧
 (tyA Tryz.prog 36=true)∧
 (tyA Tryz.prog 38=false)∧
 (tyA Tryz.prog 40=true)∧
 (tyA Tryz.prog 42=true)∧
 (tyA Tryz.prog 44=false)∧
 (tyA Tryz.prog 48=true)∧
 (tyA Tryz.prog 49=false)∧
 (tyA Tryz.prog 51=false)∧
 (tyA Tryz.prog 56=false)∧
 (tyA Tryz.prog 57=false)∧
 (tyA Tryz.prog 59=true)∧
 (tyA Tryz.prog 71=false)∧
 (tyA Tryz.prog 77=false)∧
 (tyA Tryz.prog 79=true)∧
 (tyA Tryz.prog 81=true)∧
 (tyA Tryz.prog 83=true)∧
 (tyA Tryz.prog 85=true)∧
 (tyA Tryz.prog 92=false)∧
 (tyA Tryz.prog 95=false)∧
 (tyA Tryz.prog 97=true)∧
 (tyA Tryz.prog 100=false)∧
 (tyA Tryz.prog 105=false)∧
 (tyA Tryz.prog 110=false)∧
 (tyA Tryz.prog 113=false)∧
 (tyA Tryz.prog 115=true)∧
 (tyA Tryz.prog 119=false)∧
 (tyA Tryz.prog 126=true)∧
 (tyA Tryz.prog 132=true)∧
 (tyA Tryz.prog 137=false)∧
 (tyA Tryz.prog 139=true)∧
 (tyA Tryz.prog 145=true)∧
 (tyA Tryz.prog 151=false)∧
 (tyA Tryz.prog 157=true)∧
 (tyA Tryz.prog 158=true)∧
 (tyA Tryz.prog 159=false)∧
 (tyA Tryz.prog 187=true)∧
 (tyA Tryz.prog 204=true)∧
 (tyA Tryz.prog 205=true)∧
 (tyA Tryz.prog 208=false)∧
 (tyA Tryz.prog 214=true)∧
 (tyA Tryz.prog 220=true)∧
 (tyA Tryz.prog 224=false)∧
 (tyA Tryz.prog 229=false)∧
 (tyA Tryz.prog 232=false)∧
 (tyA Tryz.prog 234=true)∧
 (tyA Tryz.prog 249=true)∧
 (tyA Tryz.prog 251=true)∧
 (tyA Tryz.prog 266=false)∧
 (tyA Tryz.prog 273=false)∧
 (tyA Tryz.prog 287=true)∧
 (tyA Tryz.prog 289=true)∧
 (tyA Tryz.prog 290=true)∧
 (tyA Tryz.prog 293=true)∧
 (tyA Tryz.prog 299=false)∧
 (tyA Tryz.prog 302=true)∧
 (tyA Tryz.prog 303=false)∧
 (tyA Tryz.prog 307=true)∧
 (tyA Tryz.prog 309=true):=by
 and_intros
 all_goals rfl
theorem tyNs:((tyU Tryz.prog 34).isSome=true)∧
 ((tyU Tryz.prog 36).isSome=true)∧
 ((tyU Tryz.prog 40).isSome=true)∧
 ((tyU Tryz.prog 42).isSome=true)∧
 ((tyU Tryz.prog 48).isSome=true)∧
 ((tyU Tryz.prog 59).isSome=true)∧
 ((tyU Tryz.prog 79).isSome=true)∧
 ((tyU Tryz.prog 81).isSome=true)∧
 ((tyU Tryz.prog 83).isSome=true)∧
 ((tyU Tryz.prog 85).isSome=true)∧
 ((tyU Tryz.prog 92).isSome=true)∧
 ((tyU Tryz.prog 97).isSome=true)∧
 ((tyU Tryz.prog 100).isSome=true)∧
 ((tyU Tryz.prog 115).isSome=true)∧
 ((tyU Tryz.prog 132).isSome=true)∧
 ((tyU Tryz.prog 139).isSome=true)∧
 ((tyU Tryz.prog 145).isSome=true)∧
 ((tyU Tryz.prog 151).isSome=true)∧
 ((tyU Tryz.prog 187).isSome=true)∧
 ((tyU Tryz.prog 208).isSome=true)∧
 ((tyU Tryz.prog 234).isSome=true)∧
 ((tyU Tryz.prog 249).isSome=true)∧
 ((tyU Tryz.prog 251).isSome=true)∧
 ((tyU Tryz.prog 266).isSome=true)∧
 ((tyU Tryz.prog 273).isSome=true)∧
 ((tyU Tryz.prog 289).isSome=true)∧
 ((tyU Tryz.prog 293).isSome=true)∧
 ((tyU Tryz.prog 302).isSome=true)∧
 ((tyU Tryz.prog 309).isSome=true):=by
 refine⟨?_,?_,?_,?_,?_,?_,?_,?_,?_,?_,?_,?_,?_,?_,?_,?_,?_,?_,?_,?_,?_,?_,?_,?_,?_,?_,?_,?_,?_⟩
 all_goals rfl
theorem tyZs:(tyZ Tryz.prog 2=some (.int .i64 0))∧
 (tyZ Tryz.prog 3=some (.int .i64 0))∧
 (tyZ Tryz.prog 4=some (.bool false))∧
 (tyZ Tryz.prog 5=some (.int .u8 0))∧
 (tyZ Tryz.prog 9=some (vs []))∧
 (tyZ Tryz.prog 21=some (.int .i32 0))∧
 (tyZ Tryz.prog 22=some (.slice Option.none 0 0))∧
 (tyZ Tryz.prog 23=some (.slice Option.none 0 0))∧
 (tyZ Tryz.prog 24=some (.slice Option.none 0 0))∧
 (tyZ Tryz.prog 29=some (.int .u32 0))∧
 (tyZ Tryz.prog 30=some (.slice Option.none 0 0))∧
 (tyZ Tryz.prog 31=some (.slice Option.none 0 0))∧
 (tyZ Tryz.prog 32=some (.slice Option.none 0 0))∧
 (tyZ Tryz.prog 34=some (.agg #[.int .i64 0,.slice Option.none 0 0,.slice Option.none 0 0,.slice Option.none 0 0,.slice Option.none 0 0]))∧
 (tyZ Tryz.prog 36=some (.agg #[.slice Option.none 0 0,.int .u32 0,.int .i64 0,.slice Option.none 0 0,.slice Option.none 0 0,.slice Option.none 0 0,.slice Option.none 0 0]))∧
 (tyZ Tryz.prog 38=some (.slice Option.none 0 0))∧
 (tyZ Tryz.prog 40=some (.agg #[.int .i64 0,.slice Option.none 0 0,.slice Option.none 0 0,.slice Option.none 0 0,.slice Option.none 0 0]))∧
 (tyZ Tryz.prog 42=some (.agg #[.slice Option.none 0 0,.int .u32 0,.int .i64 0,.slice Option.none 0 0,.slice Option.none 0 0,.slice Option.none 0 0,.slice Option.none 0 0]))∧
 (tyZ Tryz.prog 44=some (.pointer Option.none))∧
 (tyZ Tryz.prog 48=some (.agg #[vs [],vs []]))∧
 (tyZ Tryz.prog 49=some (.slice Option.none 0 0))∧
 (tyZ Tryz.prog 51=some (.slice Option.none 0 0))∧
 (tyZ Tryz.prog 56=some (.slice Option.none 0 0))∧
 (tyZ Tryz.prog 57=some (.int .i64 0))∧
 (tyZ Tryz.prog 59=some (.agg #[vs [],.int .i64 0,.int .i64 0]))∧
 (tyZ Tryz.prog 71=some (.int .u64 0))∧
 (tyZ Tryz.prog 77=some (.pointer Option.none))∧
 (tyZ Tryz.prog 79=some (.agg #[.slice Option.none 0 0,.bool false]))∧
 (tyZ Tryz.prog 81=some (.agg #[.int .u32 0,.bool false]))∧
 (tyZ Tryz.prog 83=some (.agg #[vs [],.int .i64 0,.slice Option.none 0 0,.slice Option.none 0 0,.bool false,.int .u32 0,.bool false,.int .u32 0,.bool false]))∧
 (tyZ Tryz.prog 85=some (.agg #[.slice Option.none 0 0,.slice Option.none 0 0,.slice Option.none 0 0,.int .i64 0,vs [],.int .i64 0,.slice Option.none 0 0,.slice Option.none 0 0,.bool false,.int .u32 0,.bool false,.int .u32 0,.bool false]))∧
 (tyZ Tryz.prog 92=some (.nilFunc))∧
 (tyZ Tryz.prog 95=some (.pointer Option.none))∧
 (tyZ Tryz.prog 97=some (.agg #[.pointer Option.none,.slice Option.none 0 0]))∧
 (tyZ Tryz.prog 100=some (.nilIface))∧
 (tyZ Tryz.prog 105=some (.slice Option.none 0 0))∧
 (tyZ Tryz.prog 110=some (.slice Option.none 0 0))∧
 (tyZ Tryz.prog 113=some (.slice Option.none 0 0))∧
 (tyZ Tryz.prog 115=some (.agg #[.int .i64 0,.bool false,.slice Option.none 0 0]))∧
 (tyZ Tryz.prog 119=some (.pointer Option.none))∧
 (tyZ Tryz.prog 126=some (.agg #[.int .u8 0,.int .u8 0,.int .u8 0,.int .u8 0,.int .u8 0,.int .u8 0,.int .u8 0,.int .u8 0,.int .u8 0,.int .u8 0,.int .u8 0,.int .u8 0,.int .u8 0,.int .u8 0,.int .u8 0,.int .u8 0,.int .u8 0,.int .u8 0,.int .u8 0,.int .u8 0,.int .u8 0,.int .u8 0,.int .u8 0,.int .u8 0]))∧
 (tyZ Tryz.prog 132=some (.agg #[.int .i64 0,vs []]))∧
 (tyZ Tryz.prog 137=some (.pointer Option.none))∧
 (tyZ Tryz.prog 139=some (.agg #[.slice Option.none 0 0,.int .i64 0,.bool false,.slice Option.none 0 0,.int .i64 0,.bool false,.slice Option.none 0 0]))∧
 (tyZ Tryz.prog 145=some (.agg #[vs [],.bool false]))∧
 (tyZ Tryz.prog 151=some (.pointer Option.none))∧
 (tyZ Tryz.prog 157=some (.agg #[.int .u64 0,.int .u64 0,.int .u64 0,.int .u64 0,.int .u64 0,.int .u64 0,.int .u64 0,.int .u64 0,.int .u64 0,.int .u64 0,.int .u64 0,.int .u64 0,.int .u64 0,.int .u64 0,.int .u64 0,.int .u64 0,.int .u64 0,.int .u64 0,.int .u64 0,.int .u64 0]))∧
 (tyZ Tryz.prog 158=some (.agg #[.int .u8 0,.int .u8 0,.int .u8 0,.int .u8 0,.int .u8 0,.int .u8 0,.int .u8 0,.int .u8 0,.int .u8 0,.int .u8 0,.int .u8 0,.int .u8 0,.int .u8 0,.int .u8 0,.int .u8 0,.int .u8 0,.int .u8 0,.int .u8 0,.int .u8 0,.int .u8 0,.int .u8 0,.int .u8 0,.int .u8 0,.int .u8 0,.int .u8 0,.int .u8 0,.int .u8 0,.int .u8 0,.int .u8 0,.int .u8 0,.int .u8 0,.int .u8 0,.int .u8 0,.int .u8 0,.int .u8 0,.int .u8 0,.int .u8 0,.int .u8 0,.int .u8 0,.int .u8 0,.int .u8 0,.int .u8 0,.int .u8 0,.int .u8 0,.int .u8 0,.int .u8 0,.int .u8 0,.int .u8 0,.int .u8 0,.int .u8 0,.int .u8 0,.int .u8 0,.int .u8 0,.int .u8 0,.int .u8 0,.int .u8 0,.int .u8 0,.int .u8 0,.int .u8 0,.int .u8 0,.int .u8 0,.int .u8 0,.int .u8 0,.int .u8 0,.int .u8 0]))∧
 (tyZ Tryz.prog 159=some (.int .u64 0))∧
 (tyZ Tryz.prog 187=some (.agg #[.int .i64 0,.int .i64 0,.int .i64 0]))∧
 (tyZ Tryz.prog 204=some (.agg #[.int .u8 0,.int .u8 0,.int .u8 0,.int .u8 0,.int .u8 0,.int .u8 0,.int .u8 0,.int .u8 0,.int .u8 0,.int .u8 0,.int .u8 0,.int .u8 0,.int .u8 0,.int .u8 0,.int .u8 0,.int .u8 0,.int .u8 0,.int .u8 0,.int .u8 0,.int .u8 0,.int .u8 0,.int .u8 0,.int .u8 0,.int .u8 0,.int .u8 0,.int .u8 0,.int .u8 0,.int .u8 0,.int .u8 0,.int .u8 0,.int .u8 0,.int .u8 0]))∧
 (tyZ Tryz.prog 205=some (.agg #[.int .u8 0,.int .u8 0,.int .u8 0,.int .u8 0,.int .u8 0,.int .u8 0,.int .u8 0,.int .u8 0,.int .u8 0,.int .u8 0,.int .u8 0,.int .u8 0,.int .u8 0,.int .u8 0,.int .u8 0,.int .u8 0,.int .u8 0,.int .u8 0,.int .u8 0,.int .u8 0,.int .u8 0,.int .u8 0,.int .u8 0,.int .u8 0,.int .u8 0,.int .u8 0,.int .u8 0,.int .u8 0,.int .u8 0,.int .u8 0,.int .u8 0,.int .u8 0,.int .u8 0,.int .u8 0,.int .u8 0,.int .u8 0,.int .u8 0,.int .u8 0,.int .u8 0,.int .u8 0,.int .u8 0,.int .u8 0,.int .u8 0,.int .u8 0,.int .u8 0,.int .u8 0,.int .u8 0,.int .u8 0,.int .u8 0,.int .u8 0,.int .u8 0,.int .u8 0,.int .u8 0,.int .u8 0,.int .u8 0,.int .u8 0,.int .u8 0,.int .u8 0,.int .u8 0,.int .u8 0,.int .u8 0,.int .u8 0,.int .u8 0,.int .u8 0]))∧
 (tyZ Tryz.prog 208=some (.nilFunc))∧
 (tyZ Tryz.prog 214=some (.agg #[.int .i64 0,.int .i64 0,.int .i64 0]))∧
 (tyZ Tryz.prog 220=some (.agg #[.bool false,.bool false,.bool false,.bool false,.bool false,.bool false,.bool false,.bool false,.bool false,.bool false,.bool false,.bool false,.bool false,.bool false,.bool false,.bool false,.bool false,.bool false,.bool false,.bool false,.bool false,.bool false,.bool false,.bool false,.bool false,.bool false,.bool false,.bool false,.bool false,.bool false,.bool false,.bool false,.bool false,.bool false,.bool false,.bool false,.bool false,.bool false,.bool false,.bool false,.bool false,.bool false,.bool false,.bool false,.bool false,.bool false,.bool false,.bool false,.bool false,.bool false,.bool false,.bool false,.bool false,.bool false,.bool false,.bool false,.bool false,.bool false,.bool false,.bool false,.bool false,.bool false,.bool false,.bool false,.bool false,.bool false,.bool false,.bool false,.bool false,.bool false,.bool false,.bool false,.bool false,.bool false,.bool false,.bool false,.bool false,.bool false,.bool false,.bool false,.bool false,.bool false,.bool false,.bool false,.bool false,.bool false,.bool false,.bool false,.bool false,.bool false,.bool false,.bool false,.bool false,.bool false,.bool false,.bool false,.bool false,.bool false,.bool false,.bool false,.bool false,.bool false,.bool false,.bool false,.bool false,.bool false,.bool false,.bool false,.bool false,.bool false,.bool false,.bool false,.bool false,.bool false,.bool false,.bool false,.bool false,.bool false,.bool false,.bool false,.bool false,.bool false,.bool false,.bool false,.bool false,.bool false,.bool false,.bool false,.bool false,.bool false,.bool false,.bool false,.bool false,.bool false,.bool false,.bool false,.bool false,.bool false,.bool false,.bool false,.bool false,.bool false,.bool false,.bool false,.bool false,.bool false,.bool false,.bool false,.bool false,.bool false,.bool false,.bool false,.bool false,.bool false,.bool false,.bool false,.bool false,.bool false,.bool false,.bool false,.bool false,.bool false,.bool false,.bool false,.bool false,.bool false,.bool false,.bool false,.bool false,.bool false,.bool false,.bool false,.bool false,.bool false,.bool false,.bool false,.bool false,.bool false,.bool false,.bool false,.bool false,.bool false,.bool false,.bool false,.bool false,.bool false,.bool false,.bool false,.bool false,.bool false,.bool false,.bool false,.bool false,.bool false,.bool false,.bool false,.bool false,.bool false,.bool false,.bool false,.bool false,.bool false,.bool false,.bool false,.bool false,.bool false,.bool false,.bool false,.bool false,.bool false,.bool false,.bool false,.bool false,.bool false,.bool false,.bool false,.bool false,.bool false,.bool false,.bool false,.bool false,.bool false,.bool false,.bool false,.bool false,.bool false,.bool false,.bool false,.bool false,.bool false,.bool false,.bool false,.bool false,.bool false,.bool false,.bool false,.bool false,.bool false,.bool false,.bool false,.bool false,.bool false,.bool false,.bool false,.bool false,.bool false,.bool false,.bool false,.bool false,.bool false,.bool false,.bool false,.bool false,.bool false,.bool false,.bool false]))∧
 (tyZ Tryz.prog 224=some (.pointer Option.none))∧
 (tyZ Tryz.prog 229=some (.slice Option.none 0 0))∧
 (tyZ Tryz.prog 232=some (.pointer Option.none))∧
 (tyZ Tryz.prog 234=some (.agg #[.slice Option.none 0 0,.slice Option.none 0 0,.int .i64 0]))∧
 (tyZ Tryz.prog 249=some (.agg #[vs [],.int .i64 0]))∧
 (tyZ Tryz.prog 251=some (.agg #[.int .i64 0,.int .i64 0,.int .i64 0,.int .i64 0]))∧
 (tyZ Tryz.prog 266=some (.nilFunc))∧
 (tyZ Tryz.prog 273=some (.nilFunc))∧
 (tyZ Tryz.prog 287=some (.agg #[.int .u8 0,.int .u8 0,.int .u8 0,.int .u8 0,.int .u8 0,.int .u8 0,.int .u8 0,.int .u8 0,.int .u8 0,.int .u8 0,.int .u8 0,.int .u8 0,.int .u8 0,.int .u8 0,.int .u8 0,.int .u8 0,.int .u8 0,.int .u8 0,.int .u8 0,.int .u8 0,.int .u8 0,.int .u8 0,.int .u8 0,.int .u8 0,.int .u8 0,.int .u8 0,.int .u8 0,.int .u8 0,.int .u8 0,.int .u8 0,.int .u8 0,.int .u8 0,.int .u8 0,.int .u8 0,.int .u8 0,.int .u8 0,.int .u8 0,.int .u8 0,.int .u8 0,.int .u8 0,.int .u8 0,.int .u8 0,.int .u8 0,.int .u8 0,.int .u8 0,.int .u8 0,.int .u8 0,.int .u8 0,.int .u8 0,.int .u8 0,.int .u8 0,.int .u8 0,.int .u8 0,.int .u8 0,.int .u8 0,.int .u8 0,.int .u8 0,.int .u8 0,.int .u8 0,.int .u8 0,.int .u8 0,.int .u8 0,.int .u8 0,.int .u8 0,.int .u8 0,.int .u8 0,.int .u8 0,.int .u8 0,.int .u8 0,.int .u8 0,.int .u8 0,.int .u8 0,.int .u8 0,.int .u8 0,.int .u8 0,.int .u8 0,.int .u8 0,.int .u8 0,.int .u8 0,.int .u8 0,.int .u8 0,.int .u8 0,.int .u8 0,.int .u8 0,.int .u8 0,.int .u8 0,.int .u8 0,.int .u8 0,.int .u8 0,.int .u8 0,.int .u8 0,.int .u8 0,.int .u8 0,.int .u8 0,.int .u8 0,.int .u8 0,.int .u8 0,.int .u8 0,.int .u8 0,.int .u8 0,.int .u8 0,.int .u8 0,.int .u8 0,.int .u8 0,.int .u8 0,.int .u8 0,.int .u8 0,.int .u8 0,.int .u8 0,.int .u8 0,.int .u8 0,.int .u8 0,.int .u8 0,.int .u8 0,.int .u8 0,.int .u8 0,.int .u8 0,.int .u8 0,.int .u8 0,.int .u8 0,.int .u8 0,.int .u8 0,.int .u8 0,.int .u8 0,.int .u8 0,.int .u8 0,.int .u8 0,.int .u8 0,.int .u8 0,.int .u8 0,.int .u8 0,.int .u8 0,.int .u8 0,.int .u8 0,.int .u8 0,.int .u8 0,.int .u8 0,.int .u8 0,.int .u8 0,.int .u8 0,.int .u8 0,.int .u8 0,.int .u8 0,.int .u8 0,.int .u8 0,.int .u8 0,.int .u8 0,.int .u8 0,.int .u8 0,.int .u8 0,.int .u8 0,.int .u8 0,.int .u8 0,.int .u8 0,.int .u8 0,.int .u8 0,.int .u8 0,.int .u8 0,.int .u8 0,.int .u8 0,.int .u8 0,.int .u8 0,.int .u8 0,.int .u8 0,.int .u8 0,.int .u8 0,.int .u8 0,.int .u8 0,.int .u8 0,.int .u8 0,.int .u8 0,.int .u8 0,.int .u8 0,.int .u8 0,.int .u8 0,.int .u8 0,.int .u8 0,.int .u8 0,.int .u8 0,.int .u8 0,.int .u8 0,.int .u8 0,.int .u8 0,.int .u8 0,.int .u8 0,.int .u8 0,.int .u8 0,.int .u8 0,.int .u8 0,.int .u8 0,.int .u8 0,.int .u8 0,.int .u8 0,.int .u8 0,.int .u8 0,.int .u8 0,.int .u8 0,.int .u8 0,.int .u8 0,.int .u8 0,.int .u8 0,.int .u8 0,.int .u8 0,.int .u8 0,.int .u8 0,.int .u8 0,.int .u8 0,.int .u8 0,.int .u8 0,.int .u8 0,.int .u8 0,.int .u8 0,.int .u8 0,.int .u8 0,.int .u8 0,.int .u8 0,.int .u8 0,.int .u8 0,.int .u8 0,.int .u8 0,.int .u8 0,.int .u8 0,.int .u8 0,.int .u8 0,.int .u8 0,.int .u8 0,.int .u8 0,.int .u8 0,.int .u8 0,.int .u8 0,.int .u8 0,.int .u8 0,.int .u8 0,.int .u8 0,.int .u8 0,.int .u8 0,.int .u8 0,.int .u8 0,.int .u8 0,.int .u8 0,.int .u8 0,.int .u8 0,.int .u8 0,.int .u8 0,.int .u8 0,.int .u8 0,.int .u8 0,.int .u8 0,.int .u8 0,.int .u8 0,.int .u8 0,.int .u8 0,.int .u8 0,.int .u8 0,.int .u8 0,.int .u8 0]))∧
 (tyZ Tryz.prog 289=some (.agg #[.int .u8 0,.int .u8 0]))∧
 (tyZ Tryz.prog 290=some (.agg #[.int .u8 0,.int .u8 0,.int .u8 0,.int .u8 0,.int .u8 0,.int .u8 0,.int .u8 0,.int .u8 0,.int .u8 0,.int .u8 0,.int .u8 0,.int .u8 0,.int .u8 0,.int .u8 0,.int .u8 0,.int .u8 0,.int .u8 0,.int .u8 0,.int .u8 0,.int .u8 0,.int .u8 0,.int .u8 0,.int .u8 0,.int .u8 0,.int .u8 0,.int .u8 0,.int .u8 0,.int .u8 0,.int .u8 0,.int .u8 0,.int .u8 0,.int .u8 0]))∧
 (tyZ Tryz.prog 293=some (.agg #[vs [],vs [],.nilIface]))∧
 (tyZ Tryz.prog 299=some (.slice Option.none 0 0))∧
 (tyZ Tryz.prog 302=some (.agg #[vs []]))∧
 (tyZ Tryz.prog 303=some (.pointer Option.none))∧
 (tyZ Tryz.prog 307=some (.agg #[.int .i32 0,.int .i32 0,.int .i32 0]))∧
 (tyZ Tryz.prog 309=some (.agg #[.int .u32 0,.int .u32 0,.int .i32 0,.int .i32 0,.int .i32 0])):=by
 and_intros
 all_goals rfl
theorem fdAs:(∀a:Addr,fdA Tryz.prog 34 (.pointer (some a)) 0=some (.pointer (adr (some a) 0)))∧
 (∀a:Addr,fdA Tryz.prog 34 (.pointer (some a)) 1=some (.pointer (adr (some a) 1)))∧
 (∀a:Addr,fdA Tryz.prog 34 (.pointer (some a)) 2=some (.pointer (adr (some a) 2)))∧
 (∀a:Addr,fdA Tryz.prog 34 (.pointer (some a)) 3=some (.pointer (adr (some a) 3)))∧
 (∀a:Addr,fdA Tryz.prog 34 (.pointer (some a)) 4=some (.pointer (adr (some a) 4)))∧
 (∀a:Addr,fdA Tryz.prog 36 (.pointer (some a)) 0=some (.pointer (adr (some a) 0)))∧
 (∀a:Addr,fdA Tryz.prog 36 (.pointer (some a)) 1=some (.pointer (adr (some a) 1)))∧
 (∀a:Addr,fdA Tryz.prog 36 (.pointer (some a)) 2=some (.pointer (adr (some a) 2)))∧
 (∀a:Addr,fdA Tryz.prog 40 (.pointer (some a)) 0=some (.pointer (adr (some a) 0)))∧
 (∀a:Addr,fdA Tryz.prog 40 (.pointer (some a)) 1=some (.pointer (adr (some a) 1)))∧
 (∀a:Addr,fdA Tryz.prog 40 (.pointer (some a)) 2=some (.pointer (adr (some a) 2)))∧
 (∀a:Addr,fdA Tryz.prog 40 (.pointer (some a)) 3=some (.pointer (adr (some a) 3)))∧
 (∀a:Addr,fdA Tryz.prog 40 (.pointer (some a)) 4=some (.pointer (adr (some a) 4)))∧
 (∀a:Addr,fdA Tryz.prog 42 (.pointer (some a)) 0=some (.pointer (adr (some a) 0)))∧
 (∀a:Addr,fdA Tryz.prog 42 (.pointer (some a)) 1=some (.pointer (adr (some a) 1)))∧
 (∀a:Addr,fdA Tryz.prog 42 (.pointer (some a)) 2=some (.pointer (adr (some a) 2)))∧
 (∀a:Addr,fdA Tryz.prog 48 (.pointer (some a)) 0=some (.pointer (adr (some a) 0)))∧
 (∀a:Addr,fdA Tryz.prog 48 (.pointer (some a)) 1=some (.pointer (adr (some a) 1)))∧
 (∀a:Addr,fdA Tryz.prog 59 (.pointer (some a)) 0=some (.pointer (adr (some a) 0)))∧
 (∀a:Addr,fdA Tryz.prog 59 (.pointer (some a)) 1=some (.pointer (adr (some a) 1)))∧
 (∀a:Addr,fdA Tryz.prog 59 (.pointer (some a)) 2=some (.pointer (adr (some a) 2)))∧
 (∀a:Addr,fdA Tryz.prog 79 (.pointer (some a)) 0=some (.pointer (adr (some a) 0)))∧
 (∀a:Addr,fdA Tryz.prog 79 (.pointer (some a)) 1=some (.pointer (adr (some a) 1)))∧
 (∀a:Addr,fdA Tryz.prog 81 (.pointer (some a)) 0=some (.pointer (adr (some a) 0)))∧
 (∀a:Addr,fdA Tryz.prog 81 (.pointer (some a)) 1=some (.pointer (adr (some a) 1)))∧
 (∀a:Addr,fdA Tryz.prog 83 (.pointer (some a)) 0=some (.pointer (adr (some a) 0)))∧
 (∀a:Addr,fdA Tryz.prog 83 (.pointer (some a)) 1=some (.pointer (adr (some a) 1)))∧
 (∀a:Addr,fdA Tryz.prog 83 (.pointer (some a)) 2=some (.pointer (adr (some a) 2)))∧
 (∀a:Addr,fdA Tryz.prog 83 (.pointer (some a)) 3=some (.pointer (adr (some a) 3)))∧
 (∀a:Addr,fdA Tryz.prog 83 (.pointer (some a)) 4=some (.pointer (adr (some a) 5)))∧
 (∀a:Addr,fdA Tryz.prog 83 (.pointer (some a)) 5=some (.pointer (adr (some a) 7)))∧
 (∀a:Addr,fdA Tryz.prog 85 (.pointer (some a)) 0=some (.pointer (adr (some a) 0)))∧
 (∀a:Addr,fdA Tryz.prog 85 (.pointer (some a)) 1=some (.pointer (adr (some a) 1)))∧
 (∀a:Addr,fdA Tryz.prog 85 (.pointer (some a)) 2=some (.pointer (adr (some a) 2)))∧
 (∀a:Addr,fdA Tryz.prog 85 (.pointer (some a)) 3=some (.pointer (adr (some a) 3)))∧
 (∀a:Addr,fdA Tryz.prog 85 (.pointer (some a)) 4=some (.pointer (adr (some a) 4)))∧
 (∀a:Addr,fdA Tryz.prog 97 (.pointer (some a)) 0=some (.pointer (adr (some a) 0)))∧
 (∀a:Addr,fdA Tryz.prog 97 (.pointer (some a)) 1=some (.pointer (adr (some a) 1)))∧
 (∀a:Addr,fdA Tryz.prog 115 (.pointer (some a)) 0=some (.pointer (adr (some a) 0)))∧
 (∀a:Addr,fdA Tryz.prog 115 (.pointer (some a)) 1=some (.pointer (adr (some a) 1)))∧
 (∀a:Addr,fdA Tryz.prog 115 (.pointer (some a)) 2=some (.pointer (adr (some a) 2)))∧
 (∀a:Addr,fdA Tryz.prog 132 (.pointer (some a)) 0=some (.pointer (adr (some a) 0)))∧
 (∀a:Addr,fdA Tryz.prog 132 (.pointer (some a)) 1=some (.pointer (adr (some a) 1)))∧
 (∀a:Addr,fdA Tryz.prog 139 (.pointer (some a)) 0=some (.pointer (adr (some a) 0)))∧
 (∀a:Addr,fdA Tryz.prog 139 (.pointer (some a)) 1=some (.pointer (adr (some a) 1)))∧
 (∀a:Addr,fdA Tryz.prog 139 (.pointer (some a)) 2=some (.pointer (adr (some a) 4)))∧
 (∀a:Addr,fdA Tryz.prog 139 (.pointer (some a)) 3=some (.pointer (adr (some a) 5)))∧
 (∀a:Addr,fdA Tryz.prog 139 (.pointer (some a)) 4=some (.pointer (adr (some a) 6)))∧
 (∀a:Addr,fdA Tryz.prog 145 (.pointer (some a)) 0=some (.pointer (adr (some a) 0)))∧
 (∀a:Addr,fdA Tryz.prog 145 (.pointer (some a)) 1=some (.pointer (adr (some a) 1)))∧
 (∀a:Addr,fdA Tryz.prog 187 (.pointer (some a)) 0=some (.pointer (adr (some a) 0)))∧
 (∀a:Addr,fdA Tryz.prog 187 (.pointer (some a)) 1=some (.pointer (adr (some a) 1)))∧
 (∀a:Addr,fdA Tryz.prog 187 (.pointer (some a)) 2=some (.pointer (adr (some a) 2)))∧
 (∀a:Addr,fdA Tryz.prog 234 (.pointer (some a)) 0=some (.pointer (adr (some a) 0)))∧
 (∀a:Addr,fdA Tryz.prog 234 (.pointer (some a)) 1=some (.pointer (adr (some a) 1)))∧
 (∀a:Addr,fdA Tryz.prog 234 (.pointer (some a)) 2=some (.pointer (adr (some a) 2)))∧
 (∀a:Addr,fdA Tryz.prog 249 (.pointer (some a)) 0=some (.pointer (adr (some a) 0)))∧
 (∀a:Addr,fdA Tryz.prog 249 (.pointer (some a)) 1=some (.pointer (adr (some a) 1)))∧
 (∀a:Addr,fdA Tryz.prog 251 (.pointer (some a)) 0=some (.pointer (adr (some a) 0)))∧
 (∀a:Addr,fdA Tryz.prog 251 (.pointer (some a)) 1=some (.pointer (adr (some a) 1)))∧
 (∀a:Addr,fdA Tryz.prog 251 (.pointer (some a)) 2=some (.pointer (adr (some a) 2)))∧
 (∀a:Addr,fdA Tryz.prog 251 (.pointer (some a)) 3=some (.pointer (adr (some a) 3)))∧
 (∀a:Addr,fdA Tryz.prog 289 (.pointer (some a)) 0=some (.pointer (adr (some a) 0)))∧
 (∀a:Addr,fdA Tryz.prog 289 (.pointer (some a)) 1=some (.pointer (adr (some a) 1)))∧
 (∀a:Addr,fdA Tryz.prog 293 (.pointer (some a)) 0=some (.pointer (adr (some a) 0)))∧
 (∀a:Addr,fdA Tryz.prog 293 (.pointer (some a)) 1=some (.pointer (adr (some a) 1)))∧
 (∀a:Addr,fdA Tryz.prog 293 (.pointer (some a)) 2=some (.pointer (adr (some a) 2)))∧
 (∀a:Addr,fdA Tryz.prog 302 (.pointer (some a)) 0=some (.pointer (adr (some a) 0)))∧
 (∀a:Addr,fdA Tryz.prog 309 (.pointer (some a)) 0=some (.pointer (adr (some a) 0)))∧
 (∀a:Addr,fdA Tryz.prog 309 (.pointer (some a)) 1=some (.pointer (adr (some a) 1)))∧
 (∀a:Addr,fdA Tryz.prog 309 (.pointer (some a)) 2=some (.pointer (adr (some a) 2))):=by
 and_intros
 all_goals (intro a;kernel_rfl)
theorem fns1(f:Nat)(h:1<f)(k:f<89):zah Tryz.prog f=true:=(by decide+kernel:∀f,f<89→1<f→zah Tryz.prog f=true) f k h
theorem fns90(f:Nat)(h:90<f)(k:f<115):zah Tryz.prog f=true:=(by decide+kernel:∀f,f<115→90<f→zah Tryz.prog f=true) f k h
theorem fns115(f:Nat)(h:115<f)(k:f<161):zah Tryz.prog f=true:=(by decide+kernel:∀f,f<161→115<f→zah Tryz.prog f=true) f k h
theorem fns161(f:Nat)(h:161<f)(k:f<232):zah Tryz.prog f=true:=(by decide+kernel:∀f,f<232→161<f→zah Tryz.prog f=true) f k h
theorem fns232(f:Nat)(h:232<f)(k:f<238):zah Tryz.prog f=true:=(by decide+kernel:∀f,f<238→232<f→zah Tryz.prog f=true) f k h
theorem fns268(f:Nat)(h:268<f)(k:f<270):zah Tryz.prog f=true:=(by decide+kernel:∀f,f<270→268<f→zah Tryz.prog f=true) f k h
theorem fnx:(zah Tryz.prog 89=false)∧
 (zah Tryz.prog 90=false)∧
 (zah Tryz.prog 115=false)∧
 (zah Tryz.prog 161=false)∧
 (zah Tryz.prog 232=false)∧
 (zah Tryz.prog 238=false)∧
 (zah Tryz.prog 239=false)∧
 (zah Tryz.prog 240=false)∧
 (zah Tryz.prog 241=false)∧
 (zah Tryz.prog 242=false)∧
 (zah Tryz.prog 243=false)∧
 (zah Tryz.prog 244=false)∧
 (zah Tryz.prog 245=false)∧
 (zah Tryz.prog 246=false)∧
 (zah Tryz.prog 247=false)∧
 (zah Tryz.prog 248=false)∧
 (zah Tryz.prog 249=false)∧
 (zah Tryz.prog 250=false)∧
 (zah Tryz.prog 251=false)∧
 (zah Tryz.prog 252=false)∧
 (zah Tryz.prog 253=false)∧
 (zah Tryz.prog 254=false)∧
 (zah Tryz.prog 255=false)∧
 (zah Tryz.prog 256=false)∧
 (zah Tryz.prog 257=false)∧
 (zah Tryz.prog 258=false)∧
 (zah Tryz.prog 259=false)∧
 (zah Tryz.prog 260=false)∧
 (zah Tryz.prog 261=false)∧
 (zah Tryz.prog 262=false)∧
 (zah Tryz.prog 263=false)∧
 (zah Tryz.prog 264=false)∧
 (zah Tryz.prog 265=false)∧
 (zah Tryz.prog 266=false)∧
 (zah Tryz.prog 267=false)∧
 (zah Tryz.prog 268=false):=by
 and_intros
 all_goals rfl
theorem tyIs(t:Nat)(h:t<310):(Tryz.prog.info? t).isSome=true:=(by decide+kernel:∀t,t<310→(Tryz.prog.info? t).isSome=true) t h
attribute [go_sem] tyUs tySs tyAs tyIs tyNs fns1 fns90 fns115 fns161 fns232 fns268 fnx tyZs fdAs
theorem mixed:Tryz.prog.follows .mixedOrders=true:=by rfl
structure KeepB(n0:Nat)(C:Nat→Prop)(w w':World):Prop where
 os:w'.os=w.os
 tape:w'.tape=w.tape
 output:w'.output=w.output
 size:w.heap.size≤w'.heap.size
 block:∀b,b<n0→¬C b→w'.heap[b]? =w.heap[b]?
 drawn:w.drawn≤w'.drawn
theorem KeepB.refl(n0:Nat)(C:Nat→Prop)(w:World):KeepB n0 C w w:=⟨rfl,rfl,rfl,Nat.le_refl _,fun _ _ _=>rfl,Nat.le_refl _⟩
theorem KeepB.trans{n0:Nat}{C:Nat→Prop}{a b c:World}(h:KeepB n0 C a b)(k:KeepB n0 C b c):KeepB n0 C a c:=
 ⟨k.os.trans h.os,k.tape.trans h.tape,k.output.trans h.output,Nat.le_trans h.size k.size,fun i hi hc=>(k.block i hi hc).trans (h.block i hi hc),Nat.le_trans h.drawn k.drawn⟩
theorem Keep.toB{n0:Nat}{C S:Nat→Prop}{a b:World}(h:Keep S a b)(hn:n0≤a.heap.size)(hS:∀i,i<n0→S i→C i):KeepB n0 C a b:=
 ⟨h.os,h.tape,h.output,h.size,fun i hi hc=>h.block i (by omega) (fun hs=>hc (hS i hi hs)),h.drawn⟩
theorem KeepB.mono{n0 n1:Nat}{C D:Nat→Prop}{a b:World}(h:KeepB n0 C a b)(hn:n1≤n0)(hC:∀i,i<n1→C i→D i):KeepB n1 D a b:=
 ⟨h.os,h.tape,h.output,h.size,fun i hi hd=>h.block i (by omega) (fun hc=>hd (hC i hi hc)),h.drawn⟩
theorem KeepB.keep{C:Nat→Prop}{a b:World}(h:KeepB a.heap.size C a b):Keep C a b:=⟨h.os,h.tape,h.output,h.size,h.block,h.drawn⟩
def Yld(P:Program)(l:Nat)(args:Array Value)(w:World)(R:Value→World→Prop):Prop:=zgl P (.func (.yield l) #[] #[]) args w R
theorem Yld.mono{P:Program}{l:Nat}{args:Array Value}{w:World}{R R':Value→World→Prop}(h:Yld P l args w R)(hr:∀v w,R v w→R' v w):Yld P l args w R':=ze8 hr h
def span(n k:Nat):Nat→Prop:=fun b=>n≤b∧b<n+k
def IterG{α:Type}(P:Program)(g:FuncId)(cap:Array Value)(W0:World)(n0:Nat)(C:Nat→Prop)(own:Nat)(Pre:List α→α→Prop)(Full:List α→Prop)(enc:α→World→Array Value→Prop):Prop:=
 ∀(l:Nat) (J Jx:List α→World→Prop) (W:World),Ext W0 W→n0≤W.heap.size→
  (∀pre A B,J pre A→Keep (span W.heap.size own) A B→J pre B)→(∀pre A B,Jx pre A→Keep (span W.heap.size own) A B→Jx pre B)→
  (∀pre x A args,Pre pre x→J pre A→W.heap.size+own≤A.heap.size→KeepB n0 C W A→enc x A args→Yld P l args A (fun v B=>
   (v= .bool true∧J (pre++ [x]) B∧KeepB n0 C A B∧∀b,span W.heap.size own b→B.heap[b]? =A.heap[b]?)∨(v= .bool false∧Jx (pre++ [x]) B)))→
  J [] W→Fn P g (#[.func (.yield l) #[] #[]]++cap) W (fun _ B=>(∃xs,Full xs∧J xs B)∨∃pre x,Pre pre x∧Jx (pre++ [x]) B)
def Iter{α:Type}(P:Program)(g:FuncId)(cap:Array Value)(W0:World)(n0:Nat)(C:Nat→Prop)(xs:List α)(enc:α→World→Array Value→Prop):Prop:=
 ∀(l:Nat) (J Jx:List α→World→Prop) (W:World),Ext W0 W→n0≤W.heap.size→
  (∀pre A B,J pre A→Ext A B→J pre B)→(∀pre A B,Jx pre A→Ext A B→Jx pre B)→
  (∀pre x suf A args,xs=pre++x::suf→J pre A→KeepB n0 C W A→enc x A args→Yld P l args A (fun v B=>
   (v= .bool true∧J (pre++ [x]) B∧KeepB n0 C A B)∨(v= .bool false∧Jx (pre++ [x]) B)))→
  J [] W→Fn P g (#[.func (.yield l) #[] #[]]++cap) W (fun _ B=>J xs B∨∃pre x suf,xs=pre++x::suf∧Jx (pre++ [x]) B)
theorem Iter.toG{α:Type}{P:Program}{g:FuncId}{cap:Array Value}{W0:World}{n0:Nat}{C:Nat→Prop}{xs:List α}{enc:α→World→Array Value→Prop}(h:Iter P g cap W0 n0 C xs enc):
  IterG P g cap W0 n0 C 0 (fun pre x=>∃suf,xs=pre++x::suf) (fun l=>l=xs) enc:=fun l J Jx W h1 h2 h3 h4 h5 h6=>
 Fn.mono (h l J Jx W h1 h2 (fun pre A B hj hk=>h3 pre A B hj (hk.mono (fun _ _ h=>h.elim))) (fun pre A B hj hk=>h4 pre A B hj (hk.mono (fun _ _ h=>h.elim)))
  (fun pre x suf A args e hj hk he=>Yld.mono (h5 pre x A args ⟨suf,e⟩ hj (by have:=hk.size;omega) hk he) (fun v B hr=>by
   rcases hr with ⟨h1,h2,h3,_⟩|hr
   ·exact .inl ⟨h1,h2,h3⟩
   ·exact .inr hr)) h6) (fun v B hr=>by
  rcases hr with hr| ⟨pre,x,suf,e,hr⟩
  ·exact .inl ⟨xs,rfl,hr⟩
  ·exact .inr ⟨pre,x,⟨suf,e⟩,hr⟩)
def zdH(σ:Sto):List (Tmp×Value)→Sto
 | []=>σ
 | (t,v)::l=>zdH (upd σ t v) l
theorem zcQ(n:Nat)(ds:List Deferred):∀(l:List (Tmp×Value)) (σ:Sto),l.foldl (fun t (p,v)=>t.setIfInBounds p v) (act n σ ds).tmps=(act n (zdH σ l) ds).tmps
 | [],_=>rfl
 | (p,v)::l,σ=>by
  simp only[List.foldl_cons,zjR]
  exact zcQ n ds l (upd σ p v)
theorem ziz(σ:Sto):zdH σ []=σ:=nr rfl
theorem zhK(σ:Sto)(t:Tmp)(v:Value)(l:List (Tmp×Value)):zdH σ ((t,v)::l)=zdH (upd σ t v) l:=nr rfl
theorem zip_l(l:List Tmp)(m:List Value):(l.toArray.zip m.toArray).toList=l.zip m:=by simp
theorem zip_cons(a:Tmp)(b:Value)(l:List Tmp)(m:List Value):(a::l).zip (b::m)=(a,b)::l.zip m:=nr rfl
theorem zip_nil:([]:List Tmp).zip ([]:List Value)=[]:=nr rfl
attribute [go_sem] ziz zhK zip_l zip_cons zip_nil
def two(D:Nat):Nat→Prop:=fun b=>b=D∨b=D+1
theorem zaD{w:World}{r:Nat}{o:Obj}{S:Nat→Prop}(hr:S r):Keep S w (w.putObj r o):=
 ⟨rfl,rfl,rfl,by simp,fun b _ hb=>World.putObj_heap_other (fun e=>hb (e▸hr)),Nat.le_refl _⟩
def ziF{α:Type}(I:List α→World→Prop)(Ix:Code→List α→World→Prop)(n2:Nat)(C:Nat→Prop)(pre':List α)(A:World):Post
 | .normal,_,_,B=>I pre' B∧KeepB n2 C A B
 | .ret,_,_,B=>Ix .ret pre' B∧KeepB n2 C A B
 | .exit id,_,_,B=>Ix (.exit id) pre' B∧KeepB n2 C A B
 | .goto t,_,_,B=>Ix (.goto t) pre' B∧KeepB n2 C A B
 |_,_,_,_=>False
def zfQ(fn:FuncId)(tmps:Array Value)(ps:Array Tmp)(assign body:Code)(D:Nat)(st:LoopState)(pe:Option Code):Loop:=
 {state:=st,pending:=pe,fn,tmps,params:=ps,assign,body,defers:=D}
theorem W_rangeG{α:Type}{P:Program}{n:Nat}{f:Operand}{ps:Array Tmp}{assign body:Code}{Q:Post}{σ:Sto}{ds:List Deferred}{w:World}
  {g:FuncId} {cap:Array Value} {W0:World} {n0:Nat} {C:Nat→Prop} {own:Nat} {Pre:List α→α→Prop} {Full:List α→Prop} {enc:α→World→Array Value→Prop}
  (hf:ev n σ f= .func (.func g) #[] cap) (hc:zah P g=true) (hit:IterG P g cap W0 n0 C own Pre Full enc) (hW0:Ext W0 w) (hn0:n0≤w.heap.size) (hCn:∀b,C b→b<w.heap.size)
  (henc:∀x A args,enc x A args→args.size=ps.size)
  (I:List α→World→Prop) (Ix:Code→List α→World→Prop)
  (hI:∀pre A B,I pre A→Keep (span w.heap.size (2+own)) A B→I pre B)
  (hIx:∀c pre A B,Ix c pre A→Keep (span w.heap.size (2+own)) A B→Ix c pre B)
  (h0:I [] w)
  (hround:∀(l:Nat) (pre:List α) (x:α) (A:World) (args:Array Value),Pre pre x→w.heap.size+2+own≤A.heap.size→I pre A→enc x A args→
   W P (some l) n assign (zc0 (fun σ1 ds1 A1=>ds1=[]∧KeepB (w.heap.size+2+own) C A A1∧∀A2,Keep (two w.heap.size) A1 A2→W P (some l) n body (ziF I Ix (w.heap.size+2+own) C (pre++ [x]) A2) σ1 [] A2) (fun _ _ _ _=>False))
    (zdH σ (ps.zip args).toList) [] A)
  (hdone:∀xs w',Full xs→w.heap.size+2≤w'.heap.size→I xs w'→w'.heap[w.heap.size]? =some (.deferred (some []))→Q .normal σ ({target:= .collected w.heap.size,args:=#[]}::ds) w')
  (hstop:∀c pre x w',w.heap.size+2≤w'.heap.size→Pre pre x→Ix c (pre++ [x]) w'→w'.heap[w.heap.size]? =some (.deferred (some []))→
   W P Option.none n c Q σ ({target:= .collected w.heap.size,args:=#[]}::ds) w'):
  W P Option.none n (.rangeFunc f ps assign body) Q σ ds w:=by
 refine wpIn_rangeFunc ?_
 intro fn _
 generalize hrec:zfQ fn (act n σ ds).tmps ps assign body w.heap.size=rec
 obtain⟨W1,hW1⟩:∃W1,(w.alloc (.deferred (some []))).alloc (.loop (rec .ready Option.none))=W1:=⟨_,rfl⟩
 have hsz1:W1.heap.size=w.heap.size+2:=by rw[←hW1];simp
 have hL1:W1.heap[w.heap.size+1]? =some (.loop (rec .ready Option.none)):=by
  rw[←hW1];have:=World.alloc_heap_new (w.alloc (.deferred (some []))) (.loop (rec .ready Option.none));rwa [World.size_alloc]at this
 have hK1:W1.heap[w.heap.size]? =some (.deferred (some [])):=by
  rw[←hW1];exact(RowKit.Below.heap_alloc _ _ _ (by simp)).trans (World.alloc_heap_new w _)
 have hE1:Ext w W1:=by rw[←hW1];exact(Ext.alloc w _).trans (Ext.alloc _ _)
 have hI1:I [] W1:=hI _ _ _ h0 (hE1.mono (fun _ _ h=>h.elim))
 have hl2:two w.heap.size (w.heap.size+1):= .inr rfl
 have hl2':span w.heap.size (2+own) (w.heap.size+1):=by unfold span;omega
 refine⟨w.heap.size+1,[{target:= .collected w.heap.size,args:=#[]}],W1,{target:= .fn (.func g) cap,args:=#[.func (.yield (w.heap.size+1)) #[] #[]]},W1,g,
  #[.func (.yield (w.heap.size+1)) #[] #[]]++cap,W1,?_,?_,?_,?_,zdd,?_⟩
 ·rw[←hW1,←hrec];exact run_enterLoop_outer _ _ _ _ _
 ·simp only[resolve,zca,hf]
  simp[Deferred.ofValue,ev]
 ·intro f' hf';trivial
 ·simp only[invoke];exact zcf hc
 ·-- the iterator's contract
  have hsp:∀{n:Nat} b,b<n→span W1.heap.size own b→span w.heap.size (2+own) b:=fun b _ h=>by unfold span at*;omega
  have hCl:∀b,two w.heap.size b→¬C b:=fun b hb hcb=>by have:=hCn b hcb;rcases hb with rfl|rfl<;>omega
  refine zcU (CallsIn.mono (hit (w.heap.size+1)
   (fun pre B=>I pre B∧w.heap.size+2≤B.heap.size∧B.heap[w.heap.size+1]? =some (.loop (rec .ready Option.none))∧B.heap[w.heap.size]? =some (.deferred (some [])))
   (fun pre B=>∃c,Ix c pre B∧w.heap.size+2≤B.heap.size∧B.heap[w.heap.size+1]? =some (.loop (rec .done (some c)))∧B.heap[w.heap.size]? =some (.deferred (some [])))
   W1 (hW0.trans hE1) (by omega) ?_ ?_ ?_ ⟨hI1,by omega,hL1,hK1⟩) ?_)
  ·rintro pre A B ⟨hi,hs,hl,hk⟩ hAB
   exact⟨hI _ _ _ hi (hAB.mono hsp),Nat.le_trans hs hAB.size,(hAB.block _ (by omega) (by unfold span;omega)).trans hl,(hAB.block _ (by omega) (by unfold span;omega)).trans hk⟩
  ·rintro pre A B ⟨c,hi,hs,hl,hk⟩ hAB
   exact⟨c,hIx _ _ _ _ hi (hAB.mono hsp),Nat.le_trans hs hAB.size,(hAB.block _ (by omega) (by unfold span;omega)).trans hl,(hAB.block _ (by omega) (by unfold span;omega)).trans hk⟩
  ·-- one round
   rintro pre x A args hxs ⟨hi,hs,hl,hk⟩ hsA _ hx
   have hy:=run_yield (P:=P) (args:=args) hl (by rw[←hrec];exact henc x A args hx)
   unfold Yld zgl
   dsimp only
   rw[show (#[]++args:Array Value)=args from by simp]
   rw[hy,←hrec]
   dsimp only[zfQ,opR]
   refine zcN (r:=Option.none) (n:=0) (roundIn_of_wpIn (F:=fw Option.none) (n:=0) trivial ?_)
   have hin:(fw Option.none).inRound (w.heap.size+1)=fw (some (w.heap.size+1)):=rfl
   rw[hin]
   have hfold:(ps.zip args).foldl (fun t (x:Tmp×Value)=>t.setIfInBounds x.1 x.2) (act n σ ds).tmps=(act n (zdH σ (ps.zip args).toList) []).tmps:=by
    rw[←Array.foldl_toList]
    exact zcQ n ds _ σ
   have hst:({tmps:=(ps.zip args).foldl (fun t (x:Tmp×Value)=>t.setIfInBounds x.1 x.2) (act n σ ds).tmps,defers:=[]}:Act)=act n (zdH σ (ps.zip args).toList) []:=by
    rw[hfold];rfl
   have hr:=hround (w.heap.size+1) pre x A args hxs (by omega) hi hx
   unfold W at hr
   rw[←hst]at hr
   refine wpIn_mono hr ?_
   rintro e a A1 ⟨σ1,ds1,rfl,hq⟩
   cases e with
   |normal=>
    obtain⟨rfl,hA1,hbody⟩:=hq
    have hlA1:A1.heap[w.heap.size+1]? =some (.loop (rec .ready Option.none)):=(hA1.block _ (by omega) (hCl _ hl2)).trans hl
    have hkA1:A1.heap[w.heap.size]? =some (.deferred (some [])):=(hA1.block _ (by omega) (hCl _ (.inl rfl))).trans hk
    have hlt1:w.heap.size+1<A1.heap.size:=(Array.getElem?_eq_some_iff.1 hlA1).1
    refine⟨_,run_beginRound hlA1 (by rw[←hrec];rfl),?_⟩
    have hb:=hbody _ (zaD (w:=A1) (r:=w.heap.size+1) (o:= .loop {rec .ready Option.none with state:= .busy}) hl2)
    refine wpIn_mono hb ?_
    have hlA2:(A1.putObj (w.heap.size+1) (.loop {rec .ready Option.none with state:= .busy})).heap[w.heap.size+1]? =some (.loop {rec .ready Option.none with state:= .busy}):=World.putObj_heap_same hlt1
    have hkA2:(A1.putObj (w.heap.size+1) (.loop {rec .ready Option.none with state:= .busy})).heap[w.heap.size]? =some (.deferred (some [])):=(World.putObj_heap_other (by omega)).trans hkA1
    have fin:∀(jump:Option Code) (B:World),KeepB (w.heap.size+2+own) C (A1.putObj (w.heap.size+1) (.loop {rec .ready Option.none with state:= .busy})) B→
      (Instr.endRound (w.heap.size+1) jump).run P B= .ok (.bool jump.isNone) (B.putObj (w.heap.size+1) (.loop (rec (if jump.isNone then .ready else .done) jump)))∧
      w.heap.size+2≤(B.putObj (w.heap.size+1) (.loop (rec (if jump.isNone then .ready else .done) jump))).heap.size∧
      (B.putObj (w.heap.size+1) (.loop (rec (if jump.isNone then .ready else .done) jump))).heap[w.heap.size+1]? =some (.loop (rec (if jump.isNone then .ready else .done) jump))∧
      (B.putObj (w.heap.size+1) (.loop (rec (if jump.isNone then .ready else .done) jump))).heap[w.heap.size]? =some (.deferred (some []))∧
      KeepB n0 C A (B.putObj (w.heap.size+1) (.loop (rec (if jump.isNone then .ready else .done) jump)))∧
      ∀b,span W1.heap.size own b→(B.putObj (w.heap.size+1) (.loop (rec (if jump.isNone then .ready else .done) jump))).heap[b]? =A.heap[b]?:=by
     intro jump B hB
     have hlB:=(hB.block _ (by omega) (hCl _ hl2)).trans hlA2
     have hkB:=(hB.block _ (by omega) (hCl _ (.inl rfl))).trans hkA2
     have hltB:w.heap.size+1<B.heap.size:=(Array.getElem?_eq_some_iff.1 hlB).1
     refine⟨?_,by simp;omega,World.putObj_heap_same hltB,(World.putObj_heap_other (by omega)).trans hkB,?_,?_⟩
     ·have:=run_endRound (P:=P) jump hlB
      rw[←hrec]at this ⊢
      exact this
     ·refine(hA1.mono (by omega) (fun _ _ h=>h)).trans (KeepB.trans ?_ ((hB.mono (by omega) (fun _ _ h=>h)).trans ?_))
      ·exact(zaD (S:=two w.heap.size) hl2).toB (by omega) (fun i hi hs=>by rcases hs with rfl|rfl<;>omega)
      ·exact(zaD (S:=two w.heap.size) hl2).toB (by omega) (fun i hi hs=>by rcases hs with rfl|rfl<;>omega)
     ·intro b hb
      unfold span at hb
      have hCb:¬C b:=fun h=>by have:=hCn b h;omega
      exact(World.putObj_heap_other (by omega)).trans ((hB.block b (by omega) hCb).trans ((World.putObj_heap_other (by omega)).trans (hA1.block b (by omega) hCb)))
    rintro e a B ⟨σ2,ds2,rfl,hq⟩
    cases e with
    |normal=>
     obtain⟨hi',hB⟩:=hq
     obtain⟨h1,h2,h3,h4,h5,h6⟩:=fin Option.none B hB
     exact⟨_,_,h1,_,rfl,.inl ⟨rfl,⟨hI _ _ _ hi' (zaD hl2'),h2,h3.trans (by rw[←hrec];rfl),h4⟩,h5,h6⟩⟩
    |ret=>
     obtain⟨hi',hB⟩:=hq
     obtain⟨h1,h2,h3,h4,h5,_⟩:=fin (some .ret) B hB
     exact⟨_,_,h1,_,rfl,.inr ⟨rfl,_,hIx _ _ _ _ hi' (zaD hl2'),h2,h3.trans (by rw[←hrec];rfl),h4⟩⟩
    |exit id=>
     obtain⟨hi',hB⟩:=hq
     obtain⟨h1,h2,h3,h4,h5,_⟩:=fin (some (.exit id)) B hB
     exact⟨_,_,h1,_,rfl,.inr ⟨rfl,_,hIx _ _ _ _ hi' (zaD hl2'),h2,h3.trans (by rw[←hrec];rfl),h4⟩⟩
    |goto t=>
     obtain⟨hi',hB⟩:=hq
     obtain⟨h1,h2,h3,h4,h5,_⟩:=fin (some (.goto t)) B hB
     exact⟨_,_,h1,_,rfl,.inr ⟨rfl,_,hIx _ _ _ _ hi' (zaD hl2'),h2,h3.trans (by rw[←hrec];rfl),h4⟩⟩
    |panic c=>exact hq.elim
    |outgrown=>exact hq.elim
   |ret=>exact hq.elim
   |exit id=>exact hq.elim
   |goto t=>exact hq.elim
   |panic c=>exact hq.elim
   |outgrown=>exact hq.elim
  ·rintro e B ⟨v,rfl,h⟩
   rcases h with ⟨xs,hfull,hi,hs,hl,hk⟩| ⟨pre,x,hxs,c,hi,hs,hl,hk⟩
   ·have hend:=run_endLoop (P:=P) hl (by rw[←hrec];simp[zfQ])
    have hp:(rec LoopState.ready Option.none).pending=Option.none:=by rw[←hrec];rfl
    rw[hp]at hend
    refine⟨Option.none,_,hend,?_⟩
    exact⟨σ,_,rfl,hdone xs _ hfull (by simp;omega) (hI _ _ _ hi (zaD hl2')) ((World.putObj_heap_other (by omega)).trans hk)⟩
   ·have hend:=run_endLoop (P:=P) hl (by rw[←hrec];simp[zfQ])
    have hp:(rec LoopState.done (some c)).pending=some c:=by rw[←hrec];rfl
    rw[hp]at hend
    refine⟨some c,_,hend,?_⟩
    exact hstop c pre x _ (by simp;omega) hxs (hIx _ _ _ _ hi (zaD hl2')) ((World.putObj_heap_other (by omega)).trans hk)
theorem zcs{α:Type}{P:Program}{n:Nat}{f:Operand}{ps:Array Tmp}{assign body:Code}{Q:Post}{σ:Sto}{ds:List Deferred}{w:World}
  {g:FuncId} {cap:Array Value} {W0:World} {n0:Nat} {C:Nat→Prop} {xs:List α} {enc:α→World→Array Value→Prop}
  (hf:ev n σ f= .func (.func g) #[] cap) (hc:zah P g=true) (hit:Iter P g cap W0 n0 C xs enc) (hW0:Ext W0 w) (hn0:n0≤w.heap.size) (hCn:∀b,C b→b<w.heap.size)
  (henc:∀x A args,enc x A args→args.size=ps.size)
  (I:List α→World→Prop) (Ix:Code→List α→World→Prop)
  (hI:∀pre A B,I pre A→Keep (two w.heap.size) A B→I pre B)
  (hIx:∀c pre A B,Ix c pre A→Keep (two w.heap.size) A B→Ix c pre B)
  (h0:I [] w)
  (hround:∀(l:Nat) (pre:List α) (x:α) (suf:List α) (A:World) (args:Array Value),xs=pre++x::suf→w.heap.size+2≤A.heap.size→I pre A→enc x A args→
   W P (some l) n assign (zc0 (fun σ1 ds1 A1=>ds1=[]∧KeepB (w.heap.size+2) C A A1∧∀A2,Keep (two w.heap.size) A1 A2→W P (some l) n body (ziF I Ix (w.heap.size+2) C (pre++ [x]) A2) σ1 [] A2) (fun _ _ _ _=>False))
    (zdH σ (ps.zip args).toList) [] A)
  (hdone:∀w',w.heap.size+2≤w'.heap.size→I xs w'→w'.heap[w.heap.size]? =some (.deferred (some []))→Q .normal σ ({target:= .collected w.heap.size,args:=#[]}::ds) w')
  (hstop:∀c pre x suf w',w.heap.size+2≤w'.heap.size→xs=pre++x::suf→Ix c (pre++ [x]) w'→w'.heap[w.heap.size]? =some (.deferred (some []))→
   W P Option.none n c Q σ ({target:= .collected w.heap.size,args:=#[]}::ds) w'):
  W P Option.none n (.rangeFunc f ps assign body) Q σ ds w:= 
 W_rangeG hf hc hit.toG hW0 hn0 hCn henc I Ix (fun pre A B hi hk=>hI pre A B hi (hk.mono (fun b _ h=>by unfold span at h;unfold two;omega))) (fun c pre A B hi hk=>hIx c pre A B hi (hk.mono (fun b _ h=>by unfold span at h;unfold two;omega))) h0 (fun l pre x A args ⟨suf,e⟩=>hround l pre x suf A args e) (fun ys w' e=>by subst e;exact hdone w')
  (fun c pre x w' hs ⟨suf,e⟩=>hstop c pre x suf w' hs e)
theorem ze0{P:Program}{fn:Func}{R:Value→World→Prop}{e:Exit}{σ:Sto}{w:World}(he:e= .normal∨e= .ret){t:Tmp}{m D:Nat}{v:Value}(hl:fn.results.toList=[.tmp t])(hm:fn.ntmps=m)
  (hv:ev m σ (.tmp t)=v) (hD:w.heap[D]? =some (.deferred (some []))) (h:∀w',Keep (fun b=>b=D) w w'→w'.heap.size=w.heap.size→R v w'):
  retQ P fn R e σ [{target:= .collected D,args:=#[]}] w:=by
 refine⟨he,⟨D,rfl,hD,trivial⟩,[v],?_,h _ (zaD rfl) (by simp[shut])⟩
 rw[hl,hm,←hv];rfl
theorem zfO{P:Program}{fn:Func}{R:Value→World→Prop}{e:Exit}{σ:Sto}{w:World}(he:e= .normal∨e= .ret){t t':Tmp}{m D:Nat}{v v':Value}(hl:fn.results.toList=[.tmp t,.tmp t'])(hm:fn.ntmps=m)
  (hv:ev m σ (.tmp t)=v) (hv':ev m σ (.tmp t')=v') (hD:w.heap[D]? =some (.deferred (some []))) (h:∀w',Keep (fun b=>b=D) w w'→w'.heap.size=w.heap.size→R (.tuple #[v,v']) w'):
  retQ P fn R e σ [{target:= .collected D,args:=#[]}] w:=by
 refine⟨he,⟨D,rfl,hD,trivial⟩,[v,v'],?_,h _ (zaD rfl) (by simp[shut])⟩
 rw[hl,hm,←hv,←hv'];rfl
theorem zeq{α:Type}:∀(a:Ask α) (w:World),w.drawn≤(w.ask a).2.drawn
 | .done _,w=>Nat.le_refl _
 | .ask what range k,w=>by
  unfold World.ask
  dsimp only
  split
  ·exact zeq _ _
  ·exact Nat.le_trans (Nat.le_succ _) (zeq (k _) {w with drawn:=w.drawn+1})
theorem ziu(w:World)(c:Sys):w.drawn≤(w.sys c).2.drawn:=by
 have h:=zeq (Kernel.perform c w.os) w
 unfold World.sys
 split
 ·exact Nat.le_refl _
 ·rename_i heq;rw[heq]at h;exact h
theorem zdV{p:Program}{w w':World}{at_:Addr}{u:TypeId}{k:Addr}{v:Value}{b:Bool}{l:List Addr}(h:w.viewStore p at_ u k v b= .ok (w',l)):w'.drawn=w.drawn:=by
 unfold World.viewStore at h
 simp only[bind,Except.bind,pure,Except.pure,throw,throwThe,MonadExceptOf.throw]at h
 repeat' split at h
 all_goals first
  | (cases h;done)
  | (cases h;rfl)
theorem zez{p:Program}{w w':World}{a:Addr}{v:Value}{b:Bool}{l:List Addr}(h:w.farStore p a v b= .ok (w',l)):w'.drawn=w.drawn:=by
 unfold World.farStore at h
 split at h
 ·split at h
  ·rename_i r hr
   cases h
   exact zdV hr
  ·cases h
 ·cases h
theorem zaF{α:Type}{P:Program}:∀(s:Sem α) (w:World) (v:α) (w':World),s.run P w= .ok v w'→w.drawn≤w'.drawn
 | .pure a,w,v,w',h=>by simp only[Sem.run]at h;cases h;exact Nat.le_refl _
 | .load m a k,w,v,w',h=>by
  simp only[Sem.run]at h
  split at h
  ·exact zaF _ _ _ _ h
  ·split at h
   ·exact zaF _ _ _ _ h
   ·cases h
 | .store m a x k,w,v,w',h=>by
  have hgo:(match w.cell? a with
   |some _=>if w.frozen? a then Result.halt (.unsupported (.unsafePointer "a write to bytes that a string shares")) w else k.run P (w.setCell a x)
   |Option.none=>match w.farStore P a x (m== .atomic) with
    | .ok (w,_)=>k.run P w
    | .error h=> .halt h w)=Result.ok v w'→w.drawn≤w'.drawn:=fun h=>by
   split at h
   ·split at h
    ·cases h
    ·have:=zaF k _ _ _ h;exact this
   ·split at h
    ·rename_i hf
     have:=zez hf
     have h2:=zaF k _ _ _ h
     omega
    ·cases h
  cases x<;>first| (simp only[Sem.run]at h;cases h;done)| (simp only[Sem.run]at h;exact hgo h)
 | .new o k,w,v,w',h=>by simp only[Sem.run]at h;exact zaF (k _) {w with heap:=w.heap.push o} _ _ h
 | .shape r k,w,v,w',h=>by simp only[Sem.run]at h;exact zaF _ _ _ _ h
 | .freeze a n k,w,v,w',h=>by
  simp only[Sem.run]at h
  have:=zaF k _ _ _ h
  have e:(w.freeze a n).drawn=w.drawn:=by unfold World.freeze;split<;>rfl
  rwa [e]at this
 | .frozen a k,w,v,w',h=>by simp only[Sem.run]at h;exact zaF _ _ _ _ h
 | .getObj r k,w,v,w',h=>by
  simp only[Sem.run]at h
  split at h
  ·cases h
  ·exact zaF _ _ _ _ h
  ·cases h
 | .setObj r o k,w,v,w',h=>by
  simp only[Sem.run]at h
  split at h
  ·cases h
  ·exact zaF k {w with heap:=w.heap.setIfInBounds r o} _ _ h
  ·cases h
 | .choose q k,w,v,w',h=>by
  simp only[Sem.run]at h
  split at h
  ·exact zaF _ _ _ _ h
  ·exact Nat.le_trans (Nat.le_succ _) (zaF (k _) {w with drawn:=w.drawn+1} _ _ h)
 | .sys c k,w,v,w',h=>by
  simp only[Sem.run]at h
  exact Nat.le_trans (ziu w c) (zaF _ _ _ _ h)
 | .program k,w,v,w',h=>by simp only[Sem.run]at h;exact zaF _ _ _ _ h
 | .mark m k,w,v,w',h=>by simp only[Sem.run]at h;exact zaF k _ _ _ h
 | .halt h0,w,v,w',h=>by simp only[Sem.run]at h;cases h
def zao(c:UInt8):Value:= .int .u8 c.toNat
section
variable {P : Program} {d : Option Tmp} {ty : TypeId} {ps : String} {af : Array Edge} {g : Option (Nat × Bool)} {ρ : Operand → Value} {w : World} {K : Value → World → Prop}
theorem zeJ{w w':World}{row:Option Nat}(h:w.grownBy w' row)(hd:w.drawn≤w'.drawn):Keep (fun b=>some b=row) w w':=⟨h.os,h.tape,h.output,h.size,h.block,hd⟩
theorem zbT{b:Nat}{cur:Array Value}{e:TypeId}{fr:Nat×Nat}(h:w.heap[b]? =some (.cells cur e fr))(j:Nat):w.cell? ⟨b,j,Option.none⟩=cur[j]?:=by
 simp[World.cell?,h]
theorem zf6{b:Nat}{cur:Array Value}{e:TypeId}{fr:Nat×Nat}(h:w.heap[b]? =some (.cells cur e fr))(j:Nat):w.frozen? ⟨b,j,Option.none⟩=(decide (fr.1≤j) && decide (j<fr.2)):=by
 obtain⟨lo,hi⟩:=fr;simp[World.frozen?,h]
theorem zg8(w:World)(b j:Nat)(v:Value):Keep (fun i=>i=b) w (w.setCell ⟨b,j,Option.none⟩ v):=
 ⟨rfl,rfl,rfl,by simp,fun i _ hne=>RowKit.Below.heap_setCell w _ v i hne,Nat.le_refl _⟩
theorem zfL{b j:Nat}{v:Value}{cur:Array Value}{e:TypeId}{fr:Nat×Nat}(h:w.heap[b]? =some (.cells cur e fr)):
  (w.setCell ⟨b,j,Option.none⟩ v).heap[b]? =some (.cells (cur.setIfInBounds j v) e fr):=by
 simp[World.setCell,Array.getElem?_modify,h]
theorem zan{t:TypeId}{b j:Nat}{v:Value}{cur:Array Value}{e:TypeId}{fr:Nat×Nat}(hs:tyS P t=1)(hi:(P.info? t).isSome=true)(hv:one v=true)
  (hb:w.heap[b]? =some (.cells cur e fr)) (hj:j<cur.size) (hf:fr.2≤j∨j<fr.1)
  (h:∀w',w'.heap.size=w.heap.size→w'.heap[b]? =some (.cells (cur.setIfInBounds j v) e fr)→Keep (fun i=>i=b) w w'→K undef w'):
  stK P t (.pointer (some ⟨b,j,Option.none⟩)) v w K:=by
 have hc:v.cells=#[v]:=by cases v<;>first|rfl| (simp[one]at hv)
 refine⟨by rw[hc,hs];rfl,hi,w.setCell ⟨b,j,Option.none⟩ v,?_,h _ (by simp) (zfL hb) (zg8 w b j v)⟩
 rw[hc]
 have h1:(w.cell? ⟨b,j,Option.none⟩).isSome=true:=by rw[zbT hb];simp[hj]
 have h2:w.frozen? ⟨b,j,Option.none⟩=false:=by
  rw[zf6 hb]
  rcases hf with hf|hf
  ·simp;omega
  ·simp;omega
 simp[stC,zdS,hv,h1,h2]
theorem zax(w:World)(o:Obj):(w.alloc o).heap[w.heap.size]? =some o:=World.alloc_heap_new w o
theorem zaB(w:World)(o:Obj):(w.alloc o).heap.size=w.heap.size+1:=by simp
theorem zfr{s t e:TypeId}{x:Operand}{l:List UInt8}(hs:tyU P s=some .string)(hd:tyU P t=some (.slice e))(he:tyU P e=some (.int .u8))(hx:ρ x=vs l)
  (h:∀(c:Nat) (cur:Array Value) (w':World),l.length≤c→cur.size=c→cur.toList.take l.length=l.map zao→Ext w w'→w'.heap.size=w.heap.size+1→
   w'.heap[w.heap.size]? =some (.cells cur e (c,c+1))→K (.slice (some ⟨w.heap.size,0,Option.none⟩) l.length c) w'):
  optK (cvD (some .string) (some (.slice e)) (vs l)) w K (opW P ⟨d,.convert s t x,ty,ps,af,g⟩ ρ w K):=by
 have hrun:=run_bytes_of_string (P:=P) w s t e ⟨l.toArray⟩ hs hd he
 have hsz:(⟨l.toArray⟩:ByteArray).size=l.length:=rfl
 rw[hsz]at hrun
 have hge:=grownCap_ge w l.length 0 e
 generalize grownCap w l.length 0 e=c at hrun hge
 have hbs:(bytesRow ⟨l.toArray⟩ c).size=c:=by simp[bytesRow,hsz];omega
 rw[hbs]at hrun
 show opR P K ((do pure (.value (←convert s t (ρ x))):Sem Next).run P w)
 rw[hx]
 refine zaw hrun (h c _ _ hge hbs ?_ (Ext.drew_alloc w _) (by simp) (World.alloc_heap_new w.drew _))
 unfold bytesRow
 simp only[Array.toList_append,Array.toList_map]
 rw[List.take_append_of_le_length (by simp),List.take_of_length_le (by simp)]
 rfl
theorem zb7{s t e:TypeId}{x:Operand}{a:Option Addr}{c:Nat}{l:List UInt8}(hs:tyU P s=some (.slice e))(hd:tyU P t=some .string)(he:tyU P e=some (.int .u8))
  (hx:ρ x= .slice a l.length c) (hl:∀j (hj:j<l.length),zad w (adr a j)=some (zao l[j])) (h:K (vs l) w):
  optK (cvD (some (.slice e)) (some .string) (.slice a l.length c)) w K (opW P ⟨d,.convert s t x,ty,ps,af,g⟩ ρ w K):=by
 show opR P K ((do pure (.value (←convert s t (ρ x))):Sem Next).run P w)
 rw[hx]
 cases a with
 |none=>
  cases l with
  |nil=>
   refine zaw (v:=vs []) (w':=w) ?_ h
   simp[convert,underlying,program,Sem.run,show P.underlying s=_ from hs,show P.underlying t=_ from hd,show P.underlying e=_ from he,Conv.bytesToString]
   rfl
  |cons c l=>have:=hl 0 (by simp);simp[zad,adr]at this
 |some a=>
  have:=run_convert_bytes_back (P:=P) w s t e a c l hs he hd (fun j hj=>by
   have:=hl j hj
   simpa [zad,adr,zao] using this)
  exact zaw this h
def Src1(w:World)(u:Value)(m:Nat)(size:Nat)(news:List Value):Prop:=
 ∃a c,u= .slice a m c∧news.length=m*size∧∀j (h:j<news.length),zad w (adr a j)=some news[j]
theorem Src1.of_row{u:Value}{l:List Value}(h:Row w u l):Src1 w u l.length 1 l:=by
 obtain⟨a,c,rfl,_,hl⟩:=h
 exact⟨a,c,rfl,by simp,hl⟩
theorem zcg{b:Builtin}{s x:Operand}{ts:Array TypeId}{r:Result Value}
  (h:∀v w',(Builtin.append_ ts ty #[ρ s,ρ x]).run P w= .ok v w'→K v w') (hr:∃v w',(Builtin.append_ ts ty #[ρ s,ρ x]).run P w= .ok v w'):
  opW P ⟨d,.call ⟨.builtin .append,#[s,x],ts⟩,ty,ps,af,g⟩ ρ w K:=by
 obtain⟨v,w',hv⟩:=hr
 simp only[opW,execOp,Sem.run_bind,resolve]
 simp only[Sem.run_pure,Result.andThen_ok,invoke,builtin]
 exact zaw (s:=Builtin.append_ ts ty (Array.map ρ #[s,x])) (by simpa using hv) (h v w' hv)
theorem zfW{B:Nat}{s x:Operand}{t e:TypeId}{inf:TypeInfo}{z:Value}{size bytes:Nat}(ht:tyU P t=some (.slice e))(hi:P.info? e=some inf)(hz:inf.zero=some z)
  (hsize:inf.size=size) (hby:inf.bytes=bytes) (hzs:z.cells.size=size) (hsz:0<size) {v u:Value} (hv:ρ s=v) (hu:ρ x=u) {n m:Nat} {xs news:List Value}
  (hown:w.ownsRow B e size v n xs) (hsrc:Src1 w u m size news) (h1:∀q∈news,one q=true) (h63:n+m≤maxLen) (hbytes:(n+m)*bytes≤140737488355328) (hB:B≤w.heap.size)
  (h:∀v' w',w'.ownsRow B e size v' (n+m) (xs++news)→Keep (fun b=>some b=v.ownBlock) w w'→((v'= .slice Option.none 0 0↔v= .slice Option.none 0 0∧m=0)∧∀b,some b=v'.ownBlock→some b=v.ownBlock∨w.heap.size≤b)→K v' w'):
  opW P ⟨d,.call ⟨.builtin .append,#[s,x],#[t,t]⟩,ty,ps,af,g⟩ ρ w K:=by
 obtain⟨a,c,rfl,hl,hc⟩:=hsrc
 have h1':∀q∈news,q.oneCell'=true:=fun q hq=>by
  have:=h1 q hq
  cases q<;>first|rfl| (simp[one]at this)
 have key:∃v' w',(Builtin.append_ #[t,t] ty #[v,.slice a m c]).run P w= .ok v' w'∧w'.ownsRow B e size v' (n+m) (xs++news)∧w.grownBy w' v.ownBlock∧
   (v'= .slice Option.none 0 0↔v= .slice Option.none 0 0∧m=0):=by
  cases a with
  |some a=>
   exact run_append_own (P:=P) w B t ty e inf z size bytes ht hi hz hsize hby hzs hsz v n xs hown a m c news hl (fun j q hj=>by
    obtain⟨hlt,rfl⟩:=List.getElem?_eq_some_iff.1 hj
    have:=hc j hlt
    simpa [zad,adr] using this) h1' h63 hbytes hB
  |none=>
   have hn0:news=[]:=by
    cases news with
    |nil=>rfl
    |cons q r=>have:=hc 0 (by simp);simp[zad,adr]at this
   subst hn0
   have hm0:m=0:=by
    rcases Nat.mul_eq_zero.1 hl.symm with h|h
    ·exact h
    ·omega
   subst hm0
   refine⟨v,w,?_,by simpa using hown,⟨rfl,rfl,rfl,Nat.le_refl _,fun _ _ _=>rfl⟩,by simp⟩
   have hs':inf.size=size:=hsize
   rcases hown.2 with ⟨rfl,rfl⟩| ⟨g,cap,cur,rfl,_,_,hnc,_⟩
   ·simp[Builtin.append_,underlying,program,Sem.run,show P.underlying t=_ from ht,sizeOf,typeInfo,hi,Builtin.lenOf,Builtin.firstCells]
   ·simp[Builtin.append_,underlying,program,Sem.run,show P.underlying t=_ from ht,sizeOf,typeInfo,hi,Builtin.lenOf,Builtin.firstCells,hnc,storeCells]
 obtain⟨v',w',hr,h2,h3,h4⟩:=key
 refine zcg (b:= .append) (r:= .ok v' w') (fun v1 w1 hr1=>?_) ⟨v',w',by rw[hv,hu];exact hr⟩
 rw[hv,hu,hr]at hr1
 cases hr1
 refine h v' w' h2 (zeJ h3 (zaF _ _ _ _ hr)) ⟨h4,fun b hb=>?_⟩
 cases a with
 |none=>
  have:v'=v:=by
   have hn0:news=[]:=by
    cases news with
    |nil=>rfl
    |cons q r=>have:=hc 0 (by simp);simp[zad,adr]at this
   subst hn0
   have hm0:m=0:=by
    rcases Nat.mul_eq_zero.1 hl.symm with h|h
    ·exact h
    ·omega
   subst hm0
   have hx:=hown.2
   rcases hown.2 with ⟨rfl,rfl⟩| ⟨g,cap,cur,rfl,_,_,hnc,_⟩
   ·simp[Builtin.append_,underlying,program,Sem.run,show P.underlying t=_ from ht,sizeOf,typeInfo,hi,Builtin.lenOf,Builtin.firstCells]at hr
    exact hr.1.symm
   ·simp[Builtin.append_,underlying,program,Sem.run,show P.underlying t=_ from ht,sizeOf,typeInfo,hi,Builtin.lenOf,Builtin.firstCells,hnc,storeCells]at hr
    exact hr.1.symm
  exact .inl (this▸hb)
 |some a=>
  have hnews:∀j u,news[j]? =some u→w.cell? (a.add j)=some u:=fun j q hj=>by
   obtain⟨hlt,rfl⟩:=List.getElem?_eq_some_iff.1 hj
   have:=hc j hlt
   simpa [zad,adr] using this
  rcases hown.2 with ⟨rfl,rfl⟩| ⟨g,cap,cur,rfl,hbg,hg,hnc,hcm,hcs,htake⟩
  ·obtain⟨v2,w2,k1,k2,_⟩:=run_append_own (P:=P) w w.heap.size t ty e inf z size bytes ht hi hz hsize hby hzs hsz _ 0 xs (⟨hown.1,.inl ⟨rfl,rfl⟩⟩) a m c news hl hnews h1' h63 hbytes (Nat.le_refl _)
   rw[k1]at hr
   cases hr
   rcases k2.2 with ⟨rfl,_⟩| ⟨g,cap,cur,rfl,hg,_⟩
   ·cases hb
   ·cases hb;exact .inr hg
  ·by_cases hroom:n+m≤cap
   ·obtain⟨w2,k1,_⟩:=run_append_fits (P:=P) w B t ty e inf size ht hi hsize g n cap xs hown a m c news hl hnews h1' hroom
    rw[k1]at hr
    cases hr
    exact .inl hb
   ·have holds:∀j u,xs[j]? =some u→w.cell? ((⟨g,0,Option.none⟩:Addr).add j)=some u:=hown.cells (g:=g) rfl
    subst hsize hby
    have k1:=run_append_grow (P:=P) w t ty e inf z ht hi hz ⟨g,0,Option.none⟩ n cap xs hown.1 holds a m c news hl hnews (by omega) (by simp only[maxLen]at h63;omega) (growslice_fits (by omega) hbytes)
    rw[k1]at hr
    cases hr
    cases hb
    exact .inr (Nat.le_refl _)
end
section
variable {P : Program} {d : Option Tmp} {ty : TypeId} {ps : String} {af : Array Edge} {g : Option (Nat × Bool)} {ρ : Operand → Value} {w : World} {K : Value → World → Prop}
theorem Row.of_owns{B:Nat}{e:TypeId}{v:Value}{n:Nat}{xs:List Value}(h:w.ownsRow B e 1 v n xs):Row w v xs:=by
 obtain⟨hl,h⟩:=h
 rw[Nat.mul_one]at hl
 rcases h with ⟨rfl,rfl⟩| ⟨g,cap,cur,rfl,_,hg,hn,_,hcs,hx⟩
 ·have:xs=[]:=List.length_eq_zero_iff.1 hl
  subst this
  exact⟨Option.none,0,rfl,Nat.le_refl _,fun j h=>by simp at h⟩
 ·refine⟨_,_,by rw[hl],by omega,fun j hj=>?_⟩
  rw[zaZ]
  show w.cell? _=_
  rw[zbT hg,←Array.getElem?_toList,Nat.zero_add]
  have:xs[j]? =some xs[j]:=List.getElem?_eq_getElem hj
  rw[←this,←hx,List.getElem?_take,if_pos (by omega)]
def RowB(base:Nat)(w:World)(v:Value)(l:List Value):Prop:=Row w v l∧∀a n c,v= .slice (some a) n c→base≤a.block∧a.block<w.heap.size
theorem RowB.of_owns{B:Nat}{e:TypeId}{v:Value}{n:Nat}{xs:List Value}(h:w.ownsRow B e 1 v n xs):RowB B w v xs:=by
 refine⟨Row.of_owns h,fun a m c hv=>?_⟩
 rcases h.2 with ⟨h1,_⟩| ⟨g,cap,cur,h1,hg,hb,_⟩
 ·rw[h1]at hv;cases hv
 ·rw[h1]at hv;cases hv;exact⟨hg,(Array.getElem?_eq_some_iff.1 hb).1⟩
theorem Row.blocks{x:World}{v:Value}{l:List Value}(h:Row w v l)(hb:∀a n c,v= .slice (some a) n c→x.heap[a.block]? =w.heap[a.block]?):Row x v l:=by
 obtain⟨a,c,rfl,hc,hl⟩:=h
 refine⟨a,c,rfl,hc,fun j hj=>?_⟩
 cases a with
 |none=>exact hl j hj
 |some a=>
  have:=hb a _ _ rfl
  have h2:=hl j hj
  show x.cell? (a.add j)=_
  have hbl:(a.add j).block=a.block:=by unfold Addr.add;split<;>rfl
  rw[World.cell?_of_block (w:=w) (by rw[hbl];exact this)]
  exact h2
theorem zfV{t e:TypeId}{x y:Operand}{inf:TypeInfo}{z:Value}{n:Nat}(ht:tyU P t=some (.slice e))(hi:P.info? e=some inf)(hz:inf.zero=some z)(hsize:inf.size=1)
  (hx:ρ x=vi n) (hy:ρ y=vi n) (hbytes:inf.bytes*n≤281474976710656) (h63:n≤9223372036854775807) (hz1:z.cells=#[z])
  (h:K (.slice (some ⟨w.heap.size,0,Option.none⟩) n n) (w.alloc (.cells (madeCells #[z] n) e))):
  opW P ⟨d,.makeSlice t x y,ty,ps,af,g⟩ ρ w K:=by
 have hb':(inf.bytes:Int)*(n:Int)≤281474976710656:=by
  have h:((inf.bytes*n:Nat):Int)≤281474976710656:=by omega
  rwa [Int.natCast_mul]at h
 have hr:=run_make (P:=P) w t e inf z ht hi hz .i64 .i64 (n:Int) (n:Int) (by omega) (Int.le_refl _) hb' (by omega)
 simp only[Int.toNat_natCast,hsize,Nat.mul_one,hz1]at hr
 show opR P K _
 refine zaw (s:=Instr.makeSlice t (ρ x) (ρ y)) (by rw[hx,hy];exact hr) h
theorem set1{A:Array Value}(h:A.size=1)(v:Value):A.setIfInBounds 0 v=#[v]:=by
 obtain⟨l⟩:=A
 match l,h with
 | [x],_=>rfl
theorem bsC_one{t e:TypeId}{z v:Value}(hu:tyU P t=some (.slice e))(hz:tyZ P e=some z)(hs:tyS P e=1)(hz1:z.cells=#[z])(hv:v.cells=#[v]):
  bsC P t 1 [(0,v)]=some (e,#[v]):=by
 simp[bsC,hu,hz,hs,hz1,Instr.fill,hv]
 exact set1 (by simp) v
end
abbrev Lab:=List UInt8
section
variable {P : Program} {d : Option Tmp} {ty : TypeId} {ps : String} {af : Array Edge} {g : Option (Nat × Bool)} {ρ : Operand → Value} {w : World} {K : Value → World → Prop}
end
end Go.Proofs.YtihbdhjibplldaaGreatDoor
