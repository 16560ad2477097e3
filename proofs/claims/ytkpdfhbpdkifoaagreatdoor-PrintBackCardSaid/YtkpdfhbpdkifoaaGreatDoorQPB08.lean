/-
  Texts of a proof, joined: KR6, E6, E7, E8, B3, K24, E9, E10, F2, Y4, F3, F4, Y5, F5, E11, E12, E13, F6, F7, F8, F9, G0, G1, G2, G3, G4, G5, HX, K26, JR, JS, JT, JU, LF, ND, JY, JZ, NA, NF, NG, NI.
  Conditions: none.
-/
import Derived.Test.YtkpdfhbpdkifoaaGreatDoorQPB07
import Derived.Test.YtkpdfhbpdkifoaaGreatDoorQPB02
import Derived.Test.YtkpdfhbpdkifoaaGreatDoorQPB05
import Derived.Test.YtkpdfhbpdkifoaaGreatDoorQPB04
import Derived.Test.YtkpdfhbpdkifoaaGreatDoorQPB06
import Derived.MapFrom
import Derived.Test.YtkpdfhbpdkifoaaGreatDoorQPB01
import Derived.Lib.SplitLaws
set_option linter.unusedVariables false
set_option linter.unusedSimpArgs false
set_option linter.defProp false
set_option linter.unnecessarySimpa false
set_option maxHeartbeats 8000000
namespace Go.Proofs.YtkpdfhbpdkifoaaGreatDoor
open Go
set_option maxRecDepth 100000
def znq(d:DatL):Prop:=(∀n∈d.nums,0≤n∧n≤4294967295)∧ -9223372036854775808≤d.ty∧d.ty≤9223372036854775807
def znp(r:RecL):Prop:=znq r.dat∧0≤r.ttl∧r.ttl≤4294967295
section
variable {H : Type} {enc : TypeId × Value → H} {P : Program} {w : World} {base : Nat} {sp : Nat → Bool} {held : Bool}
theorem zjE{t e:TypeId}{k:IntKind}{v:Value}(h:Rd enc P w base sp held t v)(ht:P.underlying t=some (.slice e))(hc:P.cellsOf e=1)(he:P.underlying e=some (.int k)):∃l:List Int,Row w v (l.map (.int k))∧∀n∈l,(Lit.int k n).wf=true:=by
 obtain⟨vals,hr,hall,_⟩:=zg4 h ht hc
 obtain⟨m,rfl,hm⟩:=zi8 (f:=fun n=>Value.int k n) (Q:=fun n=>(Lit.int k n).wf=true) (fun u hu=>by
  obtain⟨n,h1,h2⟩:=zlU (hall u hu).c he
  exact⟨n,by simpa using h1,h2⟩)
 exact⟨m,hr,hm⟩
theorem zlm{n:Int}(h:(Lit.int .u32 n).wf=true):0≤n∧n≤4294967295:=by
 simp[Lit.wf,IntKind.min,IntKind.max,IntKind.signed,IntKind.bits]at h
 omega
theorem wf_u86{n:Int}(h:(Lit.int .u8 n).wf=true):0≤n∧n≤255:=by
 simp[Lit.wf,IntKind.min,IntKind.max,IntKind.signed,IntKind.bits]at h
 omega
theorem zm4{l:List Int}(h:∀n∈l,(Lit.int .u8 n).wf=true):∃m:List UInt8,l.map (Value.int .u8)=m.map zao:=by
 induction l with
 |nil=>exact⟨[],rfl⟩
 |cons n l ih=>
  obtain⟨m,hm⟩:=ih (fun x hx=>h x (List.mem_cons_of_mem _ hx))
  have hb:=wf_u86 (h n (List.mem_cons_self ..))
  obtain⟨k,rfl⟩:∃k:Nat,n=(k:Int):=⟨n.toNat,by omega⟩
  exact⟨UInt8.ofNat k::m,by rw[List.map_cons,List.map_cons,hm,zct (by omega)]⟩
end
section
variable {H : Type} {enc : TypeId × Value → H} {w : World} {base : Nat} {sp : Nat → Bool} {held : Bool}
theorem wf_i64{n:Int}(h:(Lit.int .i64 n).wf=true): -9223372036854775808≤n∧n≤9223372036854775807:=by simpa [Lit.wf,IntKind.min,IntKind.max,IntKind.signed,IntKind.bits] using h
theorem rd_dataN{cs:List Value}(h:RdC enc Tryz.prog w base sp held 47 cs):∃d:DatL,DatAt w cs d∧znq d:=by
 obtain⟨hl,hf⟩:=zjF h rfl
 have hl5:cs.length=5:=hl
 match cs,hl5 with
 | [c0,c1,c2,c3,c4],_=>
  obtain⟨ty,e0,et⟩:=zlU (hf 0 _ rfl) rfl
  obtain⟨names,n1,_⟩:=rd_names (P:=Tryz.prog) (ts:=24) (tb:=9) (RdC.one (hf 1 _ rfl)) rfl rfl rfl rfl rfl rfl
  obtain⟨nums,n2,n3⟩:=zjE (RdC.one (hf 2 _ rfl)) rfl rfl rfl
  obtain⟨texts,n4,_⟩:=zfJ (P:=Tryz.prog) (RdC.one (hf 3 _ rfl)) (e:=9) rfl rfl rfl rfl
  obtain⟨raw,n5,n6⟩:=zjE (RdC.one (hf 4 _ rfl)) rfl rfl rfl
  obtain⟨rb,hrb⟩:=zm4 n6
  rw[hrb]at n5
  have e0':c0=vi ty:=List.head_eq_of_cons_eq (show [c0]=[vi ty] from e0)
  exact⟨⟨ty,names,nums,texts,rb⟩,⟨c1,c2,c3,c4,by rw[e0'],n1,n2,n4,n5⟩,fun n hn=>zlm (n3 n hn),wf_i64 et⟩
theorem rd_recN{cs:List Value}(h:RdC enc Tryz.prog w base sp held 49 cs):∃r:RecL,RecAt w cs r∧znp r:=by
 obtain⟨hl,hf⟩:=zjF h rfl
 have hl7:cs.length=7:=hl
 match cs,hl7 with
 | [c0,c1,c2,c3,c4,c5,c6],_=>
  obtain⟨owner,n0,_⟩:=zfJ (P:=Tryz.prog) (RdC.one (hf 0 _ rfl)) (e:=9) rfl rfl rfl rfl
  obtain⟨ttl,e1,et⟩:=zlU (hf 1 _ rfl) rfl
  obtain⟨d,hd,hn⟩:=rd_dataN (hf 2 _ rfl)
  have e1':c1=v32 ttl:=List.head_eq_of_cons_eq (show [c1]=[v32 ttl] from e1)
  have hd':DatAt w [c2,c3,c4,c5,c6] d:=hd
  exact⟨⟨owner,ttl,d⟩,⟨c0,[c2,c3,c4,c5,c6],by rw[e1'],n0,hd'⟩,hn,zlm et⟩
theorem rd_recsN{v:Value}(h:Rd enc Tryz.prog w base sp held 22 v):∃R:List RecL,Rows 7 (RecAt w) w v R∧∀r∈R,znp r:=by
 obtain⟨L,hL,hall,_⟩:=zlT h (e:=49) (k:=7) rfl rfl
 have:∀L:List (List Value),(∀cs∈L,RdC enc Tryz.prog w base sp held 49 cs)→∃R:List RecL,L.length=R.length∧(∀i (h:i<L.length) (h':i<R.length),RecAt w L[i] R[i])∧∀r∈R,znp r:=fun L=>by
  induction L with
  |nil=>intro _;exact⟨[],rfl,fun i h=>by simp at h,fun r h=>by cases h⟩
  |cons cs L ih=>
   intro h
   obtain⟨r,h1,h2⟩:=rd_recN (h cs (List.mem_cons_self ..))
   obtain⟨R,a1,a2,a3⟩:=ih (fun x hx=>h x (List.mem_cons_of_mem _ hx))
   refine⟨r::R,by simp[a1],fun i a b=>?_,fun x hx=>?_⟩
   ·cases i with
    |zero=>exact h1
    |succ i=>exact a2 i (by simpa using a) (by simpa using b)
   ·rcases List.mem_cons.1 hx with rfl|hx
    ·exact h2
    ·exact a3 x hx
 obtain⟨R,a1,a2,a3⟩:=this L hall
 exact⟨R,⟨L,hL,a1,a2⟩,a3⟩
end
set_option maxRecDepth 10000
theorem DatAt.cells{w0:World}{cs:List Value}{d:DatL}(h:DatAt w0 cs d):∃nm,cs[0]? =some (vi d.ty)∧cs[1]? =some nm∧NamesAt w0 nm d.names:=by
 obtain⟨nm,nu,tx,rw',rfl,h1,_⟩:=h.ex
 exact⟨nm,rfl,rfl,h1⟩
theorem zc0{w:World}{p:Option Addr}{k j:Nat}{cs:List Value}{u:Value}(h:zar w p k=some cs)(hj:cs[j]? =some u):zad w (adr p j)=some u:=by
 obtain⟨hj1,hj2⟩:=List.getElem?_eq_some_iff.1 hj
 have:=zaN h hj1
 rw[hj2]at this;exact this
section
variable {P : Program} {d : Option Tmp} {ty : TypeId} {ps : String} {af : Array Edge} {g : Option (Nat × Bool)} {ρ : Operand → Value} {w : World} {K : Value → World → Prop}
end
theorem Rows.low{α:Type}{k D:Nat}{C:List Value→α→Prop}{w x:World}{v:Value}{xs:List α}{S:Nat→Prop}(h:Rows k C w v xs)(hlow:∀a n c,v= .slice (some a) n c→a.block<D)(hk:Keep S w x)(hS:∀b,b<D→¬S b)(hD:D≤w.heap.size):Rows k C x v xs:=
 h.blocks fun a n c hv=>hk.block _ (by have:=hlow a n c hv;omega) (hS _ (hlow a n c hv))
theorem Row.low{D:Nat}{w x:World}{v:Value}{l:List Value}{S:Nat→Prop}(h:Row w v l)(hlow:∀a n c,v= .slice (some a) n c→a.block<D)(hk:Keep S w x)(hS:∀b,b<D→¬S b)(hD:D≤w.heap.size):Row x v l:=
 h.blocks fun a n c hv=>hk.block _ (by have:=hlow a n c hv;omega) (hS _ (hlow a n c hv))
theorem off_of{y:Addr}{n:Nat}(h:y.block<n):offS (zcK n) (some y):=fun a ha hb=>by
 cases ha
 unfold zcK at hb
 exact absurd (show n≤y.block from hb) (by omega)
theorem Rows.mapM{α β:Type}{k:Nat}{C:List Value→α→Prop}{C':List Value→β→Prop}{w:World}{v:Value}{xs:List α}(h:Rows k C w v xs)(f:α→β)(hC:∀cs x,x∈xs→C cs x→C' cs (f x)):Rows k C' w v (xs.map f):=by
 obtain⟨L,h1,h2,h3⟩:=h
 refine⟨L,h1,by rw[List.length_map];exact h2,fun i h h'=>?_⟩
 rw[List.length_map]at h'
 rw[List.getElem_map]
 exact hC _ _ (List.getElem_mem h') (h3 i h h')
def zih(n:Nm):Bool:=few n && decide (zaL n=0)
theorem zb6{n:Nm}(h:zaL n=0):∀l∈n,l≠ []∧l.length≤63:=by
 intro l hl
 unfold zaL at h
 cases hf:n.find? (fun l=>decide (errL l≠0)) with
 |some x=>
  rw[hf]at h
  have:=List.find?_some hf
  simp only[decide_eq_true_eq]at this
  exact absurd h this
 |none=>
  have:=List.find?_eq_none.1 hf l hl
  simp only[decide_eq_true_eq,Decidable.not_not]at this
  unfold errL at this
  split at this
  ·cases this
  ·rename_i h0
   refine⟨h0,?_⟩
   split at this
   ·cases this
   ·omega
theorem sum_ge:∀n:Nm,n.length≤(n.map fun l=>1+l.length).sum
 | []=>Nat.zero_le _
 |a::n=>by
  have ih:=sum_ge n
  rw[List.map_cons,List.sum_cons]
  have e:(a::n).length=n.length+1:=rfl
  omega
theorem zeV{n:Nm}(h:zaL n=0):n.length≤255:=by
 have hl:=zb6 h
 unfold zaL at h
 split at h
 ·rename_i x hf
  have:=List.find?_some hf
  simp only[decide_eq_true_eq]at this
  exact absurd h this
 ·split at h
  ·cases h
  ·rename_i h2
   unfold lenN at h2
   have:=sum_ge n
   omega
theorem zkl(w:World)(a:Value)(xs:Nm)(ha:Row w a (xs.map vs)):
  Fn Tryz.prog 6 #[a] w (fun v w'=>v= .bool (zih xs)∧Ext w w'):=by
 refine enter Tryz.func6 Tryz.ntmps6 rfl rfl ?_
 repeat refine c_r ?_
 refine rg0 ?_
 repeat refine c_r ?_
 cases hf:few xs with
 |true=>
  refine rq ?_;intro gd K hgd hK
  have hg2:∀n σ b,zaE gd n σ (some (2,b))=zap (ev n σ (.tmp 5)) b:=(fun n σ b=>by rw[zag,show gd 2=some 5 from(by rw[hgd];rfl)];rfl)
  try simp only[go_sem]
  refine Fn.mono (ziQ w a xs ha) ?_
  rintro _ w1 ⟨rfl,hE1⟩
  rw[hf]
  try simp (disch:=first|omega|assumption|rfl) only[go_sem,↓hg2]
  refine Fn.mono (zc7 w1 a xs (ha.ext hE1) (fun l hl=>by
   have:=few_lb hf l hl
   simp only[few,Bool.and_eq_true,List.all_eq_true,decide_eq_true_eq]at hf
   have:=hf.2 l hl
   omega) (by have:=few_len hf;omega)) ?_
  rintro _ w2 ⟨rfl,hE2⟩
  try simp (disch:=first|omega|assumption|rfl) only[go_sem,↓hg2]
  refine hK _ _ ?_;clear hK hgd;clear K;try clear gd
  repeat refine c_r ?_
  refine rt0 Tryz.ntmps6 ?_
  refine⟨?_,hE1.trans hE2⟩
  unfold zih
  rw[hf,Bool.true_and]
 |false=>
  refine rq ?_;intro gd K hgd hK
  have hg2:∀n σ b,zaE gd n σ (some (2,b))=zap (ev n σ (.tmp 5)) b:=(fun n σ b=>by rw[zag,show gd 2=some 5 from(by rw[hgd];rfl)];rfl)
  try simp only[go_sem]
  refine Fn.mono (ziQ w a xs ha) ?_
  rintro _ w1 ⟨rfl,hE1⟩
  rw[hf]
  try simp (disch:=first|omega|assumption|rfl) only[go_sem,↓hg2]
  refine hK _ _ ?_;clear hK hgd;clear K;try clear gd
  repeat refine c_r ?_
  refine rt0 Tryz.ntmps6 ?_
  refine⟨?_,hE1⟩
  unfold zih
  rw[hf,Bool.false_and]
theorem zcu(b:Bool):zap undef b=false:=nr rfl
structure DatF(d:DatL):Prop where
 names:∀n∈d.names,(∀l∈n,l.length≤1000000000)∧n.length≤1000000000
 nn:d.names.length≤1000000000
 nu:d.nums.length≤1000000000
 nt:d.texts.length≤1000000000
 tl:∀l∈d.texts,l.length≤1000000000
 nr:d.raw.length≤1000000000
 n8:d.names.length≤8
 f4:d.nums.length≤12∧d.texts.length≤40∧(∀l∈d.texts,l.length≤300)∧d.raw.length≤1100∧∀n∈d.names,few n=true
structure DatX(w0:World)(B:Nat)(A:World)(nm:Value)(cs:List Value)(d:DatL):Prop where
 ex:∃nu tx rw vals,cs=[vi d.ty,nm,nu,tx,rw]∧Row A nm vals∧vals.length=d.names.length∧(∀i (h:i<vals.length) (h':i<d.names.length),Row w0 vals[i] (d.names[i].map vs))∧Row w0 nu (d.nums.map v32)∧Row w0 tx (d.texts.map vs)∧Row w0 rw (d.raw.map zao)
 blk:BlkB B A nm
theorem DatX.at{w0 A:World}{B:Nat}{nm:Value}{cs:List Value}{d:DatL}(h:DatX w0 B A nm cs d)(hE:Ext w0 A):DatAt A cs d:=by
 obtain⟨nu,tx,rw,vals,e,h1,h2,h3,h4,h5,h6⟩:=h.ex
 exact⟨nm,nu,tx,rw,e,⟨vals,h1,h2,fun i a b=>(h3 i a b).ext hE⟩,h4.ext hE,h5.ext hE,h6.ext hE⟩
theorem DatX.keep{w0 A x:World}{B:Nat}{nm:Value}{cs:List Value}{d:DatL}(h:DatX w0 B A nm cs d){S:Nat→Prop}(hk:Keep S A x)(hS:∀a n c,nm= .slice (some a) n c→¬S a.block):DatX w0 B x nm cs d:=by
 obtain⟨nu,tx,rw,vals,e,h1,h2,h3,h4,h5,h6⟩:=h.ex
 exact⟨⟨nu,tx,rw,vals,e,h1.blocks fun a n c hv=>hk.block _ (h.blk a n c hv).2 (hS a n c hv),h2,h3,h4,h5,h6⟩,h.blk.ext hk.size⟩
theorem DatX.mono{w0 A:World}{B B':Nat}{nm:Value}{cs:List Value}{d:DatL}(h:DatX w0 B A nm cs d)(hB:B'≤B):DatX w0 B' A nm cs d:=⟨h.ex,h.blk.mono hB⟩
theorem DOf_ok{w0 w:World}(hE0:Ext w0 w){cs:List Value}{d:DatL}(hd:DatAt w0 cs d)(hnn:d.names.length≤1000000000):
  Fn Tryz.prog 48 #[.agg cs.toArray] w (fun v w'=>Ext w w'∧∃cs' nm,v= .agg cs'.toArray∧DatX w0 w.heap.size w' nm cs' d):=by
 obtain⟨nm,nu,tx,rw',rfl,⟨vals,⟨an,cn,rfl,hcn,hgn⟩,hvl,hvr⟩,hnu,htx,hrw⟩:=hd.ex
 obtain⟨au,cu,rfl,_⟩:=id hnu
 obtain⟨at1,ct,rfl,_⟩:=id htx
 obtain⟨ar,cr,rfl,_⟩:=id hrw
 refine enter Tryz.func48 Tryz.ntmps48 rfl rfl ?_
 repeat refine c_r ?_
 refine rg0 ?_
 repeat refine c_r ?_
 rw[zax]
 refine zb7 ?_
 intro w1 hE1 hs1 hA hC
 have p0:zad w1 (some ⟨w.heap.size,0,Option.none⟩)=some (vi d.ty):=zaa hA rfl
 have p1:zad w1 (some ⟨w.heap.size,1,Option.none⟩)=some (.slice an vals.length cn):=zaa hA rfl
 have p2:zad w1 (some ⟨w.heap.size,2,Option.none⟩)=some (.slice au (d.nums.map v32).length cu):=zaa hA rfl
 have p3:zad w1 (some ⟨w.heap.size,3,Option.none⟩)=some (.slice at1 (d.texts.map vs).length ct):=zaa hA rfl
 have p4:zad w1 (some ⟨w.heap.size,4,Option.none⟩)=some (.slice ar (d.raw.map zao).length cr):=zaa hA rfl
 refine rq ?_;intro gd K hgd hK
 try simp (disch:=first|omega|assumption|rfl) only[go_sem,p0,p2,p3,p4,Nat.add_zero,Nat.zero_add]
 refine⟨by kernel_rfl,?_⟩
 rw[show bdV Tryz.prog 55 [(0,vi d.ty),(2,.slice au (d.nums.map v32).length cu),(3,.slice at1 (d.texts.map vs).length ct),(4,.slice ar (d.raw.map zao).length cr)]=some (.agg #[vi d.ty,.slice Option.none 0 0,.slice au (d.nums.map v32).length cu,.slice at1 (d.texts.map vs).length ct,.slice ar (d.raw.map zao).length cr]) from by kernel_rfl]
 try simp only[go_sem]
 have hB3:=zat w1 (.cells #[vi 0,.slice Option.none 0 0,.slice Option.none 0 0,.slice Option.none 0 0,.slice Option.none 0 0] 55 (0,0))
 have hE4:=Ext.alloc w1 (.cells #[vi 0,.slice Option.none 0 0,.slice Option.none 0 0,.slice Option.none 0 0,.slice Option.none 0 0] 55 (0,0))
 have hs4:=zax w1 (.cells #[vi 0,.slice Option.none 0 0,.slice Option.none 0 0,.slice Option.none 0 0,.slice Option.none 0 0] 55 (0,0))
 revert hB3 hE4 hs4
 generalize w1.alloc (.cells #[vi 0,.slice Option.none 0 0,.slice Option.none 0 0,.slice Option.none 0 0,.slice Option.none 0 0] 55 (0,0))=w2
 intro hB3 hE4 hs4
 refine zaR (P:=Tryz.prog) (t:=55) (l:=[vi d.ty,.slice Option.none 0 0,.slice au (d.nums.map v32).length cu,.slice at1 (d.texts.map vs).length ct,.slice ar (d.raw.map zao).length cr]) hB3 rfl (fun v h=>by simp at h;rcases h with rfl|rfl|rfl|rfl|rfl<;>rfl) rfl rfl ?_
 intro w3 hs5 hB5 hk5
 try simp only[go_sem]
 refine hK _ _ ?_;clear hK hgd;clear K;try clear gd
 have hE13:Ext w1 w3:=Keep.to_ext hE4 rfl (fun b hb=>by omega) hk5
 obtain⟨b3,hb3⟩:∃b3,w1.heap.size=b3:=⟨_,rfl⟩
 rw[hb3]at hB5
 have hs3:w3.heap.size=b3+1:=by omega
 repeat refine c_r ?_
 refine rg0 ?_
 repeat refine c_r ?_
 rw[hb3]
 refine zaD (fun m σ ds A=>ds=[]∧∃(i:Nat) (nv:Value),i+m=vals.length∧σ 4=vi i∧σ 1= .pointer (some ⟨w.heap.size,0,Option.none⟩)∧σ 2= .pointer (some ⟨w.heap.size+1,0,Option.none⟩)∧σ 3= .pointer (some ⟨b3,0,Option.none⟩)∧A.heap[b3]? =some (.cells [vi d.ty,nv,.slice au (d.nums.map v32).length cu,.slice at1 (d.texts.map vs).length ct,.slice ar (d.raw.map zao).length cr].toArray 55 (0,0))∧Own w3.heap.size A 23 nv (vals.take i)∧Ext w1 A∧w3.heap.size≤A.heap.size) vals.length ?_ ?_
 ·exact⟨rfl,0,.slice Option.none 0 0,by omega,vr0,vq0,vq0,vq0,hB5,Own.nil _ _ _,hE13,Nat.le_refl _⟩
 rintro m σ ds A ⟨rfl,i,nv,him,h4,h1,h2,h3,hb,hown,hEA,hsA⟩
 have q1:=zab hEA p1
 have s1:=hE1.size
 repeat refine c_r ?_
 refine rg4 h4 h1 q1 Nat.zero_add ?_
 repeat refine c_r ?_
 refine wc0 ?_ ?_
 ·intro hlt
  simp only[decide_eq_true_eq]at hlt
  have hi:i<vals.length:=by omega
  have hi0:(0:Int)≤(i:Int):=by omega
  have hi1:(i:Int)<(vals.length:Int):=by omega
  have hi1':(i:Int)+1=((i+1:Nat):Int):=by push_cast;rfl
  have hgi:=hgn i hi
  obtain⟨xN,rfl⟩:=Option.isSome_iff_exists.1 (zai hgi)
  obtain⟨xi,hxi⟩:∃xi,adr (some xN) i=some xi:=⟨_,rfl⟩
  rw[hxi]at hgi
  have hgA:=zab (hE0.trans (hE1.trans hEA)) hgi
  have hxb:xi.block<w3.heap.size:=by
   have:=zf7 (show w0.cell? xi=some _ from hgi)
   have:=(hE0.trans (hE1.trans hE13)).size
   omega
  have hrow:=hvr i hi (by omega)
  obtain⟨hv,hhv⟩:∃hv,vals[i]=hv:=⟨_,rfl⟩
  rw[hhv]at hgA hrow
  obtain⟨ha,hc,hve,_⟩:=id hrow
  have hone:one hv=true:=by rw[hve];rfl
  have htk:vals.take (i+1)=vals.take i++ [hv]:=by rw[zak hi,hhv]
  have hnv:zad A (some ⟨b3,1,Option.none⟩)=some nv:=za2 hb rfl
  have hvals:(vals.take i).length≤1000000000:=by rw[List.length_take];omega
  repeat refine c_r ?_
  refine zaF (fun i=>i==10) [(0,true),(1,true),(2,true),(3,true),(4,true),(5,true),(6,true),(7,false),(8,false),(9,true),(10,false)] (zcK w3.heap.size) mixed (by kernel_rfl) ?_;intro gd K x hgd hx hxe hK;have hx0:=zaT hxe;clear hxe
  have hgx:=zab hx0 hgA
  have hnx:=zab hx0 hnv
  have q1x:=zab hx0 q1
  have hxs:=hx.size
  simp (disch:=first|omega|assumption|rfl) only[go_sem,h4,h1,h3,q1x,hgx,hnx,hi0,hi1,hxi,Nat.zero_add,Nat.mul_one]
  refine⟨zbu (by omega),zbu (by omega),off_of hxb,?_⟩
  refine zbk (z:= .slice Option.none 0 0) (v:=hv) (by rfl) (by rfl) (by rfl) (by rfl) (by rw[hve];rfl) ?_
  intro w5 hE5 hs5 ho5
  refine⟨.inr hE5.keep,?_⟩
  simp (disch:=first|omega|assumption|rfl) only[go_sem]
  have hx5:=hx0.trans hE5
  have hx5s:=hx5.size
  refine za8 (hown.ext hx5) ho5.row rfl rfl rfl rfl rfl rfl (vr0) (vr0) (fun q hq=>by rw[List.mem_singleton.1 hq];exact hone) (by rw[List.length_singleton];omega) (by decide) (by omega) ?_
  intro v7 w7 ho7 hE7 hk7 hb7
  refine⟨.inr (hk7.mono fun b _ hb=>by have:=(hown.ge hb).1;show _≤_;omega),?_⟩
  simp (disch:=first|omega|assumption|rfl) only[go_sem,h3]
  have hk7s:=hk7.size
  obtain⟨a7,c7,hv7⟩:=ho7.slice
  have hb3w:w7.heap[b3]? =some (.cells [vi d.ty,nv,.slice au (d.nums.map v32).length cu,.slice at1 (d.texts.map vs).length ct,.slice ar (d.raw.map zao).length cr].toArray 55 (0,0)):=(hk7.block b3 (by omega) (fun h=>by have:=(hown.ge h).1;omega)).trans (Ext.at hx5 hb)
  refine zdc (P:=Tryz.prog) (t:=53) (j:=1) (l:=[vi d.ty,nv,.slice au (d.nums.map v32).length cu,.slice at1 (d.texts.map vs).length ct,.slice ar (d.raw.map zao).length cr]) hb3w (by simp) (by rw[hv7];rfl) rfl rfl ?_
  intro z hz' hbz hkz
  refine⟨.inl rfl,?_⟩
  simp (disch:=first|omega|assumption|rfl) only[go_sem]
  refine hK _ _ ?_;clear hK hgd;clear K;try clear gd
  have hEz:Ext w1 z:=Keep.to_ext (hE7 w1 (hEA.trans hx5) (by omega)) rfl (fun b hb=>by omega) hkz
  repeat refine c_r ?_
  refine rg2 h4 hi1' ?_
  repeat refine c_r ?_
  exact⟨m - 1,by omega,rfl,i+1,v7,by omega,vq0,(vq1 h1),(vq1 h2),(vq1 h3),hbz,by rw[htk];exact ho7.keep hkz (fun b hb h=>by have:=(ho7.ge hb).1;omega),hEz,by omega⟩
 ·intro hge
  simp only[decide_eq_false_iff_not]at hge
  have hi:i=vals.length:=by omega
  rw[hi,List.take_length]at hown
  obtain⟨na,nc,hnv⟩:=hown.slice
  repeat refine c_r ?_
  refine rq ?_;intro gd K hgd hK
  have d5:=zal (n:=5) hb rfl
  try simp (disch:=first|omega|assumption|rfl) only[go_sem,h3,h2,d5]
  refine zaR (P:=Tryz.prog) (t:=55) (l:=[vi d.ty,nv,.slice au (d.nums.map v32).length cu,.slice at1 (d.texts.map vs).length ct,.slice ar (d.raw.map zao).length cr]) (Ext.at hEA hC) rfl (fun v h=>by
   simp at h
   rcases h with rfl|rfl|rfl|rfl|rfl
   ·rfl
   ·rw[hnv];rfl
   ·rfl
   ·rfl
   ·rfl) rfl rfl ?_
  intro z hz' hbz hkz
  try simp only[go_sem]
  refine hK _ _ ?_;clear hK hgd;clear K;try clear gd
  repeat refine c_r ?_
  refine zaf (.inr rfl) Tryz.ntmps48 rfl (zaW (x:=⟨w.heap.size+1,0,Option.none⟩) (k:=5) ((vq1 h2)) rfl rfl (zal hbz rfl) zae) ?_
  have hEz:Ext w z:=Keep.to_ext (hE1.trans hEA) rfl (fun b hb=>by omega) hkz
  have hownz:=hown.keep hkz (fun b hb h=>by have:=(hown.ge hb).1;omega)
  refine⟨hEz,_,nv,rfl,⟨⟨_,_,_,vals,rfl,hownz.row,hvl,hvr,hnu,htx,hrw⟩,fun a n c hv=>?_⟩⟩
  have:=hownz.ge (b:=a.block) (by rw[hv];rfl)
  omega
theorem DatAt.open{w:World}{cs:List Value}{d:DatL}(h:DatAt w cs d):∃a1 n1 c1 a2 n2 c2 a3 n3 c3 a4 n4 c4,cs=[vi d.ty,.slice a1 n1 c1,.slice a2 n2 c2,.slice a3 n3 c3,.slice a4 n4 c4]:=by
 obtain⟨nm,nu,tx,rw',rfl,⟨vals,⟨an,cn,rfl,_⟩,_⟩,⟨au,cu,rfl,_⟩,⟨at1,ct,rfl,_⟩,⟨ar,cr,rfl,_⟩⟩:=h.ex
 exact⟨_,_,_,_,_,_,_,_,_,_,_,_,rfl⟩
theorem DatX.open{w0 A:World}{B:Nat}{nm:Value}{cs:List Value}{d:DatL}(h:DatX w0 B A nm cs d):∃a1 n1 c1 a2 n2 c2 a3 n3 c3 a4 n4 c4,cs=[vi d.ty,.slice a1 n1 c1,.slice a2 n2 c2,.slice a3 n3 c3,.slice a4 n4 c4]:=by
 obtain⟨nu,tx,rw,vals,e,⟨a1,c1,rfl,_⟩,h2,h3,⟨a4,c4,rfl,_⟩,⟨a5,c5,rfl,_⟩,⟨a6,c6,rfl,_⟩⟩:=h.ex
 exact⟨_,_,_,_,_,_,_,_,_,_,_,_,e⟩
structure RecX(w0:World)(B:Nat)(A:World)(nm:Value)(cs:List Value)(r:RecL):Prop where
 ex:∃ow ds,cs=ow::v32 r.ttl::ds∧Row w0 ow (r.owner.map vs)∧DatX w0 B A nm ds r.dat
theorem RecX.at{w0 A:World}{B:Nat}{nm:Value}{cs:List Value}{r:RecL}(h:RecX w0 B A nm cs r)(hE:Ext w0 A):RecAt A cs r:=by
 obtain⟨ow,ds,e,h1,h2⟩:=h.ex
 exact⟨ow,ds,e,h1.ext hE,h2.at hE⟩
theorem RecX.keep{w0 A x:World}{B:Nat}{nm:Value}{cs:List Value}{r:RecL}(h:RecX w0 B A nm cs r){S:Nat→Prop}(hk:Keep S A x)(hS:∀a n c,nm= .slice (some a) n c→¬S a.block):RecX w0 B x nm cs r:=by
 obtain⟨ow,ds,e,h1,h2⟩:=h.ex
 exact⟨ow,ds,e,h1,h2.keep hk hS⟩
theorem RecX.mono{w0 A:World}{B B':Nat}{nm:Value}{cs:List Value}{r:RecL}(h:RecX w0 B A nm cs r)(hB:B'≤B):RecX w0 B' A nm cs r:=by
 obtain⟨ow,ds,e,h1,h2⟩:=h.ex
 exact⟨ow,ds,e,h1,h2.mono hB⟩
theorem RecX.blk{w0 A:World}{B:Nat}{nm:Value}{cs:List Value}{r:RecL}(h:RecX w0 B A nm cs r):BlkB B A nm:=by
 obtain⟨ow,ds,e,h1,h2⟩:=h.ex
 exact h2.blk
theorem RecX.cells{w0 A:World}{B:Nat}{nm:Value}{cs:List Value}{r:RecL}(h:RecX w0 B A nm cs r):cs.length=7∧∀q∈cs,one q=true:=by
 obtain⟨ow,ds,e,⟨a,c,rfl,_⟩,h2⟩:=h.ex
 obtain⟨b1,m1,e1,b2,m2,e2,b3,m3,e3,b4,m4,e4,hds⟩:=h2.open
 rw[e,hds]
 refine⟨rfl,fun q hq=>?_⟩
 simp at hq
 rcases hq with rfl|rfl|rfl|rfl|rfl|rfl|rfl<;>rfl
theorem znl{w0 w:World}(hE0:Ext w0 w){cs:List Value}{r:RecL}(hr:RecAt w0 cs r)(hnn:r.dat.names.length≤1000000000):
  Fn Tryz.prog 18 #[.agg cs.toArray] w (fun v w'=>Ext w w'∧∃cs' nm,v= .agg cs'.toArray∧RecX w0 w.heap.size w' nm cs' r):=by
 obtain⟨ow,ds,rfl,h1,h2⟩:=hr.ex
 obtain⟨oa,oc,how,_⟩:=id h1
 obtain⟨on,hon⟩:∃on,(r.owner.map vs).length=on:=⟨_,rfl⟩
 rw[hon]at how
 obtain⟨b1,m1,e1,b2,m2,e2,b3,m3,e3,b4,m4,e4,hds⟩:=h2.open
 rw[hds,how]
 refine enter Tryz.func18 Tryz.ntmps18 rfl rfl ?_
 repeat refine c_r ?_
 refine rg0 ?_
 repeat refine c_r ?_
 rw[zax]
 refine zb7 ?_
 intro w1 hE1 hs1 hA hC
 have p0:zad w1 (some ⟨w.heap.size,0,Option.none⟩)=some (.slice oa on oc):=zaa hA rfl
 have p1:zad w1 (some ⟨w.heap.size,1,Option.none⟩)=some (v32 r.ttl):=zaa hA rfl
 have p2:zar w1 (some ⟨w.heap.size,2,Option.none⟩) 5=some [vi r.dat.ty,.slice b1 m1 e1,.slice b2 m2 e2,.slice b3 m3 e3,.slice b4 m4 e4]:=by
  have h7:=zal (n:=7) (l:=[.slice oa on oc,v32 r.ttl,vi r.dat.ty,.slice b1 m1 e1,.slice b2 m2 e2,.slice b3 m3 e3,.slice b4 m4 e4]) hA rfl
  have:=zbI (m:=2) (k:=5) h7
  rwa [zaZ]at this
 refine zaF (fun i=>i==8) [(0,true),(1,true),(2,true),(3,true),(4,true),(5,true),(6,false),(7,true),(8,false)] NoS mixed (by kernel_rfl) ?_;intro gd K x hgd hx hxe hK;clear hxe
 have p0x:=zab hx p0
 have p1x:=zab hx p1
 have p2x:=zah hx p2
 have hxs:=hx.size
 simp (disch:=first|omega|assumption|rfl) only[go_sem,p0x,p1x,p2x,Nat.add_zero,Nat.zero_add]
 rw[←hds]
 refine Fn.mono (DOf_ok (hE0.trans (hE1.trans hx)) h2 hnn) ?_
 rintro _ w2 ⟨hE2,cs',nm',rfl,hd'⟩
 refine⟨.inr hE2,?_⟩
 obtain⟨b1',m1',e1',b2',m2',e2',b3',m3',e3',b4',m4',e4',hds'⟩:=hd'.open
 rw[hds']
 simp (disch:=first|omega|assumption|rfl) only[go_sem,p0x,p1x,p2x,Nat.add_zero,Nat.zero_add]
 refine⟨by kernel_rfl,?_⟩
 rw[show bdV Tryz.prog 57 [(0,.slice oa on oc),(1,v32 r.ttl),(2,.agg [vi r.dat.ty,.slice b1' m1' e1',.slice b2' m2' e2',.slice b3' m3' e3',.slice b4' m4' e4'].toArray)]=some (.agg #[.slice oa on oc,v32 r.ttl,vi r.dat.ty,.slice b1' m1' e1',.slice b2' m2' e2',.slice b3' m3' e3',.slice b4' m4' e4']) from by kernel_rfl]
 simp (disch:=first|omega|assumption|rfl) only[go_sem]
 refine zaR (P:=Tryz.prog) (t:=57) (l:=[.slice oa on oc,v32 r.ttl,vi r.dat.ty,.slice b1' m1' e1',.slice b2' m2' e2',.slice b3' m3' e3',.slice b4' m4' e4']) (Ext.at (hx.trans hE2) hC) rfl (fun v h=>by simp at h;rcases h with rfl|rfl|rfl|rfl|rfl|rfl|rfl<;>rfl) rfl rfl ?_
 intro z hz' hbz hkz
 refine⟨.inl rfl,?_⟩
 simp (disch:=first|omega|assumption|rfl) only[go_sem]
 refine hK _ _ ?_;clear hK hgd;clear K;try clear gd
 repeat refine c_r ?_
 refine zaf (.inr rfl) Tryz.ntmps18 rfl (zaW (x:=⟨w.heap.size+1,0,Option.none⟩) (k:=7) (vq0) rfl rfl (zal hbz rfl) zae) ?_
 have hEz:Ext w z:=Keep.to_ext (hE1.trans (hx.trans hE2)) rfl (fun b hb=>by omega) hkz
 refine⟨hEz,_,nm',rfl,⟨ow,cs',?_,h1,?_⟩⟩
 ·rw[how,hds']
 ·exact(hd'.keep hkz (fun a n c hv=>by have:=hd'.blk a n c hv;omega)).mono (by omega)
abbrev OX:=RecL×(Value×List Value)
def oxC(cs:List Value)(x:OX):Prop:=cs=x.2.2∧cs.length=7∧∀q∈cs,one q=true
theorem zjN:zgf 7 oxC:=⟨fun h=>h.2.1,fun h=>h.2.2⟩
structure OI(w0:World)(B:Nat)(A:World)(ov:Value)(G:List OX):Prop where
 own:Owns 7 oxC B A 57 ov G
 row:∀x∈G,RecX w0 B A x.2.1 x.2.2 x.1∧∀a n c,x.2.1= .slice (some a) n c→some a.block≠ov.ownBlock
theorem OI.ext{w0 A A':World}{B:Nat}{ov:Value}{G:List OX}(h:OI w0 B A ov G)(hE:Ext A A'):OI w0 B A' ov G:=
 ⟨h.own.ext hE,fun x hx=>by
  obtain⟨h1,h2⟩:=h.row x hx
  exact⟨h1.keep hE (fun a n c hv h=>h),h2⟩⟩
theorem OI.app{w0 A A':World}{B:Nat}{ov v':Value}{G:List OX}{s:OX}(h:OI w0 B A ov G)(hs:RecX w0 B A s.2.1 s.2.2 s.1∧∀a n c,s.2.1= .slice (some a) n c→some a.block≠ov.ownBlock)
  (ho:Owns 7 oxC B A' 57 v' (G++ [s])) (hk:Keep (fun b=>some b=ov.ownBlock) A A') (hb:∀b,some b=v'.ownBlock→some b=ov.ownBlock∨A.heap.size≤b):OI w0 B A' v' (G++ [s]):=by
 refine⟨ho,fun y hy=>?_⟩
 have hy2:RecX w0 B A y.2.1 y.2.2 y.1∧∀a n c,y.2.1= .slice (some a) n c→some a.block≠ov.ownBlock:=by
  rcases List.mem_append.1 hy with hy|hy
  ·exact h.row y hy
  ·rw[List.mem_singleton.1 hy];exact hs
 obtain⟨h1,h2⟩:=hy2
 refine⟨h1.keep hk h2,fun a n c hv e=>?_⟩
 rcases hb _ e with e|e
 ·exact h2 a n c hv e
 ·have:=(h1.blk a n c hv).2;omega
theorem zno{w0 w:World}(hE0:Ext w0 w){lv:Value}{R:List RecL}(hl:Rows 7 (RecAt w0) w lv R)(hnn:∀r∈R,r.dat.names.length≤1000000000)(hlen:R.length≤1000000000):
  Fn Tryz.prog 12 #[lv] w (fun v w'=>Ext w w'∧∃G:List OX,OI w0 w.heap.size w' v G∧G.map Prod.fst=R):=by
 obtain⟨aR,cR,rfl,hcR,hgR⟩:=hl.open
 refine enter Tryz.func12 Tryz.ntmps12 rfl rfl ?_
 repeat refine c_r ?_
 refine rg0 ?_
 repeat refine c_r ?_
 refine rg0 ?_
 repeat refine c_r ?_
 refine rg0 ?_
 repeat refine c_r ?_
 refine zaD (fun m σ ds A=>ds=[]∧∃(i:Nat) (ov:Value) (G:List OX),i+m=R.length∧σ 4=vi i∧σ 3=ov∧σ 0= .slice aR R.length cR∧Ext w A∧OI w0 w.heap.size A ov G∧G.map Prod.fst=R.take i) R.length ?_ ?_
 ·exact⟨rfl,0,.slice Option.none 0 0,[],by omega,vr0,vq0,vq0,Keep.refl _ _,⟨Owns.nil _ _ _ _ _,fun x h=>absurd h (by simp)⟩,rfl⟩
 rintro m σ ds A ⟨rfl,i,ov,G,him,h4,h3,h0,hEA,hOI,hG⟩
 repeat refine c_r ?_
 refine rg2 h4 h0 ?_
 repeat refine c_r ?_
 refine wc0 ?_ ?_
 ·intro hlt
  simp only[decide_eq_true_eq]at hlt
  have hi:i<R.length:=by omega
  have hi0:(0:Int)≤(i:Int):=by omega
  have hi1:(i:Int)<(R.length:Int):=by omega
  have hi1':(i:Int)+1=((i+1:Nat):Int):=by push_cast;rfl
  have hGl:G.length=i:=by
   have:=congrArg List.length hG
   simp at this;omega
  obtain⟨cr,hcr,hRr⟩:=hgR i hi
  obtain⟨r,hr⟩:∃r,R[i]=r:=⟨_,rfl⟩
  rw[hr]at hRr
  have hrn:=hnn r (hr▸List.getElem_mem hi)
  obtain⟨xR,rfl⟩:=Option.isSome_iff_exists.1 (zav hcr)
  obtain⟨xi,hxi⟩:∃xi,adr (some xR) (i*7)=some xi:=⟨_,rfl⟩
  rw[hxi]at hcr
  have hcA:=zah hEA hcr
  repeat refine c_r ?_
  refine rq ?_;intro gd K hgd hK
  try simp (disch:=first|omega|assumption|rfl) only[go_sem,h3,h0,h4,hi0,hi1,hxi,hcA]
  refine Fn.mono (znl (hE0.trans hEA) hRr hrn) ?_
  rintro _ A2 ⟨hA2,cs',nm',rfl,hx⟩
  have hA2s:=hA2.size
  have hEAs:=hEA.size
  try simp only[go_sem]
  refine zc2 (l:=cs') (a:=((r,(nm',cs')):OX)) zjN rfl rfl rfl rfl ⟨rfl,hx.cells.1,hx.cells.2⟩ (by decide) ?_
  intro A3 hA3 hs3 ho3
  try simp (disch:=first|omega|assumption|rfl) only[go_sem,h3]
  refine zbU zjN ((hOI.ext hA2).ext hA3).own ho3.rows rfl rfl rfl rfl rfl rfl (by decide) (vr0) (vr0) (by simp;omega) (by decide) (by omega) ?_
  intro v7 A4 ho7 hE7 hk7 hb7
  try simp only[go_sem]
  refine hK _ _ ?_;clear hK hgd;clear K;try clear gd
  have hnew:=((hOI.ext hA2).ext hA3).app (s:=((r,(nm',cs')):OX)) ⟨(hx.keep hA3 (fun a n c hv h=>h)).mono hEAs,fun a n c hv e=>by
   have h8:=(hx.blk a n c hv).1
   have h9:=(hOI.own.ge e).2
   omega⟩ ho7 hk7 hb7
  repeat refine c_r ?_
  refine rg2 h4 hi1' ?_
  repeat refine c_r ?_
  exact⟨m - 1,by omega,rfl,i+1,v7,_,by omega,vq0,vq0,(vq1 h0),hE7 w ((hEA.trans hA2).trans hA3) (Nat.le_refl _),hnew,by rw[List.map_append,hG,zak hi,hr];rfl⟩
 ·intro hge
  simp only[decide_eq_false_iff_not]at hge
  have hi:i=R.length:=by omega
  rw[hi,List.take_length]at hG
  repeat refine c_r ?_
  refine rg1 h3 ?_
  repeat refine c_r ?_
  refine rt0 Tryz.ntmps12 ?_
  exact⟨hEA,G,hOI,hG⟩
theorem OI.rows{w0 A:World}{B:Nat}{ov:Value}{G:List OX}(h:OI w0 B A ov G)(hE:Ext w0 A):Rows 7 (RecAt A) A ov (G.map Prod.fst):=
 h.own.rows.mapM (C':=RecAt A) Prod.fst fun cs x hx hc=>by
  rw[hc.1]
  exact(h.row x hx).1.at hE
theorem zkk{w0 w:World}(hE0:Ext w0 w){lv:Value}{R:List RecL}(hl:Rows 7 (RecAt w0) w lv R)(hnn:∀r∈R,r.dat.names.length≤1000000000)(hlen:R.length≤1000000000):
  Fn Tryz.prog 12 #[lv] w (fun v w'=>Ext w w'∧Rows 7 (RecAt w') w' v R):=by
 refine Fn.mono (zno hE0 hl hnn hlen) ?_
 rintro v w' ⟨hE,G,hOI,rfl⟩
 exact⟨hE,hOI.rows (hE0.trans hE)⟩
theorem few_f{n:Nm}(h:few n=true):(∀l∈n,l.length≤1000000000)∧n.length≤1000000000:=by
 simp only[few,Bool.and_eq_true,List.all_eq_true,decide_eq_true_eq]at h
 exact⟨fun l hl=>by have:=h.2 l hl;omega,by omega⟩
theorem DFew_ok{w0 w:World}(hE0:Ext w0 w){cs:List Value}{d:DatL}(hd:DatAt w0 cs d):
  Fn Tryz.prog 46 #[.agg cs.toArray] w (fun v w'=>Ext w w'∧∃b:Bool,v= .bool b∧(b=true→DatF d)):=by
 obtain⟨nm,nu,tx,rw',rfl,⟨vals,⟨an,cn,rfl,hcn,hgn⟩,hvl,hvr⟩,⟨au,cu,rfl,hcu,hgu⟩,⟨at1,ct,rfl,hct,hgt⟩,⟨ar,cr,rfl,hcr,hgr⟩⟩:=hd.ex
 simp only[List.length_map]at hcu hgu hct hgt hcr hgr
 simp only[List.length_map]
 refine enter Tryz.func46 Tryz.ntmps46 rfl rfl ?_
 repeat refine c_r ?_
 refine rg0 ?_
 repeat refine c_r ?_
 refine zan ?_
 intro w1 hE1 hs1 hA
 have p1:zad w1 (some ⟨w.heap.size,1,Option.none⟩)=some (.slice an vals.length cn):=zaa hA rfl
 have p2:zad w1 (some ⟨w.heap.size,2,Option.none⟩)=some (.slice au d.nums.length cu):=zaa hA rfl
 have p3:zad w1 (some ⟨w.heap.size,3,Option.none⟩)=some (.slice at1 d.texts.length ct):=zaa hA rfl
 have p4:zad w1 (some ⟨w.heap.size,4,Option.none⟩)=some (.slice ar d.raw.length cr):=zaa hA rfl
 refine zas (Q:=fun e σ' ds' v'=>e= .normal∧ds'=[]∧σ' 1= .pointer (some ⟨w.heap.size,0,Option.none⟩)∧v'=w1∧∃bb,σ' 26= .bool bb∧(bb=false→vals.length≤8∧d.nums.length≤12∧d.texts.length≤40∧d.raw.length≤1100)) ?_ ?_
 ·by_cases hA1:(vals.length:Int)>8
  ·refine rq ?_;intro gd K hgd hK
   have hg4:∀n σ b,zaE gd n σ (some (4,b))=zap (ev n σ (.tmp 9)) b:=(fun n σ b=>by rw[zag,show gd 4=some 9 from(by rw[hgd];rfl)];rfl);have hg10:∀n σ b,zaE gd n σ (some (10,b))=zap (ev n σ (.tmp 15)) b:=(fun n σ b=>by rw[zag,show gd 10=some 15 from(by rw[hgd];rfl)];rfl);have hg16:∀n σ b,zaE gd n σ (some (16,b))=zap (ev n σ (.tmp 21)) b:=(fun n σ b=>by rw[zag,show gd 16=some 21 from(by rw[hgd];rfl)];rfl)
   try simp (disch:=first|omega|assumption|rfl) only[go_sem,p1,Nat.zero_add,decide_eq_true hA1,zcu,↓hg4,↓hg10,↓hg16]
   refine hK _ _ ?_;clear hK hgd;clear K;try clear gd
   exact⟨rfl,rfl,vq0,rfl,_,vr0,fun h=>by cases h⟩
  by_cases hA2:(d.nums.length:Int)>12
  ·refine rq ?_;intro gd K hgd hK
   have hg4:∀n σ b,zaE gd n σ (some (4,b))=zap (ev n σ (.tmp 9)) b:=(fun n σ b=>by rw[zag,show gd 4=some 9 from(by rw[hgd];rfl)];rfl);have hg10:∀n σ b,zaE gd n σ (some (10,b))=zap (ev n σ (.tmp 15)) b:=(fun n σ b=>by rw[zag,show gd 10=some 15 from(by rw[hgd];rfl)];rfl);have hg16:∀n σ b,zaE gd n σ (some (16,b))=zap (ev n σ (.tmp 21)) b:=(fun n σ b=>by rw[zag,show gd 16=some 21 from(by rw[hgd];rfl)];rfl)
   try simp (disch:=first|omega|assumption|rfl) only[go_sem,p1,p2,Nat.zero_add,decide_eq_false hA1,decide_eq_true hA2,zcu,↓hg4,↓hg10,↓hg16]
   refine hK _ _ ?_;clear hK hgd;clear K;try clear gd
   exact⟨rfl,rfl,vq0,rfl,_,vr0,fun h=>by cases h⟩
  by_cases hA3:(d.texts.length:Int)>40
  ·refine rq ?_;intro gd K hgd hK
   have hg4:∀n σ b,zaE gd n σ (some (4,b))=zap (ev n σ (.tmp 9)) b:=(fun n σ b=>by rw[zag,show gd 4=some 9 from(by rw[hgd];rfl)];rfl);have hg10:∀n σ b,zaE gd n σ (some (10,b))=zap (ev n σ (.tmp 15)) b:=(fun n σ b=>by rw[zag,show gd 10=some 15 from(by rw[hgd];rfl)];rfl);have hg16:∀n σ b,zaE gd n σ (some (16,b))=zap (ev n σ (.tmp 21)) b:=(fun n σ b=>by rw[zag,show gd 16=some 21 from(by rw[hgd];rfl)];rfl)
   try simp (disch:=first|omega|assumption|rfl) only[go_sem,p1,p2,p3,Nat.zero_add,decide_eq_false hA1,decide_eq_false hA2,decide_eq_true hA3,zcu,↓hg4,↓hg10,↓hg16]
   refine hK _ _ ?_;clear hK hgd;clear K;try clear gd
   exact⟨rfl,rfl,vq0,rfl,_,vr0,fun h=>by cases h⟩
  by_cases hA4:(d.raw.length:Int)>1100
  ·refine rq ?_;intro gd K hgd hK
   have hg4:∀n σ b,zaE gd n σ (some (4,b))=zap (ev n σ (.tmp 9)) b:=(fun n σ b=>by rw[zag,show gd 4=some 9 from(by rw[hgd];rfl)];rfl);have hg10:∀n σ b,zaE gd n σ (some (10,b))=zap (ev n σ (.tmp 15)) b:=(fun n σ b=>by rw[zag,show gd 10=some 15 from(by rw[hgd];rfl)];rfl);have hg16:∀n σ b,zaE gd n σ (some (16,b))=zap (ev n σ (.tmp 21)) b:=(fun n σ b=>by rw[zag,show gd 16=some 21 from(by rw[hgd];rfl)];rfl)
   try simp (disch:=first|omega|assumption|rfl) only[go_sem,p1,p2,p3,p4,Nat.zero_add,decide_eq_false hA1,decide_eq_false hA2,decide_eq_false hA3,decide_eq_true hA4,zcu,↓hg4,↓hg10,↓hg16]
   refine hK _ _ ?_;clear hK hgd;clear K;try clear gd
   exact⟨rfl,rfl,vq0,rfl,_,vr0,fun h=>by cases h⟩
  ·refine rq ?_;intro gd K hgd hK
   have hg4:∀n σ b,zaE gd n σ (some (4,b))=zap (ev n σ (.tmp 9)) b:=(fun n σ b=>by rw[zag,show gd 4=some 9 from(by rw[hgd];rfl)];rfl);have hg10:∀n σ b,zaE gd n σ (some (10,b))=zap (ev n σ (.tmp 15)) b:=(fun n σ b=>by rw[zag,show gd 10=some 15 from(by rw[hgd];rfl)];rfl);have hg16:∀n σ b,zaE gd n σ (some (16,b))=zap (ev n σ (.tmp 21)) b:=(fun n σ b=>by rw[zag,show gd 16=some 21 from(by rw[hgd];rfl)];rfl)
   try simp (disch:=first|omega|assumption|rfl) only[go_sem,p1,p2,p3,p4,Nat.zero_add,decide_eq_false hA1,decide_eq_false hA2,decide_eq_false hA3,decide_eq_false hA4,zcu,↓hg4,↓hg10,↓hg16]
   refine hK _ _ ?_;clear hK hgd;clear K;try clear gd
   exact⟨rfl,rfl,vq0,rfl,_,vr0,fun _=>⟨by omega,by omega,by omega,by omega⟩⟩
 rintro _ σ1 _ v1 ⟨rfl,rfl,h1,hv1,bb,h26,hbb⟩
 rw[hv1]
 clear hv1 v1
 repeat refine c_r ?_
 refine zbK (t:=bb) ((vq1 h26)) ?_ ?_
 ·intro _
  repeat (first|refine c_r ?_|refine rg0 ?_)
  refine rt0 Tryz.ntmps46 ?_
  exact⟨hE1,false,rfl,fun h=>by cases h⟩
 intro hb
 obtain⟨ln,lu,lt,lr⟩:=hbb hb
 repeat refine c_r ?_
 refine rg0 ?_
 repeat refine c_r ?_
 refine zas (Q:=fun e σ' ds' v'=>ds'=[]∧Ext w1 v'∧((e= .exit 0∧σ' 1= .pointer (some ⟨w.heap.size,0,Option.none⟩)∧∀n∈d.names,few n=true)∨(e= .ret∧σ' 2= .bool false))) ?_ ?_
 ·refine zaD (fun m σ ds A=>ds=[]∧∃(i:Nat),i+m=vals.length∧σ 3=vi i∧σ 1= .pointer (some ⟨w.heap.size,0,Option.none⟩)∧Ext w1 A∧∀j (h:j<d.names.length),j<i→few d.names[j]=true) vals.length ?_ ?_
  ·exact⟨rfl,0,by omega,vr0,(vq1 h1),Keep.refl _ _,fun j h hj=>absurd hj (by omega)⟩
  clear h1
  rintro m σ ds A ⟨rfl,i,him,h3,h1,hEA,hlow⟩
  have q1:=zab hEA p1
  repeat refine c_r ?_
  refine rg4 h3 h1 q1 Nat.zero_add ?_
  repeat refine c_r ?_
  refine wc0 ?_ ?_
  ·intro hlt
   simp only[decide_eq_true_eq]at hlt
   have hi:i<vals.length:=by omega
   have hi0:(0:Int)≤(i:Int):=by omega
   have hi1:(i:Int)<(vals.length:Int):=by omega
   have hi1':(i:Int)+1=((i+1:Nat):Int):=by push_cast;rfl
   have hgi:=hgn i hi
   obtain⟨xN,rfl⟩:=Option.isSome_iff_exists.1 (zai hgi)
   have hgi':=zab (hE0.trans (hE1.trans hEA)) hgi
   have hrow:=hvr i hi (by omega)
   obtain⟨n,hn⟩:∃n,d.names[i]'(by omega)=n:=⟨_,rfl⟩
   rw[hn]at hrow
   obtain⟨hv,hhv⟩:∃hv,vals[i]=hv:=⟨_,rfl⟩
   rw[hhv]at hgi' hrow
   repeat refine c_r ?_
   refine rq ?_;intro gd K hgd hK
   try simp (disch:=first|omega|assumption|rfl) only[go_sem,h3,h1,q1,Nat.zero_add,hi0,hi1,hgi']
   refine Fn.mono (ziQ A hv n (hrow.ext (hE0.trans (hE1.trans hEA)))) ?_
   rintro _ A2 ⟨rfl,hA2⟩
   try simp only[go_sem]
   refine hK _ _ ?_;clear hK hgd;clear K;try clear gd
   repeat refine c_r ?_
   refine zbK (t:=!few n) (vr0) ?_ ?_
   ·intro _
    repeat refine c_r ?_
    refine rg0 ?_
    repeat refine c_r ?_
    exact⟨rfl,hEA.trans hA2,.inr ⟨rfl,vq0⟩⟩
   ·intro hfn
    repeat refine c_r ?_
    refine rg2 h3 hi1' ?_
    repeat refine c_r ?_
    refine⟨m - 1,by omega,rfl,i+1,by omega,vq0,(vq1 h1),hEA.trans hA2,fun j hj hji=>?_⟩
    by_cases hj2:j=i
    ·subst hj2;rw[hn];simpa using hfn
    ·exact hlow j hj (by omega)
  ·intro hge
   simp only[decide_eq_false_iff_not]at hge
   repeat refine c_r ?_
   refine⟨rfl,hEA,.inl ⟨rfl,(vq1 h1),fun n hn=>?_⟩⟩
   obtain⟨j,hj,rfl⟩:=List.getElem_of_mem hn
   exact hlow j hj (by omega)
 clear h1
 rintro e σ4 _ A ⟨rfl,hEA,⟨rfl,h1,hall⟩| ⟨rfl,h2⟩⟩
 rotate_left
 ·repeat refine c_r ?_
  refine rt1 h2 Tryz.ntmps46 ?_
  exact⟨hE1.trans hEA,false,rfl,fun h=>by cases h⟩
 have q3:=zab hEA p3
 repeat refine c_r ?_
 refine rg0 ?_
 repeat refine c_r ?_
 refine zas (Q:=fun e σ' ds' v'=>ds'=[]∧v'=A∧((e= .exit 2∧σ' 1= .pointer (some ⟨w.heap.size,0,Option.none⟩)∧∀l∈d.texts,l.length≤300)∨(e= .ret∧σ' 2= .bool false))) ?_ ?_
 ·refine zaD (fun m σ ds B=>ds=[]∧∃(i:Nat),i+m=d.texts.length∧σ 4=vi i∧σ 1= .pointer (some ⟨w.heap.size,0,Option.none⟩)∧B=A∧∀j (h:j<d.texts.length),j<i→d.texts[j].length≤300) d.texts.length ?_ ?_
  ·exact⟨rfl,0,by omega,vr0,(vq1 h1),rfl,fun j h hj=>absurd hj (by omega)⟩
  clear h1
  rintro m σ ds B ⟨rfl,i,him,h4,h1,hB2,hlow⟩
  rw[hB2]
  clear hB2 B
  repeat refine c_r ?_
  refine rg4 h4 h1 q3 Nat.zero_add ?_
  repeat refine c_r ?_
  refine wc0 ?_ ?_
  ·intro hlt
   simp only[decide_eq_true_eq]at hlt
   have hi:i<d.texts.length:=by omega
   have hi0:(0:Int)≤(i:Int):=by omega
   have hi1:(i:Int)<(d.texts.length:Int):=by omega
   have hi1':(i:Int)+1=((i+1:Nat):Int):=by push_cast;rfl
   have hgi:=hgt i hi
   obtain⟨xT,rfl⟩:=Option.isSome_iff_exists.1 (zai hgi)
   have hgi':=zab (hE0.trans (hE1.trans hEA)) hgi
   rw[List.getElem_map]at hgi'
   repeat refine c_r ?_
   refine rg7 h4 h1 q3 Nat.zero_add hi0 hi1 hgi' ?_
   repeat refine c_r ?_
   refine wc0 ?_ ?_
   ·intro hgt2
    repeat refine c_r ?_
    refine rg0 ?_
    repeat refine c_r ?_
    exact⟨rfl,rfl,.inr ⟨rfl,vq0⟩⟩
   ·intro hgt2
    simp only[decide_eq_false_iff_not]at hgt2
    repeat refine c_r ?_
    refine rg2 h4 hi1' ?_
    repeat refine c_r ?_
    refine⟨m - 1,by omega,rfl,i+1,by omega,vq0,(vq1 h1),rfl,fun j hj hji=>?_⟩
    by_cases hj2:j=i
    ·subst hj2;omega
    ·exact hlow j hj (by omega)
  ·intro hge
   simp only[decide_eq_false_iff_not]at hge
   repeat refine c_r ?_
   refine⟨rfl,rfl,.inl ⟨rfl,(vq1 h1),fun l hl=>?_⟩⟩
   obtain⟨j,hj,rfl⟩:=List.getElem_of_mem hl
   exact hlow j hj (by omega)
 clear h1
 rintro e σ6 _ v1 ⟨rfl,hv1,⟨rfl,h1,htl⟩| ⟨rfl,h2⟩⟩
 rotate_left
 ·rw[hv1]
  repeat refine c_r ?_
  refine rt1 h2 Tryz.ntmps46 ?_
  exact⟨hE1.trans hEA,false,rfl,fun h=>by cases h⟩
 rw[hv1]
 clear hv1 v1
 repeat (first|refine c_r ?_|refine rg0 ?_)
 refine rt0 Tryz.ntmps46 ?_
 exact⟨hE1.trans hEA,true,rfl,fun _=>⟨fun n hn=>few_f (hall n hn),by omega,by omega,by omega,fun l hl=>by have:=htl l hl;omega,by omega,by omega,⟨by omega,by omega,htl,by omega,hall⟩⟩⟩
theorem RsFew_ok{w0 w:World}(hE0:Ext w0 w){lv:Value}{R:List RecL}(hl:Rows 7 (RecAt w0) w lv R):
  Fn Tryz.prog 16 #[lv] w (fun v w'=>Ext w w'∧∃b:Bool,v= .bool b∧(b=true→R.length≤60∧∀r∈R,few r.owner=true∧DatF r.dat)):=by
 obtain⟨aR,cR,rfl,hcR,hgR⟩:=hl.open
 refine enter Tryz.func16 Tryz.ntmps16 rfl rfl ?_
 repeat refine c_r ?_
 refine rg0 ?_
 repeat refine c_r ?_
 refine rg0 ?_
 repeat refine c_r ?_
 refine wc0 ?_ ?_
 ·intro _
  repeat (first|refine c_r ?_|refine rg0 ?_)
  refine rt0 Tryz.ntmps16 ?_
  exact⟨Keep.refl _ _,false,rfl,fun h=>by cases h⟩
 intro h60
 simp only[decide_eq_false_iff_not]at h60
 repeat refine c_r ?_
 refine rg0 ?_
 repeat refine c_r ?_
 refine zaD (fun m σ ds A=>ds=[]∧∃(i:Nat),i+m=R.length∧σ 3=vi i∧σ 0= .slice aR R.length cR∧Ext w A∧∀j (h:j<R.length),j<i→few R[j].owner=true∧DatF R[j].dat) R.length ?_ ?_
 ·exact⟨rfl,0,by omega,vr0,vq0,Keep.refl _ _,fun j h hj=>absurd hj (by omega)⟩
 rintro m σ ds A ⟨rfl,i,him,h3,h0,hEA,hlow⟩
 repeat refine c_r ?_
 refine rg2 h3 h0 ?_
 repeat refine c_r ?_
 refine wc0 ?_ ?_
 ·intro hlt
  simp only[decide_eq_true_eq]at hlt
  have hi:i<R.length:=by omega
  have hi0:(0:Int)≤(i:Int):=by omega
  have hi1:(i:Int)<(R.length:Int):=by omega
  have hi1':(i:Int)+1=((i+1:Nat):Int):=by push_cast;rfl
  obtain⟨cr,hcr,hRr⟩:=hgR i hi
  obtain⟨r,hr⟩:∃r,R[i]=r:=⟨_,rfl⟩
  rw[hr]at hRr
  obtain⟨ow,dsc,hcrE,o1,o2,g0,g1,g2,gd⟩:=hRr.cells
  obtain⟨xR,rfl⟩:=Option.isSome_iff_exists.1 (zav hcr)
  obtain⟨xi,hxi⟩:∃xi,adr (some xR) (i*7)=some xi:=⟨_,rfl⟩
  rw[hxi]at hcr
  obtain⟨xd,hxd⟩:∃xd,adr (some xi) 2=some xd:=⟨_,rfl⟩
  have rc:∀{x},Ext w x→zad x (some xi)=some ow∧zar x (some xd) 5=some dsc:=fun {x} hx=>by
   have hcx:=zah hx hcr
   have e0:=zc0 hcx g0
   have e5:=zbI (m:=2) (k:=5) hcx
   rw[zam]at e0
   rw[hxd,gd]at e5
   exact⟨e0,e5⟩
  obtain⟨c0,_⟩:=rc hEA
  have hwA:=hE0.trans hEA
  repeat refine c_r ?_
  refine zas (Q:=fun e σ' ds' v'=>e= .normal∧ds'=[]∧σ' 3=vi i∧σ' 0= .slice (some xR) R.length cR∧Ext A v'∧∃bb,σ' 28= .bool bb∧(bb=false→few r.owner=true∧DatF r.dat)) ?_ ?_
  ·cases hf:few r.owner with
   |false=>
    refine rq ?_;intro gd K hgd hK
    have hg7:∀n σ b,zaE gd n σ (some (7,b))=zap (ev n σ (.tmp 20)) b:=(fun n σ b=>by rw[zag,show gd 7=some 20 from(by rw[hgd];rfl)];rfl)
    try simp (disch:=first|omega|assumption|rfl) only[go_sem,h0,h3,hi0,hi1,hxi,c0,zam]
    refine Fn.mono (ziQ A ow r.owner (o1.ext hwA)) ?_
    rintro _ A2 ⟨rfl,hA2⟩
    rw[hf]
    try simp (disch:=first|omega|assumption|rfl) only[go_sem,Bool.not_false,↓hg7]
    refine hK _ _ ?_;clear hK hgd;clear K;try clear gd
    exact⟨rfl,rfl,(vq1 h3),(vq1 h0),hA2,_,vr0,fun h=>by cases h⟩
   |true=>
    refine rq ?_;intro gd K hgd hK
    have hg7:∀n σ b,zaE gd n σ (some (7,b))=zap (ev n σ (.tmp 20)) b:=(fun n σ b=>by rw[zag,show gd 7=some 20 from(by rw[hgd];rfl)];rfl)
    try simp (disch:=first|omega|assumption|rfl) only[go_sem,h0,h3,hi0,hi1,hxi,c0,zam]
    refine Fn.mono (ziQ A ow r.owner (o1.ext hwA)) ?_
    rintro _ A2 ⟨rfl,hA2⟩
    rw[hf]
    obtain⟨_,c5⟩:=rc (hEA.trans hA2)
    try simp (disch:=first|omega|assumption|rfl) only[go_sem,h0,h3,hi0,hi1,hxi,hxd,c5,Bool.not_true,↓hg7]
    refine Fn.mono (DFew_ok (hwA.trans hA2) o2) ?_
    rintro _ A3 ⟨hA3,b,rfl,hb⟩
    try simp (disch:=first|omega|assumption|rfl) only[go_sem,↓hg7]
    refine hK _ _ ?_;clear hK hgd;clear K;try clear gd
    exact⟨rfl,rfl,(vq1 h3),(vq1 h0),hA2.trans hA3,_,vr0,fun h=>⟨rfl,hb (by simpa using h)⟩⟩
  clear h3 h0
  rintro _ σ1 _ A1 ⟨rfl,rfl,h3,h0,hA1,bb,h28,hbb⟩
  repeat refine c_r ?_
  refine zbK (t:=bb) ((vq1 h28)) ?_ ?_
  ·intro _
   repeat (first|refine c_r ?_|refine rg0 ?_)
   refine rt0 Tryz.ntmps16 ?_
   exact⟨hEA.trans hA1,false,rfl,fun h=>by cases h⟩
  ·intro ht
   repeat refine c_r ?_
   refine rg2 h3 hi1' ?_
   repeat refine c_r ?_
   refine⟨m - 1,by omega,rfl,i+1,by omega,vq0,(vq1 h0),hEA.trans hA1,fun j hj hji=>?_⟩
   by_cases hj2:j=i
   ·subst hj2;rw[hr];exact hbb ht
   ·exact hlow j hj (by omega)
 ·intro hge
  simp only[decide_eq_false_iff_not]at hge
  repeat (first|refine c_r ?_|refine rg0 ?_)
  refine rt0 Tryz.ntmps16 ?_
  refine⟨hEA,true,rfl,fun _=>⟨by omega,fun r hr=>?_⟩⟩
  obtain⟨j,hj,rfl⟩:=List.getElem_of_mem hr
  exact hlow j hj (by omega)
def Hz(S:Nat→Prop)(A:World)(P:World→Prop):Prop:=∀X,Keep S A X→P X
theorem Hz.now{S:Nat→Prop}{A:World}{P:World→Prop}(h:Hz S A P):P A:=h A (Keep.refl _ _)
theorem Hz.ext{S:Nat→Prop}{A B:World}{P:World→Prop}(h:Hz S A P)(hE:Ext A B):Hz S B P:=fun X hX=>h X ((hE.mono fun _ _ h=>h.elim).trans hX)
theorem Hz.app{S T S':Nat→Prop}{A B:World}{P:World→Prop}(h:Hz S A P)(hk:Keep T A B)(hT:∀b,b<A.heap.size→T b→S b)(hS:∀b,b<A.heap.size→S' b→S b):Hz S' B P:=fun X hX=>by
 have h1:Keep (fun b=>T b∨S' b) A B:=hk.mono fun _ _ h=> .inl h
 have h2:Keep (fun b=>T b∨S' b) B X:=hX.mono fun _ _ h=> .inr h
 exact h X ((h1.trans h2).mono fun b hb h=>h.elim (hT b hb) (hS b hb))
theorem row_hz{S:Nat→Prop}{A:World}{v:Value}{l:List Value}(hr:Row A v l)(hb:∀a n c,v= .slice (some a) n c→a.block<A.heap.size∧¬S a.block):Hz S A (fun X=>Row X v l):=fun X hX=>
 hr.blocks fun a n c hv=>hX.block _ (hb a n c hv).1 (hb a n c hv).2
theorem zmH{n:Nm}(h:zih n=true):NmT n:=by
 unfold zih at h
 simp only[Bool.and_eq_true,decide_eq_true_eq]at h
 have h1:=h.2
 exact⟨fun l hl=>by have:=(zb6 h1 l hl).2;omega,by have:=zeV h1;omega⟩
theorem few_T{n:Nm}(h:few n=true):NmT n:=by
 simp only[few,Bool.and_eq_true,List.all_eq_true,decide_eq_true_eq]at h
 exact⟨fun l hl=>by have:=h.2 l hl;omega,by omega⟩
theorem fold_T{n:Nm}(h:NmT n):NmT (zaB n):=by
 refine⟨fun l hl=>?_,by unfold zaB;rw[List.length_map];exact h.2⟩
 unfold zaB at hl
 obtain⟨x,hx,rfl⟩:=List.mem_map.1 hl
 have:=h.1 x hx
 simpa [zaI] using this
section
variable {P : Program} {d : Option Tmp} {ty : TypeId} {ps : String} {af : Array Edge} {g : Option (Nat × Bool)} {ρ : Operand → Value} {w : World} {K : Value → World → Prop}
theorem zg8{s:TypeId}{x:Operand}{f:Nat}{fs:Array Field}{fd:Field}{cs:Array Value}{v:Value}(hs:P.underlying s=some (.struct fs))(hf:fs[f]? =some fd)(ha:tyA P fd.type=false)(hu:(P.underlying fd.type).isSome=true)
  (hx:ρ x= .agg cs) (hv:cs[fd.offset]? =some v) (h:K v w):opV P ⟨d,.field s x f,ty,ps,af,g⟩ ρ w K:=by
 show opW P _ ρ w K
 refine zaC (s:=Instr.field s (ρ x) f) (w':=w) (v:=v) ?_ h
 obtain⟨u,hu⟩:=Option.isSome_iff_exists.1 hu
 have hi:(isAgg fd.type).run P w= .ok false w:=by
  unfold tyA at ha
  rw[hu]at ha
  cases u<;>first| (cases ha;done)|simp[isAgg,underlying,program,Sem.run,hu]
 have hp:(part fd.type cs fd.offset).run P w= .ok v w:=by
  unfold part
  simp only[Sem.run_bind,hi,Result.andThen_ok,Bool.false_eq_true,if_false,hv,Sem.run_pure]
 unfold Instr.field
 simp[underlying,program,Sem.run,hs,hf,hx,asAgg]
 exact hp
end
theorem own15_ok{W0 w:World}{b:Nat}{t1 t2:Lab}{q1 q2:Bool}{ov:Value}{o:Nm}{e e1 e2:Int}(hW:WX W0)(h:Rdr W0 w b [(t1,q1),(t2,q2)] ov e)(hl1:t1.length≤1000000)(hl2:t2.length≤1000000)(ho:Row W0 ov (o.map vs))(hoT:NmT o)
  (he1:zbL (if q1=true then zbL e 2 else e) (decP 65535 t1).2=e1) (he2:zbL (if q2=true then zbL e1 2 else e1) (za6 t2 o).2=e2):
  Fn Tryz.prog 194 #[.pointer (some ⟨b,0,Option.none⟩),vi 15] w (fun v w'=>(∃nmv nuv nv,v= .agg #[vi 15,nmv,nuv,.slice Option.none 0 0,.slice Option.none 0 0]∧Own w.heap.size w' 42 nuv [v32 (decP 65535 t1).1]∧Own w.heap.size w' 24 nmv [nv]∧Row w' nv ((za6 t2 o).1.map vs)∧BlkB w.heap.size w' nv)∧Rdr W0 w' b [] ov e2∧Keep (fun i=>i=b) w w'):=by
 have hbl:=h.lt
 have hlow:=h.low
 refine enter Tryz.func194 Tryz.ntmps194 rfl rfl ?_
 refine go trivial ?_
 refine zan ?_
 intro w1 hE1 hs1 hA
 refine rq ?_;intro gd K hgd hK
 try simp only[go_sem]
 refine⟨by kernel_rfl,?_⟩
 rw[show bdV Tryz.prog 47 [(0,vi 15)]=some (.agg #[vi 15,.slice Option.none 0 0,.slice Option.none 0 0,.slice Option.none 0 0,.slice Option.none 0 0]) from by kernel_rfl]
 try simp only[go_sem]
 refine zbm (P:=Tryz.prog) (l:=[vi 15,.slice Option.none 0 0,.slice Option.none 0 0,.slice Option.none 0 0,.slice Option.none 0 0]) rfl (zem _ _ _ _ _ rfl rfl rfl rfl) rfl rfl ?_
 intro w2 hE2 hs2 hB2
 try simp only[go_sem]
 refine hK _ _ ?_;clear hK hgd;clear K;try clear gd
 rw[hs1]at hB2
 simp only[hs1]
 have hR2:=(h.extx hE1).extx hE2
 refine go trivial ?_
 refine rc trivial (zfQ hR2 15) ?_
 rintro _ w3 ⟨rfl,hE3⟩
 rw[show zhe 15 ([(t1,q1),(t2,q2)]:List (Lab×Bool)).length=true from rfl]
 have d1:decide ((15:Int)=1)=false:=rfl
 have d2:decide ((15:Int)=28)=false:=rfl
 have d3:decide ((15:Int)=16)=false:=rfl
 have d4:decide ((15:Int)=15)=true:=rfl
 refine rgo (an4 d1 d2 d3 d4) ?_
 have hR3:=hR2.extx hE3
 have hs3:=hE3.size
 have hB3:=Ext.at hE3 hB2
 obtain⟨P,hP⟩:∃P,w.heap.size+1=P:=⟨_,rfl⟩
 rw[hP]at hB3 ⊢
 have hP3:P<w3.heap.size:=(Array.getElem?_eq_some_iff.1 hB3).1
 have q3:zad w3 (some ⟨P,2,Option.none⟩)=some (.slice Option.none 0 0):=za2 (j:=2) hB3 rfl
 have hdl:=zdo 65535 t1
 refine zas (Q:=fun e' σ' ds' v'=>e'= .normal∧ds'=[]∧(σ' 0= .pointer (some ⟨b,0,Option.none⟩)∧σ' 4= .pointer (some ⟨w.heap.size,0,Option.none⟩)∧σ' 5= .pointer (some ⟨P,0,Option.none⟩))∧Rdr W0 v' b [(t2,q2)] ov e1∧Keep (fun i=>i=b∨i=P) w3 v'∧∃nuv,v'.heap[P]? =some (.cells [vi 15,.slice Option.none 0 0,nuv,.slice Option.none 0 0,.slice Option.none 0 0].toArray 47 (0,0))∧Own w3.heap.size v' 42 nuv [v32 (decP 65535 t1).1]) ?_ ?_
 ·refine zaF (fun i=>i==7) [(0,true),(1,true),(2,true),(3,false),(4,false),(5,false),(6,true),(7,false)] ((fun i=>i=b)) mixed (by kernel_rfl) ?_;intro gd K x hgd hx hxe hK;have hx0:=zaT hxe;clear hxe
  have q3x:=zab hx0 q3
  have hsx:=hx0.size
  simp (disch:=first|omega|assumption|rfl) only[go_sem,q3x,Nat.zero_add]
  refine⟨fun a ha hb'=>by cases ha;dsimp only at hb';omega,?_⟩
  refine Fn.mono (num_ok hW (hR3.extx hx0) (by simp) (by omega) 65535 (by decide)) ?_
  rw[he1]
  rintro _ y1 ⟨rfl,hR1,hk1⟩
  refine⟨.inr hk1,?_⟩
  simp (disch:=first|omega|assumption|rfl) only[go_sem]
  refine zbk (z:=v32 0) rfl rfl rfl rfl rfl ?_
  intro y2 hy2 hys2 hyo
  refine⟨.inr hy2.keep,?_⟩
  simp (disch:=first|omega|assumption|rfl) only[go_sem]
  have hsy1:=hk1.size
  have hsy2:=hy2.size
  refine za8 (B:=w3.heap.size) (e:=42) (Own.nil _ _ _) hyo.row rfl rfl rfl rfl rfl rfl (vr0) (vr0) (fun q hq=>by rw[List.mem_singleton.1 hq];rfl) (by simp) (by decide) (by omega) ?_
  intro sv' y3 hown3 hX3 hK3 hb3'
  refine⟨.inr (hK3.mono fun i _ h=>by cases h),?_⟩
  simp (disch:=first|omega|assumption|rfl) only[go_sem,Nat.zero_add]
  have hsK:=hK3.size
  have hBP3:y3.heap[P]? =_:=(hK3.block P (by omega) (fun h=>by cases h)).trans ((hy2.block P (by omega) (fun h=>h)).trans ((hk1.block P (by omega) (by omega)).trans (Ext.at hx0 hB3)))
  refine zdc (P:=Tryz.prog) (t:=45) (j:=2) (u:=sv') hBP3 (by simp) (by obtain⟨a,c,rfl⟩:=hown3.slice;rfl) rfl rfl ?_
  intro z hzs hBz hkz
  refine⟨.inl rfl,?_⟩
  simp (disch:=first|omega|assumption|rfl) only[go_sem]
  refine hK _ _ ?_;clear hK hgd;clear K;try clear gd
  simp only[List.set_cons_zero,List.set_cons_succ]at hBz
  have ha:Keep (fun i=>i=b∨i=P) w3 y2:=((hx0.mono fun _ _ h=>h.elim).trans (hk1.mono fun _ _ h=> .inl h)).trans (hy2.mono fun _ _ h=>h.elim)
  exact⟨rfl,rfl,⟨vr0,vr0,vr0⟩,((hR1.extx hy2).keep hK3 fun i hi=>by cases hi).keep hkz fun i hi=>by omega,(ha.own hK3 fun i hi h=>by cases h).trans (hkz.mono fun _ _ h=> .inr h),sv',hBz,hown3.keep hkz fun i hi hs=>by have:=(hown3.ge hi).1;omega⟩
 rintro _ σ1 _ w4 ⟨rfl,rfl,⟨s0,s4,s5⟩,hR4,hk4,nuv,hB4,hnu⟩
 have hs4:=hk4.size
 obtain⟨na,nc,hnuv⟩:=hnu.slice
 have q4:zad w4 (some ⟨P,1,Option.none⟩)=some (.slice Option.none 0 0):=za2 (j:=1) hB4 rfl
 refine go (an3 s0 s4 s5) ?_
 refine zas (Q:=fun e' σ' ds' v'=>e'= .normal∧ds'=[]∧(σ' 4= .pointer (some ⟨w.heap.size,0,Option.none⟩)∧σ' 5= .pointer (some ⟨P,0,Option.none⟩))∧Rdr W0 v' b [] ov e2∧Keep (fun i=>i=b∨i=P) w4 v'∧∃nmv nv,v'.heap[P]? =some (.cells [vi 15,nmv,nuv,.slice Option.none 0 0,.slice Option.none 0 0].toArray 47 (0,0))∧Own w4.heap.size v' 24 nmv [nv]∧Row v' nv ((za6 t2 o).1.map vs)∧BlkB w4.heap.size v' nv∧one nv=true) ?_ ?_
 ·refine zaF (fun i=>i==7) [(0,true),(1,true),(2,true),(3,false),(4,false),(5,false),(6,true),(7,false)] ((fun i=>i=b)) mixed (by kernel_rfl) ?_;intro gd K x hgd hx hxe hK;have hx0:=zaT hxe;clear hxe
  have q4x:=zab hx0 q4
  have hsx:=hx0.size
  simp (disch:=first|omega|assumption|rfl) only[go_sem,s0,s5,q4x,Nat.zero_add]
  refine⟨fun a ha hb'=>by cases ha;dsimp only at hb';omega,?_⟩
  refine Fn.mono (zmh (hR4.extx hx0) (by simp) (by omega) ho hoT) ?_
  rw[he2]
  rintro nv y1 ⟨hrow,hbk,hR1,hk1⟩
  refine⟨.inr hk1,?_⟩
  obtain⟨nva,nvc,hnve,_⟩:=id hrow
  simp (disch:=first|omega|assumption|rfl) only[go_sem]
  refine zbk (z:= .slice Option.none 0 0) (v:=nv) rfl rfl rfl rfl (by rw[hnve];rfl) ?_
  intro y2 hy2 hys2 hyo
  refine⟨.inr hy2.keep,?_⟩
  simp (disch:=first|omega|assumption|rfl) only[go_sem]
  have hsy1:=hk1.size
  have hsy2:=hy2.size
  refine za8 (B:=w4.heap.size) (e:=24) (Own.nil _ _ _) hyo.row rfl rfl rfl rfl rfl rfl (vr0) (vr0) (fun q hq=>by rw[List.mem_singleton.1 hq,hnve];rfl) (by simp) (by decide) (by omega) ?_
  intro sv' y3 hown3 hX3 hK3 hb3'
  refine⟨.inr (hK3.mono fun i _ h=>by cases h),?_⟩
  simp (disch:=first|omega|assumption|rfl) only[go_sem,s5,Nat.zero_add]
  have hsK:=hK3.size
  have hBP3:y3.heap[P]? =_:=(hK3.block P (by omega) (fun h=>by cases h)).trans ((hy2.block P (by omega) (fun h=>h)).trans ((hk1.block P (by omega) (by omega)).trans (Ext.at hx0 hB4)))
  refine zdc (P:=Tryz.prog) (t:=44) (j:=1) (u:=sv') hBP3 (by simp) (by obtain⟨a,c,rfl⟩:=hown3.slice;rfl) rfl rfl ?_
  intro z hzs hBz hkz
  refine⟨.inl rfl,?_⟩
  simp (disch:=first|omega|assumption|rfl) only[go_sem]
  refine hK _ _ ?_;clear hK hgd;clear K;try clear gd
  simp only[List.set_cons_zero,List.set_cons_succ]at hBz
  have ha:Keep (fun i=>i=b∨i=P) w4 y2:=((hx0.mono fun _ _ h=>h.elim).trans (hk1.mono fun _ _ h=> .inl h)).trans (hy2.mono fun _ _ h=>h.elim)
  have hrz:Row z nv ((za6 t2 o).1.map vs):=by
   refine Row.blocks (w:=y3) (Row.blocks (w:=y2) (hrow.ext hy2) fun a n' c hv=>?_) fun a n' c hv=>?_
   ·have h2:=hbk a n' c hv
    exact hK3.block _ (by omega) (fun hh=>by cases hh)
   ·have h2:=hbk a n' c hv
    exact hkz.block _ (by omega) (by omega)
  refine⟨rfl,rfl,⟨(vq1 s4),(vq1 s5)⟩,((hR1.extx hy2).keep hK3 fun i hi=>by cases hi).keep hkz fun i hi=>by omega,(ha.own hK3 fun i hi h=>by cases h).trans (hkz.mono fun _ _ h=> .inr h),sv',nv,hBz,hown3.keep hkz fun i hi hs=>by have:=(hown3.ge hi).1;omega,hrz,fun a n' c hv=>?_,by rw[hnve];rfl⟩
  have h2:=hbk a n' c hv
  omega
 clear s0 s4 s5
 rintro _ σ2 _ w5 ⟨rfl,rfl,⟨s4,s5⟩,hR5,hk5,nmv,nv,hB5,hnm,hnr,hnb,hn1⟩
 obtain⟨ma,mc,hnmv⟩:=hnm.slice
 have hs5:=hk5.size
 have q5:=zal (n:=5) hB5 rfl
 refine go (an2 s4 s5) ?_
 refine rq ?_;intro gd K hgd hK
 try simp (disch:=first|omega|assumption|rfl) only[go_sem,s4,s5,q5]
 have hA5:w5.heap[w.heap.size]? =_:=(hk5.block _ (by omega) (by omega)).trans ((hk4.block _ (by omega) (by omega)).trans (Ext.at (hE2.trans hE3) hA))
 refine zaR (P:=Tryz.prog) (t:=47) (l:=[vi 15,nmv,nuv,.slice Option.none 0 0,.slice Option.none 0 0]) hA5 rfl (zem _ _ _ _ _ (by rw[hnmv];rfl) (by rw[hnuv];rfl) rfl rfl) rfl rfl ?_
 intro w6 hs6 hB6 hk6
 try simp only[go_sem]
 refine hK _ _ ?_;clear hK hgd;clear K;try clear gd
 refine go trivial ?_
 refine zaf (.inr rfl) Tryz.ntmps194 rfl (zaW (x:=⟨w.heap.size,0,Option.none⟩) (k:=5) ((vr1 s4)) rfl rfl (zal hB6 rfl) zae) ?_
 have hE13:=(hE1.trans hE2).trans hE3
 refine⟨⟨nmv,nuv,nv,rfl,((hnu.keep hk5 fun i hi hs=>by have:=hnu.ge hi;omega).keep hk6 fun i hi hs=>by have:=hnu.ge hi;omega).mono (by omega),(hnm.keep hk6 fun i hi hs=>by have:=(hnm.ge hi).1;omega).mono (by omega),hnr.blocks fun a n' c hv=>hk6.block _ (hnb a n' c hv).2 (by have:=(hnb a n' c hv).1;omega),(hnb.ext hk6.size).mono (by omega)⟩,hR5.keep hk6 fun i hi=>by omega,?_⟩
 exact((((hE13.mono fun _ _ h=>h.elim):Keep (fun i=>i=b) w w3).own hk4 fun i hi h=>by omega).own hk5 fun i hi h=>by omega).own hk6 fun i hi h=>by omega
theorem zco(w:World):Row w (.slice Option.none 0 0) []:=(Own.nil 0 w 0).row
def rawD(T:Int)(bs:List UInt8):DatL:=⟨T,[],[],[],bs⟩
theorem raw_at{w:World}{rv:Value}{T:Int}{bs:List UInt8}(h:Row w rv (bs.map zao)):DatAt w [vi T,.slice Option.none 0 0,.slice Option.none 0 0,.slice Option.none 0 0,rv] (rawD T bs):=⟨_,_,_,_,rfl,zb9 w,zco w,zco w,h⟩
theorem raw_T{T:Int}{bs:List UInt8}(h:bs.length≤2000):DatT (rawD T bs):=⟨⟨(fun n hn=>by cases hn),(by simp[rawD]),(by simp[rawD]),(fun n hn=>by cases hn),(by simp[rawD]),(fun n hn=>by cases hn),h⟩,(by simp[rawD])⟩
theorem any_ok{W0 w:World}{b:Nat}{t0 t:Lab}{q0:Bool}{ws:List (Lab×Bool)}{ov:Value}{n:Nat}{bs:List UInt8}(hW:WX W0)(h:Rdr W0 w b ((t0,q0)::(t,false)::ws) ov 0)(T:Int)(hT:(zaJ T).2.2.2≠0)(hl:ws.length≤1000)(ht:t.length≤1000000)(hn:decP 4294967295 t=(n,0))(hn2:n≤1024)(hwq:∀x∈ws,x.2=false∧x.1.length≤1000000)(htr:Lib.trimS (catW ws) digs16=[])(hlen:(catW ws).length=2*n)(hp:Pairs (catW ws) bs):
  Fn Tryz.prog 193 #[.pointer (some ⟨b,0,Option.none⟩),vi T] w (fun v w'=>(∃rv,v= .agg #[vi T,.slice Option.none 0 0,.slice Option.none 0 0,.slice Option.none 0 0,rv]∧Own w.heap.size w' 5 rv (bs.map zao))∧Rdr W0 w' b [] ov (zbv (rawD T bs))∧Keep (fun i=>i=b) w w'):=by
 have hbl:=h.lt
 have hlow:=h.low
 obtain⟨wv,hb,hr⟩:=h.at'
 obtain⟨a,c,rfl,hc,hg⟩:=hr.open
 rw[List.length_cons]at hc
 have hdr:=hr.drop (m:=1) (by simp)
 rw[List.drop_one,List.tail_cons,List.length_cons]at hdr
 have l1:(1:Int)≤((((t,false)::ws).length+1:Nat):Int):=by omega
 have l2:(1:Int)≤(c:Int):=by omega
 have hbsl:bs.length=n:=by have:=hp.1;omega
 refine enter Tryz.func193 Tryz.ntmps193 rfl rfl ?_
 refine go trivial ?_
 refine zan ?_
 intro w1 hE1 hs1 hA
 have hb1:=Ext.at hE1 hb
 have c0:zad w1 (some ⟨b,0,Option.none⟩)=some (.slice a (((t,false)::ws).length+1) c):=zaa hb1 rfl
 refine rq ?_;intro gd K hgd hK
 try simp (disch:=first|omega|assumption|rfl) only[go_sem,c0,l1,l2,Nat.zero_add]
 refine zaq (P:=Tryz.prog) rfl rfl rfl hb1 (by simp) (by simp) ?_
 intro w2 hs2 hb2 hk2
 try simp only[go_sem]
 refine hK _ _ ?_;clear hK hgd;clear K;try clear gd
 have hR2:Rdr W0 w2 b ((t,false)::ws) ov 0:=⟨Keep.to_ext (h.ext.trans hE1) rfl (fun i hi=>by omega) hk2,h.low,⟨_,hb2,hdr⟩,h.one⟩
 refine go trivial ?_
 refine rq ?_;intro gd K hgd hK
 try simp only[go_sem]
 refine⟨by kernel_rfl,?_⟩
 rw[show bdV Tryz.prog 47 [(0,vi T)]=some (.agg #[vi T,.slice Option.none 0 0,.slice Option.none 0 0,.slice Option.none 0 0,.slice Option.none 0 0]) from by kernel_rfl]
 try simp only[go_sem]
 refine zbm (P:=Tryz.prog) (l:=[vi T,.slice Option.none 0 0,.slice Option.none 0 0,.slice Option.none 0 0,.slice Option.none 0 0]) rfl (zem _ _ _ _ _ rfl rfl rfl rfl) rfl rfl ?_
 intro w3 hE3 hs3 hB3
 try simp only[go_sem]
 refine hK _ _ ?_;clear hK hgd;clear K;try clear gd
 have hw2:w2.heap.size=w.heap.size+1:=by omega
 rw[hw2]at hB3
 simp only[hw2]
 have hR3:=hR2.extx hE3
 refine go trivial ?_
 refine rq ?_;intro gd K hgd hK
 try simp only[go_sem]
 refine Fn.mono (zl9 w3 T) ?_
 rintro _ w4 ⟨rfl,hE4⟩
 unfold zgz
 try simp only[go_sem]
 refine zg8 (cs:=#[vi (zaJ T).1,vi (zaJ T).2.1,vi (zaJ T).2.2.1,vi (zaJ T).2.2.2]) rfl rfl rfl rfl (vr0) rfl ?_
 have d1:decide ((zaJ T).2.2.2=0)=false:=decide_eq_false hT
 try simp (disch:=first|omega|assumption|rfl) only[go_sem,d1]
 refine hK _ _ ?_;clear hK hgd;clear K;try clear gd
 have hR4:=hR3.extx hE4
 obtain⟨wv4,hb4,hr4⟩:=hR4.at'
 obtain⟨a4,k4,rfl,_,_⟩:=hr4.open
 have c4:zad w4 (some ⟨b,0,Option.none⟩)=some (.slice a4 ((t,false)::ws).length k4):=zaa hb4 rfl
 have d2:decide ((((t,false)::ws).length:Int)=0)=false:=decide_eq_false (by rw[List.length_cons];omega)
 refine go (an4 d1 c4 d2 (Nat.zero_add 0)) ?_
 have hs4:=hE4.size
 refine rq ?_;intro gd K hgd hK
 try simp only[go_sem]
 refine Fn.mono (zkH hW hR4 hl ht hn hn2 hwq htr hlen hp) ?_
 rintro rv w5 ⟨hown,hR5,hk5⟩
 obtain⟨ra,rc',hrv⟩:=hown.slice
 have hs5:=hk5.size
 have hB5:=(hk5.block (w.heap.size+1) (by omega) (by omega)).trans (Ext.at hE4 hB3)
 try simp (disch:=first|omega|assumption|rfl) only[go_sem,Nat.zero_add]
 refine zdc (P:=Tryz.prog) (t:=43) (j:=4) (u:=rv) hB5 (by simp) (by rw[hrv];rfl) rfl rfl ?_
 intro w6 hs6 hB6 hk6
 try simp only[go_sem]
 refine hK _ _ ?_;clear hK hgd;clear K;try clear gd
 simp only[List.set_cons_zero,List.set_cons_succ]at hB6
 have hR6:Rdr W0 w6 b [] ov 0:=hR5.keep hk6 fun i hi=>by omega
 have hown6:=hown.keep hk6 fun i hi hs=>by have:=(hown.ge hi).1;omega
 obtain⟨wv6,hb6,_⟩:=hR6.at'
 have c6:zad w6 (some ⟨b,2,Option.none⟩)=some (vi 0):=zaa hb6 rfl
 have q6:=zal (n:=5) hB6 rfl
 have ez:decide ((0:Int)=0)=true:=rfl
 refine go (an3 c6 ez (Nat.zero_add 2)) ?_
 refine rc q6 (znz (cs:=[vi T,.slice Option.none 0 0,.slice Option.none 0 0,.slice Option.none 0 0,rv]) (raw_at hown6.row) (raw_T (by omega))) ?_
 rintro _ w7 ⟨rfl,hE7⟩
 refine rd trivial (zdn (hR6.extx hE7) (zbv (rawD T bs))) ?_
 rw[show zbL 0 (zbv (rawD T bs))=zbv (rawD T bs) from rfl]
 rintro _ w8 ⟨hR8,hk8⟩
 have hs7:=hE7.size
 have hs8:=hk8.size
 refine rgo trivial ?_
 have hB8:=(hk8.block (w.heap.size+1) (by omega) (by omega)).trans (Ext.at hE7 hB6)
 have q8:=zal (n:=5) hB8 rfl
 refine rq ?_;intro gd K hgd hK
 try simp (disch:=first|omega|assumption|rfl) only[go_sem,q8]
 have hk36:Keep (fun i=>i=b∨i=w.heap.size+1) w3 w8:=(((hE4.mono fun _ _ h=>h.elim).trans (hk5.mono fun _ _ h=> .inl h)).trans (hk6.mono fun _ _ h=> .inr h)).trans ((hE7.mono fun _ _ h=>h.elim).trans (hk8.mono fun _ _ h=> .inl h))
 have hA8:w8.heap[w.heap.size]? =_:=(hk36.block _ (by omega) (by omega)).trans (Ext.at hE3 ((hk2.block _ (by omega) (by omega)).trans hA))
 refine zaR (P:=Tryz.prog) (t:=47) (l:=[vi T,.slice Option.none 0 0,.slice Option.none 0 0,.slice Option.none 0 0,rv]) hA8 rfl (zem _ _ _ _ _ rfl rfl rfl (by rw[hrv];rfl)) rfl rfl ?_
 intro w9 hs9 hB9 hk9
 try simp only[go_sem]
 refine hK _ _ ?_;clear hK hgd;clear K;try clear gd
 refine go trivial ?_
 refine zaf (.inr rfl) Tryz.ntmps193 rfl (zaW (x:=⟨w.heap.size,0,Option.none⟩) (k:=5) (vr0) rfl rfl (zal hB9 rfl) zae) ?_
 refine⟨⟨rv,rfl,((((hown6.ext hE7).keep hk8 fun i hi hs=>by have:=(hown6.ge hi).1;omega)).keep hk9 fun i hi hs=>by have:=(hown6.ge hi).1;omega).mono (by omega)⟩,hR8.keep hk9 fun i hi=>by omega,?_⟩
 have hk03:Keep (fun i=>i=b) w w3:=((hE1.mono fun _ _ h=>h.elim).trans hk2).trans (hE3.mono fun _ _ h=>h.elim)
 exact(hk03.own hk36 fun i hi h=>by omega).own hk9 fun i hi h=>by omega
def zcY(ws:List (Lab×Bool)):Bool:=match ws with|x::_=>decide (x=([92,35],false))| []=>false
theorem zlc{w:World}{t:Int}{wv:Value}{oa:Option Addr}{on oc:Nat}{ws:List (Lab×Bool)}{e:Int}{G:Nat→List Value→World→Prop}(ht1:1≤t)(ht2:t≤65535)(hr:Rows 2 WdC w wv ws)
  (hG:∀B cs x y S,G B cs x→Keep S x y→(∀i,S i→i<B)→G B cs y)
  (hc:∀(b:Nat) (w1:World),Rdr w w1 b ws (.slice oa on oc) 0→Fn Tryz.prog (if zcY ws=true then 193 else 194) #[.pointer (some ⟨b,0,Option.none⟩),vi t] w1 (fun v w'=>(∃cs:List Value,v= .agg cs.toArray∧cs.length=5∧(∀x∈cs,one x=true)∧G w1.heap.size cs w')∧Rdr w w' b [] (.slice oa on oc) e∧Keep (fun i=>i=b) w1 w')):
  Fn Tryz.prog 166 #[vi t,wv,.slice oa on oc] w (fun v w'=>Ext w w'∧(e=0→∃cs:List Value,∃B,v= .tuple #[.agg cs.toArray,vi 0]∧w.heap.size≤B∧G B cs w')∧(¬e=0→v= .tuple #[.agg ([vi 0,.slice Option.none 0 0,.slice Option.none 0 0,.slice Option.none 0 0,.slice Option.none 0 0]:List Value).toArray,vi e])):=by
 obtain⟨wa,wc,rfl,hcap,hget⟩:=hr.open
 refine enter Tryz.func166 Tryz.ntmps166 rfl rfl ?_
 refine go trivial ?_
 refine zan ?_
 intro w1 hE1 hs1 hA
 refine rq ?_;intro gd K hgd hK
 try simp only[go_sem]
 refine⟨by kernel_rfl,?_⟩
 rw[show bdV Tryz.prog 259 [(0,.slice wa ws.length wc),(1,.slice oa on oc)]=some (.agg #[.slice wa ws.length wc,.slice oa on oc,vi 0]) from by kernel_rfl]
 try simp only[go_sem]
 refine hK _ _ ?_;clear hK hgd;clear K;try clear gd
 refine zan ?_
 intro w2 hE2 hs2 hB
 rw[hs1]at hB
 simp only[hs1]
 refine go trivial ?_
 refine zan ?_
 intro w3 hE3 hs3 hC
 have hw2:w2.heap.size=w.heap.size+2:=by omega
 rw[hw2]at hC
 simp only[hw2]
 have hR3:Rdr w w3 (w.heap.size+1) ws (.slice oa on oc) 0:=⟨(hE1.trans hE2).trans hE3,by omega,⟨_,Ext.at hE3 hB,hr⟩,rfl⟩
 refine rgg [(2,20)] (an2 (decide_eq_false (show¬t<1 by omega)) (decide_eq_false (show¬65535<t by omega))) ?_
 refine go trivial ?_
 refine zas (Q:=fun e' σ' ds' v'=>e'= .normal∧ds'=[]∧v'=w3∧(σ' 0=vi t∧σ' 6= .pointer (some ⟨w.heap.size,0,Option.none⟩)∧σ' 8= .pointer (some ⟨w.heap.size+1,0,Option.none⟩)∧σ' 9= .pointer (some ⟨w.heap.size+2,0,Option.none⟩))∧σ' 25= .bool (zcY ws)) ?_ ?_
 ·cases ws with
  |nil=>
   refine rgg [(3,29)] (show decide ((0:Int)<(([]:List (Lab×Bool)).length:Int))=false from rfl) ?_
   exact⟨rfl,rfl,rfl,⟨vr0,vr0,vr0,vr0⟩,vr0⟩
  |cons x rest=>
   obtain⟨tx,qx⟩:=x
   obtain⟨cs0,g0,hcs⟩:=hget 0 (by simp)
   simp only[List.getElem_cons_zero,Nat.zero_mul,zam]at g0 hcs
   unfold WdC at hcs
   subst hcs
   have g:=zah hR3.ext g0
   obtain⟨xa,rfl⟩:∃x,wa=some x:=by
    cases wa with
    |none=>cases g0
    |some x=>exact⟨x,rfl⟩
   have l0:decide ((0:Int)<((((tx,qx)::rest).length:Nat):Int))=true:=decide_eq_true (by rw[List.length_cons];omega)
   have l0':(0:Int)<((((tx,qx)::rest).length:Nat):Int):=by rw[List.length_cons];omega
   refine rq ?_;intro gd K hgd hK
   have hg3:∀n σ b,zaE gd n σ (some (3,b))=zap (ev n σ (.tmp 29)) b:=(fun n σ b=>by rw[zag,show gd 3=some 29 from(by rw[hgd];rfl)];rfl)
   try simp (disch:=first|omega|assumption|rfl) only[go_sem,l0,l0',Int.toNat_zero,Nat.zero_mul,zam,g,↓hg3]
   refine⟨by kernel_rfl,?_⟩
   rw[show bdV Tryz.prog 164 [(0,vs [92,35])]=some (.agg #[vs [92,35],.bool false]) from by kernel_rfl]
   try simp (disch:=first|omega|assumption|rfl) only[go_sem,l0,↓hg3]
   refine op_eqS (a:=tx) (b:=qx) (a':=[92,35]) (b':=false) rfl (by decide) (by decide) rfl rfl (by kernel_rfl) rfl rfl (by kernel_rfl) (vr0) (vr0) ?_
   try simp (disch:=first|omega|assumption|rfl) only[go_sem,l0,↓hg3]
   refine hK _ _ ?_;clear hK hgd;clear K;try clear gd
   exact⟨rfl,rfl,rfl,⟨vr0,vr0,vr0,vr0⟩,vr0⟩
 rintro _ σ1 _ w1 ⟨rfl,rfl,rfl,⟨s0,s6,s8,s9⟩,s25⟩
 have hcb:=hc _ _ hR3
 cases hm:zcY ws
 all_goals
  rw[hm]at s25 hcb
  first
   |rw[if_pos rfl]at hcb
   |rw[if_neg (by decide)]at hcb
  refine go (an5 s0 s6 s8 s9 s25) ?_
  refine rq ?_;intro gd K hgd hK
  try simp (disch:=first|omega|assumption|rfl) only[go_sem,s0,s6,s8,s9]
  refine Fn.mono hcb ?_
  rintro _ w4 ⟨⟨cs,rfl,hcs,hcs1,hg4⟩,hR4,hk4⟩
  have hs4:=hk4.size
  have hC4:=(hk4.block (w.heap.size+2) (by omega) (by omega)).trans hC
  try simp (disch:=first|omega|assumption|rfl) only[go_sem,s9]
  refine zaR (P:=Tryz.prog) (t:=47) (l:=cs) hC4 (by simp[hcs]) hcs1 (by rw[hcs];rfl) rfl ?_
  intro w5 hs5 hC5 hk5
  try simp only[go_sem]
  refine hK _ _ ?_;clear hK hgd;clear K;try clear gd
  rw[show w1.heap.size=w.heap.size+3 by omega]at hg4
  have hG5:=hG _ _ _ _ _ hg4 hk5 fun i hi=>by omega
  have hR5:Rdr w w5 (w.heap.size+1) [] (.slice oa on oc) e:=hR4.keep hk5 fun i hi=>by omega
  obtain⟨wv5,hb5,_⟩:=hR5.at'
  have c5:zad w5 (some ⟨w.heap.size+1,2,Option.none⟩)=some (vi e):=zaa hb5 rfl
  have hA5:=(hk5.block w.heap.size (by omega) (by omega)).trans ((hk4.block w.heap.size (by omega) (by omega)).trans (Ext.at (hE2.trans hE3) hA))
  have hE5:Ext w w5:=hR5.ext
  by_cases he:e=0
  ·subst he
   have ez:decide ((0:Int)=0)=true:=rfl
   have p9:zar w5 (some ⟨w.heap.size+2,0,Option.none⟩) 5=some cs:=by
    have:=zal (n:=5) hC5 (by simp[hcs])
    exact this
   refine go (an6 s6 s8 s9 c5 ez (Nat.zero_add 2)) ?_
   refine rq ?_;intro gd K hgd hK
   try simp (disch:=first|omega|assumption|rfl) only[go_sem,s6,s9,p9]
   refine zaR (P:=Tryz.prog) (t:=47) (l:=cs) hA5 (by rw[hcs];rfl) hcs1 (by rw[hcs];rfl) rfl ?_
   intro w6 hs6 hB6 hk6
   try simp only[go_sem]
   refine hK _ _ ?_;clear hK hgd;clear K;try clear gd
   refine go trivial ?_
   refine zaf (.inr rfl) Tryz.ntmps166 rfl (zaW (x:=⟨w.heap.size,0,Option.none⟩) (k:=5) ((vr1 s6)) rfl rfl (zal (n:=5) hB6 (by simp[hcs])) (zac (vr0) zae)) ?_
   exact⟨Keep.to_ext hE5 rfl (fun i hi=>by omega) hk6,fun _=>⟨cs,_,rfl,(by omega),hG _ _ _ _ _ hG5 hk6 fun i hi=>by omega⟩,fun h=>absurd rfl h⟩
  ·refine go (an6 s6 s8 s9 c5 (decide_eq_false he) (Nat.zero_add 2)) ?_
   refine zaF (fun _=>false) [(0,true),(1,true),(2,true),(3,true),(4,true),(5,false),(6,true)] ((fun i=>i=w.heap.size)) mixed (by kernel_rfl) ?_;intro gd K x hgd hx hxe hK;have hx0:=zaT hxe;clear hxe
   have c5x:=zab hx0 c5
   simp (disch:=first|omega|assumption|rfl) only[go_sem]
   refine⟨by kernel_rfl,?_⟩
   rw[show bdV Tryz.prog 47 []=some (.agg #[vi 0,.slice Option.none 0 0,.slice Option.none 0 0,.slice Option.none 0 0,.slice Option.none 0 0]) from by kernel_rfl]
   simp (disch:=first|omega|assumption|rfl) only[go_sem,s6,s8,c5x,Nat.zero_add]
   refine⟨fun a ha hb'=>by cases ha;dsimp only at hb';omega,?_⟩
   refine zaR (P:=Tryz.prog) (t:=47) (l:=[vi 0,.slice Option.none 0 0,.slice Option.none 0 0,.slice Option.none 0 0,.slice Option.none 0 0]) (Ext.at hx0 hA5) rfl (zem _ _ _ _ _ rfl rfl rfl rfl) rfl rfl ?_
   intro w6 hs6 hB6 hk6
   refine⟨.inr hk6,?_⟩
   simp (disch:=first|omega|assumption|rfl) only[go_sem]
   refine hK _ _ ?_;clear hK hgd;clear K;try clear gd
   refine go trivial ?_
   have hE6:Ext w w6:=Keep.to_ext (hE5.trans hx0) rfl (fun i hi=>by omega) hk6
   refine zaf (.inr rfl) Tryz.ntmps166 rfl (zaW (x:=⟨w.heap.size,0,Option.none⟩) (k:=5) ((vr1 s6)) rfl rfl (zal (n:=5) hB6 rfl) (zac (vr0) zae)) ?_
   exact⟨hE6,fun h=>absurd h he,fun _=>rfl⟩
set_option maxRecDepth 100000
theorem zfM{B:Nat}{e:TypeId}{w:World}{v:Value}{l:List Value}(h:Own B w e v l):Hz (fun i=>i<B) w (fun X=>Row X v l):=fun X hX=>(h.keep hX fun i hi hs=>by have:=(h.ge hi).1;omega).row
def GD(d:DatL)(B:Nat)(cs:List Value)(w:World):Prop:=Hz (fun i=>i<B) w (fun X=>DatAt X cs d)
theorem znx(d:DatL):∀B cs x y S,GD d B cs x→Keep S x y→(∀i,S i→i<B)→GD d B cs y:=fun B cs x y S h hk hS X hX=>h X ((hk.mono fun i _ hi=>hS i hi).trans hX)
theorem zko{d:DatL}{B:Nat}{cs:List Value}{w:World}(h:GD d B cs w):cs.length=5∧∀x∈cs,one x=true:=by
 obtain⟨nm,nu,tx,rw',rfl,⟨vals,h1,_,_⟩,h2,h3,h4⟩:=h.now.ex
 exact⟨rfl,zem _ _ _ _ _ h1.isOne h2.isOne h3.isOne h4.isOne⟩
theorem PkG{w:World}{t:Int}{wv:Value}{oa:Option Addr}{on oc:Nat}{ws:List (Lab×Bool)}{d:DatL}(ht1:1≤t)(ht2:t≤65535)(hr:Rows 2 WdC w wv ws)
  (hc:∀(b:Nat) (w1:World),Rdr w w1 b ws (.slice oa on oc) 0→Fn Tryz.prog (if zcY ws=true then 193 else 194) #[.pointer (some ⟨b,0,Option.none⟩),vi t] w1 (fun v w'=>(∃cs:List Value,v= .agg cs.toArray∧GD d w1.heap.size cs w')∧Rdr w w' b [] (.slice oa on oc) 0∧Keep (fun i=>i=b) w1 w')):
  Fn Tryz.prog 166 #[vi t,wv,.slice oa on oc] w (fun v w'=>Ext w w'∧∃cs:List Value,v= .tuple #[.agg cs.toArray,vi 0]∧GD d w.heap.size cs w'):=by
 refine Fn.mono (zlc (e:=0) (G:=GD d) ht1 ht2 hr (znx d) (fun b w1 h=>Fn.mono (hc b w1 h) ?_)) ?_
 ·rintro v w' ⟨⟨cs,rfl,hg⟩,h2⟩
  exact⟨⟨cs,rfl,(zko hg).1,(zko hg).2,hg⟩,h2⟩
 ·rintro v w' ⟨hE,h0,_⟩
  obtain⟨cs,B,rfl,hB,hg⟩:=h0 rfl
  exact⟨hE,cs,rfl,fun X hX=>hg X (hX.mono fun i _ h=>by omega)⟩
set_option maxRecDepth 10000
def zdv(l:Lab):Bool:=match l with
 |c::_=>decide (c=32)||decide (c=9)
 | []=>false
def zmQ(n:Nat)(x:Lab×List (Lab×Bool)):List EntL:=if x.2=[] then [] else [⟨n,zdv x.1,x.2⟩]
def entF(n:Nat):List (Lab×List (Lab×Bool))→List EntL
 | []=>[]
 |x::xs=>zmQ n x++entF (n+1) xs
theorem zj7:∀(n:Nat) (xs ys:List (Lab×List (Lab×Bool))),entF n (xs++ys)=entF n xs++entF (n+xs.length) ys
 |n,[],ys=>rfl
 |n,x::xs,ys=>by
  rw[List.cons_append,entF,entF,zj7 (n+1) xs ys,List.append_assoc,List.length_cons,show n+1+xs.length=n+(xs.length+1) by omega]
theorem zhq:∀(n:Nat) (xs:List (Lab×List (Lab×Bool))),(entF n xs).length≤xs.length
 |n,[]=>Nat.le_refl _
 |n,x::xs=>by
  have:=zhq (n+1) xs
  rw[entF,List.length_append,List.length_cons]
  unfold zmQ
  split<;>simp<;>omega
theorem zme:∀(ls:List Lab) (n:Nat) (pre suf:List (Nat×Lab)) (x:Nat×Lab),numL n ls=pre++x::suf→∃h:pre.length<ls.length,x=(n+pre.length,ls[pre.length])
 | [],n,pre,suf,x,h=>by simp[numL]at h
 |l::ls,n,[],suf,x,h=>by
  injection h with h1 _
  exact⟨by simp,h1.symm⟩
 |l::ls,n,p::pre,suf,x,h=>by
  injection h with _ h2
  obtain⟨h3,h4⟩:=zme ls (n+1) pre suf x h2
  refine⟨by simpa using h3,?_⟩
  rw[h4]
  simp
  omega
theorem zhb:∀(ls:List Lab) (n:Nat),(numL n ls).length=ls.length
 | [],_=>rfl
 |l::ls,n=>by rw[numL,List.length_cons,zhb ls,List.length_cons]
theorem TR.rows{B b:Nat}{w:World}{out:List EntL}{nl ln:Int}{nb bg:Bool}{nw:List (Lab×Bool)}{ov wv:Value}{G:List (EntL×List Value)}(h:TR B w b out nl nb nw ln bg ov wv G):Rows 3 (EntC w) w ov out:=by
 obtain⟨L,k1,k2,k3⟩:=h.oo.rows
 rw[h.ol]
 refine⟨L,k1,by rw[k2,List.length_map],fun i hi hi'=>?_⟩
 have hi2:i<G.length:=by omega
 rw[(k3 i hi hi2).1,List.getElem_map]
 obtain⟨v,e,h1,_⟩:=h.fr _ (List.getElem_mem hi2)
 exact⟨v,e,h1⟩
structure LnsOk(xs:List (Lab×List (Lab×Bool))):Prop where
 each:∀x∈xs,Toks x.1 x.2∧zgm x.1∧x.1.length≤100000000
 len:(za0 (xs.map Prod.fst)).length≤3900000000
 few:xs.length≤1000000000
theorem zlj{w:World}(hX:WX w){xs:List (Lab×List (Lab×Bool))}(hx:LnsOk xs):Fn Tryz.prog 61 #[vs (za0 (xs.map Prod.fst))] w (fun v w'=>Ext w w'∧∃ev,v= .tuple #[ev,vi 0,vi 0]∧(∀a n c,ev= .slice (some a) n c→w.heap.size≤a.block)∧Hz (fun i=>i<w.heap.size) w' (fun X=>Rows 3 (EntC X) X ev (entF 1 xs))):=by
 obtain⟨s,hs⟩:∃s,za0 (xs.map Prod.fst)=s:=⟨_,rfl⟩
 have hfew:=hx.few
 have hsl:s.length≤3900000000:=hs▸hx.len
 rw[hs]
 refine enter Tryz.func61 Tryz.ntmps61 rfl rfl ?_
 refine go trivial ?_
 refine zhy ?_
 intro w1 hE1 hs1 hA hB hC
 obtain⟨A,hAe⟩:∃A,w.heap.size=A:=⟨_,rfl⟩
 simp only[World.size_alloc]
 rw[hAe]at hA hB hC ⊢
 refine go trivial ?_
 refine rq ?_;intro gd K hgd hK
 try simp only[go_sem]
 refine⟨by kernel_rfl,?_⟩
 rw[show bdV Tryz.prog 158 []=some (.agg #[.slice Option.none 0 0,vi 0,.bool false,.slice Option.none 0 0,vi 0,.bool false,.slice Option.none 0 0]) from by kernel_rfl]
 try simp only[go_sem]
 simp only[World.size_alloc]
 refine st_al2 ?_
 intro z1 hz1 hzs hR hP
 have hw1:w1.heap.size=A+3:=by omega
 rw[hw1]at hR hP ⊢
 refine zaq (P:=Tryz.prog) rfl rfl rfl hP (by simp) (by simp) ?_
 intro w2 hs2 hP2 hk2
 try simp only[go_sem]
 refine hK _ _ ?_;clear hK hgd;clear K;try clear gd
 have hE2:Ext w1 w2:=Keep.to_ext hz1 rfl (fun i hi=>by omega) hk2
 have hR2:=(hk2.block (A+3) (by omega) (by omega)).trans hR
 have hw2:w2.heap.size=A+5:=by omega
 have e9:w1.heap.size+1=A+4:=by omega
 simp only[World.size_alloc,e9,hw1]
 refine go trivial ?_
 refine rc trivial (zns w2 s) ?_
 rintro _ w3 ⟨rfl,hE3,hs3,hL3⟩
 rw[hw2]at hL3 ⊢
 have hw3:w3.heap.size=A+6:=by omega
 have hE13:=(hE1.trans hE2).trans hE3
 have hA3:=Ext.at (hE2.trans hE3) hA
 have hB3:=Ext.at (hE2.trans hE3) hB
 have hC3:=Ext.at (hE2.trans hE3) hC
 have hR3:=Ext.at hE3 hR2
 have hP3:=Ext.at hE3 hP2
 refine rgo trivial ?_
 refine W_rangeT (g:=123) (cap:=#[.pointer (some ⟨A+5,0,Option.none⟩)]) (vq0) rfl (linesIt (w0:=w) (C:=fun i=>i=A+3) (ls:=xs.map Prod.fst) hX hE13 (by rw[hs];exact hL3) (by omega) (by omega) (fun i hi=>by omega) (by omega) (fun l hl=>by
   obtain⟨x,hxm,rfl⟩:=List.mem_map.1 hl
   exact(hx.each x hxm).2.1) (by rw[hs];exact hsl) (by rw[List.length_map];exact hfew)) (Keep.refl _ _) (Nat.le_refl _) (fun i hi=>by omega) (fun i hi=>by omega)
  (fun x B args h=>by rw[show args=_ from h];rfl)
  (fun pre V=>(V.heap[A]? =some (.cells #[.slice Option.none 0 0] 117 (0,0))∧V.heap[A+1]? =some (.cells #[vi 0] 3 (0,0))∧V.heap[A+1+1]? =some (.cells #[vi 0] 114 (0,0))∧V.heap[A+4]? =some (.cells #[.pointer (some ⟨A+3,0,Option.none⟩)] 155 (0,0)))∧Keep (fun i=>i=A+3∨i=A+5∨A+6≤i) w3 V∧
   ((pre=[]∧V.heap[A+3]? =some (.cells #[.slice Option.none 0 0,vi 0,.bool false,.slice Option.none 0 0,vi 0,.bool false,.slice Option.none 0 0] 158 (0,0)))∨∃ln,TRx (A+8) V (A+3) (entF 1 (xs.take pre.length)) 0 false [] ln false))
  (fun _ _ _=>False) ?_ (fun _ _ _ _ h _=>h.elim) ?_ ?_ ?_ (fun _ _ _ _ _ _ h _=>h.elim)
 ·rintro pre V V' ⟨⟨h1,h2,h3,h4⟩,h5,h6⟩ hk
  have lt:=fun {i:Nat} {o:Obj} (h:V.heap[i]? =some o)=>(Array.getElem?_eq_some_iff.1 h).1
  have kp:∀{i:Nat} {o:Obj},V.heap[i]? =some o→i<A+5→V'.heap[i]? =some o:=fun {i o} h hi=>(hk.block i (lt h) (by unfold span;omega)).trans h
  refine⟨⟨kp h1 (by omega),kp h2 (by omega),kp h3 (by omega),kp h4 (by omega)⟩,h5.trans (hk.mono fun i _ h=>by unfold span at h;omega),?_⟩
  rcases h6 with ⟨h6,h7⟩| ⟨ln,ov,wv,G,h6⟩
  ·exact .inl ⟨h6,kp h7 (by omega)⟩
  ·exact .inr ⟨ln,ov,wv,G,h6.low (hk.mono fun i _ h=>by unfold span at h;omega)⟩
 ·exact⟨⟨hA3,hB3,hC3,hP3⟩,Keep.refl _ _,.inl ⟨rfl,hR3⟩⟩
 ·rintro lp pre ⟨n,l⟩ V args ⟨suf,hsf⟩ hszV ⟨⟨h1,h2,h3,h4⟩,h5,h6⟩ hargs
  obtain⟨hpl,hxe⟩:=zme _ _ _ _ _ hsf
  rw[List.length_map]at hpl
  injection hxe with hn hle
  rw[List.getElem_map]at hle
  obtain⟨x,hxx⟩:∃x,xs[pre.length]=x:=⟨_,rfl⟩
  rw[hxx]at hle
  obtain⟨hT,_,hll⟩:=hx.each x (hxx▸List.getElem_mem hpl)
  obtain rfl:args=#[vi (n:Nat),vs l]:=hargs
  have hout:entF 1 (xs.take (pre.length+1))=entF 1 (xs.take pre.length)++zmQ n x:=by
   rw[zak hpl,zj7,hxx,List.length_take,Nat.min_eq_left (by omega),←hn,entF,entF,List.append_nil]
  have hol:(entF 1 (xs.take pre.length)).length≤1000000000:=by
   have:=zhq 1 (xs.take pre.length)
   rw[List.length_take]at this
   omega
  refine go trivial ?_
  refine⟨rfl,KeepB.refl _ _ _,fun V2 hV2=>?_⟩
  have lt:=fun {i:Nat} {o:Obj} (h:V.heap[i]? =some o)=>(Array.getElem?_eq_some_iff.1 h).1
  have hs22:=hV2.size
  have kp:∀{i:Nat} {o:Obj},V.heap[i]? =some o→i<A+5→V2.heap[i]? =some o:=fun {i o} h hi=>(hV2.block i (lt h) (by unfold two;omega)).trans h
  obtain⟨ln,ov,wv,G,hTR⟩:∃ln,TRx (A+8) V2 (A+3) (entF 1 (xs.take pre.length)) 0 false [] ln false:=by
   rcases h6 with ⟨h6,h7⟩| ⟨ln,ov,wv,G,h6⟩
   ·refine⟨0,.slice Option.none 0 0,.slice Option.none 0 0,[],kp h7 (by omega),by omega,by omega,Owns.nil _ _ _ _ _,Owns.nil _ _ _ _ _,fun i h=>(by cases h),?_,fun y hy=>(by cases hy)⟩
    rw[h6];rfl
   ·exact⟨ln,ov,wv,G,h6.low (hV2.mono fun i _ h=>by unfold two at h;omega)⟩
  have g4:=kp h4 (by omega)
  have q40:zad V2 (some ⟨A+4,0,Option.none⟩)=some (.pointer (some ⟨A+3,0,Option.none⟩)):=zaa g4 rfl
  refine go trivial ?_
  refine rq ?_;intro gd K hgd hK
  try simp (disch:=first|omega|assumption|rfl) only[go_sem,q40,Nat.zero_add]
  refine zaq (P:=Tryz.prog) rfl rfl rfl hTR.h (by simp) (by simp) ?_
  intro v1 hs1' hb1 hk1
  try simp only[go_sem]
  refine hK _ _ ?_;clear hK hgd;clear K;try clear gd
  have hT1:TR (A+8) v1 (A+3) (entF 1 (xs.take pre.length)) 0 false [] n false ov wv G:=TR.turn hTR (hk1.mono fun i _ e=>by omega) hb1
  have hV2l:=(Array.getElem?_eq_some_iff.1 g4).1
  have q41:zad v1 (some ⟨A+4,0,Option.none⟩)=some (.pointer (some ⟨A+3,0,Option.none⟩)):=zaa ((hk1.block (A+4) hV2l (by omega)).trans g4) rfl
  have k5:zad v1 (some ⟨A+3,5,Option.none⟩)=some (.bool false):=zaa hT1.h rfl
  refine go (an4 q41 k5 Nat.zero_add Bool.not_false) ?_
  refine rq ?_;intro gd K hgd hK
  try simp (disch:=first|omega|assumption|rfl) only[go_sem,q41,Nat.zero_add]
  refine zaq (P:=Tryz.prog) rfl rfl rfl hT1.h (by simp) (by simp) ?_
  intro v2 hs2' hb2 hk2'
  try simp only[go_sem]
  refine hK _ _ ?_;clear hK hgd;clear K;try clear gd
  have hT2:TR (A+8) v2 (A+3) (entF 1 (xs.take pre.length)) 0 false [] n true ov wv G:=TR.turn hT1 (hk2'.mono fun i _ e=>by omega) hb2
  have g42:=(hk2'.block (A+4) (by omega) (by omega)).trans ((hk1.block (A+4) hV2l (by omega)).trans g4)
  have q42:zad v2 (some ⟨A+4,0,Option.none⟩)=some (.pointer (some ⟨A+3,0,Option.none⟩)):=zaa g42 rfl
  refine go trivial ?_
  refine zas (Q:=fun e' σ' ds' v'=>e'= .normal∧ds'=[]∧(σ' 5= .pointer (some ⟨A+4,0,Option.none⟩)∧σ' 7=vs l)∧TR (A+8) v' (A+3) (entF 1 (xs.take pre.length)) 0 (zdv l) [] n true ov wv G∧Keep (fun i=>i=A+3) v2 v') ?_ ?_
  ·have i00:(0:Int)≤0:=by decide
   cases hlc:l with
   |nil=>
    have dn:decide (([]:Lab)=[])=true:=rfl
    refine zaF (fun i=>i==16) [(0,true),(1,true),(2,true),(3,true),(4,true),(5,true),(6,true),(7,true),(8,true),(9,true),(10,true),(11,true),(12,true),(13,true),(14,true),(15,true),(16,false)] NoS mixed (by kernel_rfl) ?_;intro gd K x hgd hx hxe hK;have hx0:=zaT hxe;clear hxe
    have hg3:∀n σ b,zaE gd n σ (some (3,b))=zap (ev n σ (.tmp 30)) b:=(fun n σ b=>by rw[zag,show gd 3=some 30 from(by rw[hgd];rfl)];rfl);have hg7:∀n σ b,zaE gd n σ (some (7,b))=zap (ev n σ (.tmp 34)) b:=(fun n σ b=>by rw[zag,show gd 7=some 34 from(by rw[hgd];rfl)];rfl)
    have q4x:=zab hx0 q42
    have hTx:=hT2.ext hx0
    simp (disch:=first|omega|assumption|rfl) only[go_sem,q4x,Nat.zero_add,dn,zhv,↓hg3,↓hg7]
    refine zaq (P:=Tryz.prog) rfl rfl rfl hTx.h (by simp) (by simp) ?_
    intro v3 hs3' hb3 hk3
    refine⟨.inl rfl,?_⟩
    simp (disch:=first|omega|assumption|rfl) only[go_sem,↓hg3,↓hg7]
    refine hK _ _ ?_;clear hK hgd;clear K;try clear gd
    exact⟨rfl,rfl,⟨vr0,vr0⟩,TR.turn hTx (hk3.mono fun i _ e=>by omega) hb3,(hx0.mono fun _ _ h=>h.elim).trans hk3⟩
   |cons c r=>
    have dn:decide (c::r=[])=false:=rfl
    have r0:(0:Int)<((c::r).length:Int):=by rw[List.length_cons];omega
    have o32:decide ((c.toNat:Int)=32)=decide (c=32):=zma c 32 (by decide)
    have o9:decide ((c.toNat:Int)=9)=decide (c=9):=zma c 9 (by decide)
    have hin:(0:Int).toNat<(c::r).length:=by simp
    have hb9:(c::r)[(0:Int).toNat]'hin=c:=rfl
    have hbc:zao c= .int .u8 (c.toNat:Int):=rfl
    by_cases h32:c=32
    ·have hbl:zdv (c::r)=true:=by show(decide (c=32)||decide (c=9))=_;rw[decide_eq_true h32];rfl
     have d32:decide ((c.toNat:Int)=32)=true:=by rw[o32];exact decide_eq_true h32
     rw[hbl]
     refine zaF (fun i=>i==16) [(0,true),(1,true),(2,true),(3,true),(4,true),(5,true),(6,true),(7,true),(8,true),(9,true),(10,true),(11,true),(12,true),(13,true),(14,true),(15,true),(16,false)] NoS mixed (by kernel_rfl) ?_;intro gd K x hgd hx hxe hK;have hx0:=zaT hxe;clear hxe
     have hg3:∀n σ b,zaE gd n σ (some (3,b))=zap (ev n σ (.tmp 30)) b:=(fun n σ b=>by rw[zag,show gd 3=some 30 from(by rw[hgd];rfl)];rfl);have hg7:∀n σ b,zaE gd n σ (some (7,b))=zap (ev n σ (.tmp 34)) b:=(fun n σ b=>by rw[zag,show gd 7=some 34 from(by rw[hgd];rfl)];rfl)
     have q4x:=zab hx0 q42
     have hTx:=hT2.ext hx0
     simp (disch:=first|omega|assumption|rfl) only[go_sem,q4x,Nat.zero_add,dn,i00,r0,hb9,hbc,d32,↓hg3,↓hg7]
     refine zaq (P:=Tryz.prog) rfl rfl rfl hTx.h (by simp) (by simp) ?_
     intro v3 hs3' hb3 hk3
     refine⟨.inl rfl,?_⟩
     simp (disch:=first|omega|assumption|rfl) only[go_sem,↓hg3,↓hg7]
     refine hK _ _ ?_;clear hK hgd;clear K;try clear gd
     exact⟨rfl,rfl,⟨vr0,vr0⟩,TR.turn hTx (hk3.mono fun i _ e=>by omega) hb3,(hx0.mono fun _ _ h=>h.elim).trans hk3⟩
    ·have d32:decide ((c.toNat:Int)=32)=false:=by rw[o32];exact decide_eq_false h32
     obtain⟨z,hz⟩:∃z,decide (c=9)=z:=⟨_,rfl⟩
     have d9:decide ((c.toNat:Int)=9)=z:=by rw[←hz];exact o9
     have hbl:zdv (c::r)=z:=by show(decide (c=32)||decide (c=9))=_;rw[decide_eq_false h32,hz];rfl
     rw[hbl]
     cases z with
     |true=>
      refine zaF (fun i=>i==16) [(0,true),(1,true),(2,true),(3,true),(4,true),(5,true),(6,true),(7,true),(8,true),(9,true),(10,true),(11,true),(12,true),(13,true),(14,true),(15,true),(16,false)] NoS mixed (by kernel_rfl) ?_;intro gd K x hgd hx hxe hK;have hx0:=zaT hxe;clear hxe
      have hg3:∀n σ b,zaE gd n σ (some (3,b))=zap (ev n σ (.tmp 30)) b:=(fun n σ b=>by rw[zag,show gd 3=some 30 from(by rw[hgd];rfl)];rfl);have hg7:∀n σ b,zaE gd n σ (some (7,b))=zap (ev n σ (.tmp 34)) b:=(fun n σ b=>by rw[zag,show gd 7=some 34 from(by rw[hgd];rfl)];rfl)
      have q4x:=zab hx0 q42
      have hTx:=hT2.ext hx0
      simp (disch:=first|omega|assumption|rfl) only[go_sem,q4x,Nat.zero_add,dn,i00,r0,hb9,hbc,d32,d9,↓hg3,↓hg7]
      refine zaq (P:=Tryz.prog) rfl rfl rfl hTx.h (by simp) (by simp) ?_
      intro v3 hs3' hb3 hk3
      refine⟨.inl rfl,?_⟩
      simp (disch:=first|omega|assumption|rfl) only[go_sem,↓hg3,↓hg7]
      refine hK _ _ ?_;clear hK hgd;clear K;try clear gd
      exact⟨rfl,rfl,⟨vr0,vr0⟩,TR.turn hTx (hk3.mono fun i _ e=>by omega) hb3,(hx0.mono fun _ _ h=>h.elim).trans hk3⟩
     |false=>
      refine zaF (fun i=>i==16) [(0,true),(1,true),(2,true),(3,true),(4,true),(5,true),(6,true),(7,true),(8,true),(9,true),(10,true),(11,true),(12,true),(13,true),(14,true),(15,true),(16,false)] NoS mixed (by kernel_rfl) ?_;intro gd K x hgd hx hxe hK;have hx0:=zaT hxe;clear hxe
      have hg3:∀n σ b,zaE gd n σ (some (3,b))=zap (ev n σ (.tmp 30)) b:=(fun n σ b=>by rw[zag,show gd 3=some 30 from(by rw[hgd];rfl)];rfl);have hg7:∀n σ b,zaE gd n σ (some (7,b))=zap (ev n σ (.tmp 34)) b:=(fun n σ b=>by rw[zag,show gd 7=some 34 from(by rw[hgd];rfl)];rfl)
      have q4x:=zab hx0 q42
      have hTx:=hT2.ext hx0
      simp (disch:=first|omega|assumption|rfl) only[go_sem,q4x,Nat.zero_add,dn,i00,r0,hb9,hbc,d32,d9,↓hg3,↓hg7]
      refine zaq (P:=Tryz.prog) rfl rfl rfl hTx.h (by simp) (by simp) ?_
      intro v3 hs3' hb3 hk3
      refine⟨.inl rfl,?_⟩
      simp (disch:=first|omega|assumption|rfl) only[go_sem,↓hg3,↓hg7]
      refine hK _ _ ?_;clear hK hgd;clear K;try clear gd
      exact⟨rfl,rfl,⟨vr0,vr0⟩,TR.turn hTx (hk3.mono fun i _ e=>by omega) hb3,(hx0.mono fun _ _ h=>h.elim).trans hk3⟩
  rintro _ σ1 _ v3 ⟨rfl,rfl,⟨s5,s7⟩,hT3,hk3⟩
  have hs3':=hk3.size
  have g43:=(hk3.block (A+4) (by omega) (by omega)).trans g42
  have q43:zad v3 (some ⟨A+4,0,Option.none⟩)=some (.pointer (some ⟨A+3,0,Option.none⟩)):=zaa g43 rfl
  rw[hle]at s7
  have hT':Toks l x.2:=by rw[hle];exact hT
  rw[←hle]at s7
  refine go (an2 s5 s7) ?_
  refine rc (an3 s5 s7 q43) (read_ok ⟨ov,wv,G,hT3⟩ hT' (by rw[hle];exact hll)) ?_
  rintro _ v4 ⟨rfl,hR4,hk4⟩
  have hs4':=hk4.size
  have g44:=(hk4.block (A+4) (by omega) (by omega)).trans g43
  have q44:zad v4 (some ⟨A+4,0,Option.none⟩)=some (.pointer (some ⟨A+3,0,Option.none⟩)):=zaa g44 rfl
  have hR4':=hR4
  obtain⟨ov4,wv4,G4,hT4⟩:=hR4
  have k6:zad v4 (some ⟨A+3,6,Option.none⟩)=some (.slice Option.none 0 0):=zaa hT4.h rfl
  refine rgo (an6 s5 s7 (show decide ((0:Int)=0)=true from rfl) q44 k6 Nat.zero_add) ?_
  have hwl:=zfg hT
  refine rc (an2 s5 q44) (end_ok hR4' hol (by omega)) ?_
  rintro _ v5 ⟨hR5,hk5⟩
  have hs5':=hk5.size
  refine rgo trivial ?_
  have hkk:Keep (fun i=>i=A+3∨A+8≤i) V2 v5:=(((((hk1.mono fun i _ e=> .inl e).trans (hk2'.mono fun i _ e=> .inl e)).trans (hk3.mono fun i _ e=> .inl e)).trans hk4).trans hk5)
  have kq:∀{i:Nat} {o:Obj},V.heap[i]? =some o→i<A+5→i≠A+3→v5.heap[i]? =some o:=fun {i o} h h1 h2=>(hkk.block i (by have:=(Array.getElem?_eq_some_iff.1 (kp h h1)).1;exact this) (by omega)).trans (kp h h1)
  refine⟨⟨⟨kq h1 (by omega) (by omega),kq h2 (by omega) (by omega),kq h3 (by omega) (by omega),kq h4 (by omega) (by omega)⟩,(h5.trans (hV2.mono fun i _ h=>by unfold two at h;omega)).trans (hkk.mono fun i _ h=>by omega),.inr ⟨n,?_⟩⟩,hkk.toB (by omega) fun i hi h=>by omega⟩
  have hfin:(if x.2=[] then entF 1 (xs.take pre.length) else entF 1 (xs.take pre.length)++ [⟨if x.2=[] then 0 else(n:Int),zdv l,x.2⟩])=entF 1 (xs.take (pre++ [(n,l)]).length):=by
   rw[List.length_append,show([(n,l)]:List (Nat×Lab)).length=1 from rfl,hout]
   unfold zmQ
   by_cases h0:x.2=[]
   ·rw[if_pos h0,if_pos h0,List.append_nil]
   ·rw[if_neg h0,if_neg h0,if_neg h0,hle]
  rw[←hfin]
  exact hR5
 ·rintro xs' w6 rfl hsz6 ⟨⟨h1,h2,h3,h4⟩,h5,h6⟩ hD
  have q4:zad w6 (some ⟨A+4,0,Option.none⟩)=some (.pointer (some ⟨A+3,0,Option.none⟩)):=zaa h4 rfl
  obtain⟨ov,y1,y2,y3,y4,y5,hR6,h1v,hblk,hfin⟩:∃ov y1 y2 y3 y4 y5,w6.heap[A+3]? =some (.cells #[ov,y1,y2,y3,y4,y5,.slice Option.none 0 0] 158 (0,0))∧one ov=true∧(∀a n c,ov= .slice (some a) n c→A≤a.block)∧∀X,Keep (fun i=>i<A+8∧i≠A+3) w6 X→Rows 3 (EntC X) X ov (entF 1 xs):=by
   rcases h6 with ⟨h6,h7⟩| ⟨ln,ov,wv,G,h6⟩
   ·have hx0:xs=[]:=by
     have:=congrArg List.length h6
     rw[zhb,List.length_map]at this
     exact List.length_eq_zero_iff.1 this
    refine⟨_,_,_,_,_,_,h7,rfl,(fun a n c h=>by cases h),fun X _=>?_⟩
    rw[hx0]
    exact Rows.nil _ _ _
   ·rw[zhb,List.length_map,List.take_length]at h6
    have h1v:one ov=true:=by rcases h6.oo.cases with ⟨e,_⟩| ⟨_,_,_,e,_⟩<;>rw[e]<;>rfl
    exact⟨_,_,_,_,_,_,h6.h,h1v,(fun a n c h=>by have:=(h6.oo.ge (b:=a.block) (by rw[h];rfl)).1;omega),fun X hX=>(h6.low hX).rows⟩
  have k6:zad w6 (some ⟨A+3,6,Option.none⟩)=some (.slice Option.none 0 0):=zaa hR6 rfl
  have k0:zad w6 (some ⟨A+3,0,Option.none⟩)=some ov:=zaa hR6 rfl
  have lt:=fun {i:Nat} {o:Obj} (h:w6.heap[i]? =some o)=>(Array.getElem?_eq_some_iff.1 h).1
  have l3:=lt hR6
  have lD:=lt hD
  refine go (an4 q4 k6 Nat.zero_add (show decide ((0:Int)<((0:Nat):Int))=false from rfl)) ?_
  refine rq ?_;intro gd K hgd hK
  try simp (disch:=first|omega|assumption|rfl) only[go_sem,q4,k0,Nat.zero_add]
  refine zaq (P:=Tryz.prog) rfl rfl h1v h1 (by simp) (by simp) ?_
  intro z1 hz1 hb1 hk1
  try simp only[go_sem]
  refine zaq (P:=Tryz.prog) rfl rfl rfl ((hk1.block (A+1) (lt h2) (by omega)).trans h2) (by simp) (by simp) ?_
  intro z2 hz2 hb2 hk2
  try simp only[go_sem]
  refine zaq (P:=Tryz.prog) rfl rfl rfl ((hk2.block (A+1+1) (by have:=lt h3;omega) (by omega)).trans ((hk1.block (A+1+1) (lt h3) (by omega)).trans h3)) (by simp) (by simp) ?_
  intro z3 hz3 hb3 hk3
  try simp only[go_sem]
  refine hK _ _ ?_;clear hK hgd;clear K;try clear gd
  have hkz:Keep (fun i=>A≤i∧i<A+3) w6 z3:=((hk1.mono fun i _ e=>by omega).trans (hk2.mono fun i _ e=>by omega)).trans (hk3.mono fun i _ e=>by omega)
  have g1:z3.heap[A]? =some (.cells #[ov] 117 (0,0)):=(hk3.block A (by omega) (by omega)).trans ((hk2.block A (by omega) (by omega)).trans hb1)
  have g2:z3.heap[A+1]? =some (.cells #[vi 0] 3 (0,0)):=(hk3.block (A+1) (by omega) (by omega)).trans hb2
  refine go trivial ?_
  refine zdC (.inr rfl) Tryz.ntmps61 rfl ((hkz.block _ lD (by omega)).trans hD) ?_
  intro Z hkZ hsZ
  have e1:zad Z (some ⟨A,0,Option.none⟩)=some ov:=zaa ((hkZ.block A (by omega) (by omega)).trans g1) rfl
  have e2:zad Z (some ⟨A+1,0,Option.none⟩)=some (vi 0):=zaa ((hkZ.block (A+1) (by omega) (by omega)).trans g2) rfl
  have e3:zad Z (some ⟨A+1+1,0,Option.none⟩)=some (vi 0):=zaa ((hkZ.block (A+1+1) (by omega) (by omega)).trans hb3) rfl
  refine⟨_,zcP (vr0) rfl rfl e1 (zcP (vr0) rfl rfl e2 (zcP (vr0) rfl rfl e3 zae)),?_⟩
  refine⟨Keep.to_ext (Keep.to_ext (Keep.to_ext hE13 rfl (fun i hi=>by omega) h5) rfl (fun i hi=>by omega) hkz) rfl (fun i hi=>by omega) hkZ,ov,rfl,hblk,fun X hX=>?_⟩
  have e1:Keep (fun i=>i<A+8∧i≠A+3) w6 z3:=hkz.mono fun i _ e=>by omega
  have e2:Keep (fun i=>i<A+8∧i≠A+3) z3 Z:=hkZ.mono fun i _ (e:i=w3.heap.size)=>by omega
  have e3:Keep (fun i=>i<A+8∧i≠A+3) Z X:=hX.mono fun i _ (e:i<A)=>by omega
  exact hfin X ((e1.trans e2).trans e3)
def wF:Bool→Lab→Lab→Bool→List (Lab×Bool)
 |_,[],w,_=>if w=[] then [] else [(w,false)]
 |true,c::s,w,q=>wF false s (w++ [c]) q
 |false,c::s,w,q=>
  if c=92∧s≠ [] then wF true s (w++ [c]) q
  else if c=34 then(if q=true then(w,true)::wF false s [] false else wF false s w true)
  else if q=true then wF false s (w++ [c]) true
  else if c=32 then(if w=[] then wF false s [] false else(w,false)::wF false s [] false)
  else wF false s (w++ [c]) false
theorem zjm(w:World)(t:Int):Fn Tryz.prog 77 #[vi t] w (fun v w'=>v= .tuple #[vi (zaJ t).1,vi (zaJ t).2.1,vi (zaJ t).2.2.2]∧w'=w):=by
 refine enter Tryz.func77 Tryz.ntmps77 rfl rfl ?_
 by_cases h1:t=1
 ·subst h1
  refine go (an9 (show decide ((1:Int)=1)=true from rfl) trivial trivial trivial trivial trivial trivial trivial trivial) ?_
  refine zaf (.inr rfl) Tryz.ntmps77 rfl (zac (vr0) (zac (vr0) (zac (vr0) zae))) ?_
  exact⟨rfl,rfl⟩
 by_cases h28:t=28
 ·subst h28
  refine go (an9 (show decide ((28:Int)=1)=false from rfl) (show decide ((28:Int)=28)=true from rfl) trivial trivial trivial trivial trivial trivial trivial) ?_
  refine zaf (.inr rfl) Tryz.ntmps77 rfl (zac (vr0) (zac (vr0) (zac (vr0) zae))) ?_
  exact⟨rfl,rfl⟩
 by_cases h2:t=2
 ·subst h2
  refine go (an9 (show decide ((2:Int)=1)=false from rfl) (show decide ((2:Int)=28)=false from rfl) (show decide ((2:Int)=2)=true from rfl) trivial trivial trivial trivial trivial trivial) ?_
  refine zaf (.inr rfl) Tryz.ntmps77 rfl (zac (vr0) (zac (vr0) (zac (vr0) zae))) ?_
  exact⟨rfl,rfl⟩
 by_cases h5:t=5
 ·subst h5
  refine go (an9 (show decide ((5:Int)=1)=false from rfl) (show decide ((5:Int)=28)=false from rfl) (show decide ((5:Int)=2)=false from rfl) (show decide ((5:Int)=5)=true from rfl) trivial trivial trivial trivial trivial) ?_
  refine zaf (.inr rfl) Tryz.ntmps77 rfl (zac (vr0) (zac (vr0) (zac (vr0) zae))) ?_
  exact⟨rfl,rfl⟩
 by_cases h12:t=12
 ·subst h12
  refine go (an9 (show decide ((12:Int)=1)=false from rfl) (show decide ((12:Int)=28)=false from rfl) (show decide ((12:Int)=2)=false from rfl) (show decide ((12:Int)=5)=false from rfl) (show decide ((12:Int)=12)=true from rfl) trivial trivial trivial trivial) ?_
  refine zaf (.inr rfl) Tryz.ntmps77 rfl (zac (vr0) (zac (vr0) (zac (vr0) zae))) ?_
  exact⟨rfl,rfl⟩
 by_cases h39:t=39
 ·subst h39
  refine go (an9 (show decide ((39:Int)=1)=false from rfl) (show decide ((39:Int)=28)=false from rfl) (show decide ((39:Int)=2)=false from rfl) (show decide ((39:Int)=5)=false from rfl) (show decide ((39:Int)=12)=false from rfl) (show decide ((39:Int)=39)=true from rfl) trivial trivial trivial) ?_
  refine zaf (.inr rfl) Tryz.ntmps77 rfl (zac (vr0) (zac (vr0) (zac (vr0) zae))) ?_
  exact⟨rfl,rfl⟩
 by_cases h15:t=15
 ·subst h15
  refine go (an9 (show decide ((15:Int)=1)=false from rfl) (show decide ((15:Int)=28)=false from rfl) (show decide ((15:Int)=2)=false from rfl) (show decide ((15:Int)=5)=false from rfl) (show decide ((15:Int)=12)=false from rfl) (show decide ((15:Int)=39)=false from rfl) (show decide ((15:Int)=15)=true from rfl) trivial trivial) ?_
  refine zaf (.inr rfl) Tryz.ntmps77 rfl (zac (vr0) (zac (vr0) (zac (vr0) zae))) ?_
  exact⟨rfl,rfl⟩
 by_cases h6:t=6
 ·subst h6
  refine go (an9 (show decide ((6:Int)=1)=false from rfl) (show decide ((6:Int)=28)=false from rfl) (show decide ((6:Int)=2)=false from rfl) (show decide ((6:Int)=5)=false from rfl) (show decide ((6:Int)=12)=false from rfl) (show decide ((6:Int)=39)=false from rfl) (show decide ((6:Int)=15)=false from rfl) (show decide ((6:Int)=6)=true from rfl) trivial) ?_
  refine zaf (.inr rfl) Tryz.ntmps77 rfl (zac (vr0) (zac (vr0) (zac (vr0) zae))) ?_
  exact⟨rfl,rfl⟩
 by_cases h16:t=16
 ·subst h16
  refine go (an9 (show decide ((16:Int)=1)=false from rfl) (show decide ((16:Int)=28)=false from rfl) (show decide ((16:Int)=2)=false from rfl) (show decide ((16:Int)=5)=false from rfl) (show decide ((16:Int)=12)=false from rfl) (show decide ((16:Int)=39)=false from rfl) (show decide ((16:Int)=15)=false from rfl) (show decide ((16:Int)=6)=false from rfl) (show decide ((16:Int)=16)=true from rfl)) ?_
  refine zaf (.inr rfl) Tryz.ntmps77 rfl (zac (vr0) (zac (vr0) (zac (vr0) zae))) ?_
  exact⟨rfl,rfl⟩
 have hsh:zaJ t=(0,0,0, -1):=by
  unfold zaJ
  rw[if_neg h1,if_neg h28,if_neg h15,if_neg h6,if_neg h16,if_neg (by rintro(h|h|h|h);exact h2 h;exact h5 h;exact h12 h;exact h39 h)]
 rw[hsh]
 refine go (an9 (decide_eq_false h1) (decide_eq_false h28) (decide_eq_false h2) (decide_eq_false h5) (decide_eq_false h12) (decide_eq_false h39) (decide_eq_false h15) (decide_eq_false h6) (decide_eq_false h16)) ?_
 refine zaf (.inr rfl) Tryz.ntmps77 rfl (zac (vr0) (zac (vr0) (zac (vr0) zae))) ?_
 exact⟨rfl,rfl⟩
theorem shape_x(t:Int):(zaJ t).2.2.1=if t=16 then -1 else 0:=by
 unfold zaJ
 by_cases h:t=16
 ·subst h;rfl
 ·rw[if_neg h]
  (repeat' split)<;>rfl
theorem zld{w:World}{cs:List Value}{d:DatL}(hd:DatAt w cs d)(hT:DatT d):Fn Tryz.prog 47 #[.agg cs.toArray] w (fun v w'=>v=vi (zbv d)∧Ext w w'):=by
 have hS:=hT.s
 obtain⟨nm,nu,tx,rw',rfl,⟨vals,⟨an,cn,rfl,hcn,hgn⟩,hvl,hvr⟩,hnu,htx,hrw⟩:=hd.ex
 obtain⟨au,cu,hau,hcu,hgu⟩:=id hnu
 obtain⟨at1,ct,hat,hgt⟩:=zfH htx
 obtain⟨ar,cr,har,_⟩:=id hrw
 rw[List.length_map]at hau har hcu
 subst hau
 subst hat
 subst har
 unfold zbv
 refine enter Tryz.func47 Tryz.ntmps47 rfl rfl ?_
 refine go trivial ?_
 refine zan ?_
 intro w1 hE1 hs1 hA
 have p0:zad w1 (some ⟨w.heap.size,0,Option.none⟩)=some (vi d.ty):=zaa hA rfl
 have p1:zad w1 (some ⟨w.heap.size,1,Option.none⟩)=some (.slice an vals.length cn):=zaa hA rfl
 have p2:zad w1 (some ⟨w.heap.size,2,Option.none⟩)=some (.slice au d.nums.length cu):=zaa hA rfl
 have p3:zad w1 (some ⟨w.heap.size,3,Option.none⟩)=some (.slice at1 d.texts.length ct):=zaa hA rfl
 have p4:zad w1 (some ⟨w.heap.size,4,Option.none⟩)=some (.slice ar d.raw.length cr):=zaa hA rfl
 obtain⟨p,hp⟩:∃p,w.heap.size=p:=⟨_,rfl⟩
 rw[hp]at p0 p1 p2 p3 p4 hA ⊢
 by_cases c1:d.ty<1
 ·rw[if_pos (.inl c1)]
  refine go trivial ?_
  refine rgg [(3,13)] (an3 p0 (decide_eq_true c1) (Nat.add_zero 0)) ?_
  refine go trivial ?_
  refine zaf (.inr rfl) Tryz.ntmps47 rfl (zac (vr0) zae) ?_
  exact⟨rfl,hE1⟩
 by_cases c2:65535<d.ty
 ·rw[if_pos (.inr c2)]
  refine go trivial ?_
  refine rgg [(3,13)] (an4 p0 (decide_eq_false c1) (decide_eq_true c2) (Nat.add_zero 0)) ?_
  refine go trivial ?_
  refine zaf (.inr rfl) Tryz.ntmps47 rfl (zac (vr0) zae) ?_
  exact⟨rfl,hE1⟩
 rw[if_neg (by omega)]
 refine go trivial ?_
 refine rgg [(3,13)] (an4 p0 (decide_eq_false c1) (decide_eq_false c2) (Nat.add_zero 0)) ?_
 refine go trivial ?_
 refine rc (an2 p0 (Nat.add_zero 0)) (zjm w1 d.ty) ?_
 rintro _ w2 ⟨rfl,hw2⟩
 subst hw2
 have hx:=shape_x d.ty
 obtain⟨⟨a,c,x,r⟩,hsh⟩:∃x,zaJ d.ty=x:=⟨_,rfl⟩
 have htxd:txD d=if x<0 then min (max (d.texts.length:Int) 1) 32 else x:=by unfold txD;rw[hsh]
 have hrwd:rwD d=if r<0 then(d.raw.length:Int) else r:=by unfold rwD;rw[hsh]
 have hfb:zb2 d=(decide ((d.names.length:Int)=a) && decide ((d.nums.length:Int)=c) && decide ((d.texts.length:Int)=txD d) && decide ((d.raw.length:Int)=rwD d)):=by unfold zb2;rw[hsh]
 rw[hsh]at hx ⊢
 simp only at hx ⊢
 obtain⟨b6,hb6⟩:∃b,decide ((d.texts.length:Int)=txD d)=b:=⟨_,rfl⟩
 rw[hb6]at hfb
 obtain⟨z,hz⟩:∃b,decide ((d.texts.length:Int)=0)=b:=⟨_,rfl⟩
 refine rgo (an3 p3 (Nat.zero_add 3) hz) ?_
 refine rg2 p0 Nat.add_zero ?_
 repeat refine c_r ?_
 refine zas (Q:=fun e σ' ds' v'=>e= .normal∧ds'=[]∧v'=w2∧(σ' 1= .pointer (some ⟨p,0,Option.none⟩)∧σ' 3=vi a∧σ' 4=vi c∧σ' 5=vi r∧σ' 6= .bool b6)) ?_ ?_
 ·refine wc0 ?_ ?_
  ·intro h16
   have h16':=of_decide_eq_true h16
   rw[if_pos h16']at hx
   rw[if_pos (by omega)]at htxd
   repeat refine c_r ?_
   by_cases k1:(1:Int)≤(d.texts.length:Int)
   ·obtain⟨z2,hz2⟩:∃b,decide ((d.texts.length:Int)≤32)=b:=⟨_,rfl⟩
    have e6:z2=b6:=by rw[←hz2,←hb6];exact decide_eq_decide.2 (by rw[htxd];omega)
    refine rgg [(4,36)] (an5 p3 (Nat.zero_add 3) (decide_eq_true k1) hz2 trivial) ?_
    exact⟨rfl,rfl,rfl,vr0,vr0,vr0,vr0,by rw[←e6];first| (simp only[go_sem];done)| (simp only[go_sem];rfl)⟩
   ·have e6:b6=false:=by rw[←hb6];exact decide_eq_false (by rw[htxd];omega)
    subst e6
    refine rgg [(4,36)] (an3 p3 (Nat.zero_add 3) (decide_eq_false k1)) ?_
    exact⟨rfl,rfl,rfl,vr0,vr0,vr0,vr0,vr0⟩
  ·intro h16
   have h16':=of_decide_eq_false h16
   rw[if_neg h16']at hx
   rw[if_neg (by omega),hx]at htxd
   have e6:z=b6:=by rw[←hz,←hb6,htxd]
   repeat refine c_r ?_
   exact⟨rfl,rfl,rfl,vr0,vr0,vr0,vr0,by rw[←e6];first| (simp only[go_sem];done)| (simp only[go_sem];rfl)⟩
 rintro _ σ1 _ w3 ⟨rfl,rfl,rfl,⟨s1,s3,s4,s5,s6⟩⟩
 repeat refine c_r ?_
 rw[←hvl]at hfb
 refine zas (Q:=fun e σ' ds' v'=>e= .normal∧ds'=[]∧v'=w3∧σ' 1= .pointer (some ⟨p,0,Option.none⟩)∧σ' 68= .bool (!zb2 d)) ?_ ?_
 ·by_cases kA:(vals.length:Int)=a
  rotate_left
  ·have e7:(!zb2 d)=true:=by rw[hfb,decide_eq_false kA];rfl
   rw[e7]
   refine rgg [(5,47),(12,54),(15,57),(23,65)] (an9 s1 s3 s4 s5 s6 p1 (Nat.zero_add 1) (decide_eq_false kA) (an3 Bool.not_true Bool.not_false zcu)) ?_
   exact⟨rfl,rfl,rfl,(vq1 s1),vr0⟩
  by_cases kB:(d.nums.length:Int)=c
  rotate_left
  ·have e7:(!zb2 d)=true:=by rw[hfb,decide_eq_false kB];simp
   rw[e7]
   refine rgg [(5,47),(12,54),(15,57),(23,65)] (an9 s1 s3 s4 s5 s6 p1 (Nat.zero_add 1) (decide_eq_true kA) (an6 p2 (Nat.zero_add 2) (decide_eq_false kB) Bool.not_true Bool.not_false zcu)) ?_
   exact⟨rfl,rfl,rfl,(vq1 s1),vr0⟩
  by_cases kC:(0:Int)≤r
  ·rw[if_neg (by omega)]at hrwd
   by_cases kD:(d.raw.length:Int)=r
   ·have e7:(!zb2 d)=!b6:=by rw[hfb,decide_eq_true kA,decide_eq_true kB,hrwd,decide_eq_true kD];simp
    rw[e7]
    refine rgg [(5,47),(12,54),(15,57),(23,65)] (an9 s1 s3 s4 s5 s6 p1 (Nat.zero_add 1) (decide_eq_true kA) (an9 p2 (Nat.zero_add 2) (decide_eq_true kB) Bool.not_true Bool.not_false (decide_eq_true kC) p4 (Nat.zero_add 4) (decide_eq_true kD))) ?_
    exact⟨rfl,rfl,rfl,(vq1 s1),vr0⟩
   ·have e7:(!zb2 d)=true:=by rw[hfb,hrwd,decide_eq_false kD];simp
    rw[e7]
    refine rgg [(5,47),(12,54),(15,57),(23,65)] (an9 s1 s3 s4 s5 s6 p1 (Nat.zero_add 1) (decide_eq_true kA) (an9 p2 (Nat.zero_add 2) (decide_eq_true kB) Bool.not_true Bool.not_false (decide_eq_true kC) p4 (Nat.zero_add 4) (decide_eq_false kD))) ?_
    exact⟨rfl,rfl,rfl,(vq1 s1),vr0⟩
  ·rw[if_pos (by omega)]at hrwd
   have e7:(!zb2 d)=!b6:=by rw[hfb,decide_eq_true kA,decide_eq_true kB,hrwd];simp
   rw[e7]
   refine rgg [(5,47),(12,54),(15,57),(23,65)] (an9 s1 s3 s4 s5 s6 p1 (Nat.zero_add 1) (decide_eq_true kA) (an9 p2 (Nat.zero_add 2) (decide_eq_true kB) Bool.not_true Bool.not_false (decide_eq_false kC) p4 (Nat.zero_add 4) zcu)) ?_
   exact⟨rfl,rfl,rfl,(vq1 s1),vr0⟩
 clear s1 s3 s4 s5 s6
 rintro _ σ2 _ w4 ⟨rfl,rfl,rfl,s1,s68⟩
 cases hf:zb2 d with
 |false=>
  rw[hf]at s68
  rw[if_pos rfl]
  refine go (an2 s1 s68) ?_
  refine zaf (.inr rfl) Tryz.ntmps47 rfl (zac (vr0) zae) ?_
  exact⟨rfl,hE1⟩
 |true=>
 rw[hf]at s68
 rw[if_neg (by decide)]
 refine go (an2 s1 s68) ?_
 have hnames:=hS.names
 have hnn:=hT.nn
 refine zbq vals.length (fun i σ v=>(σ 1= .pointer (some ⟨p,0,Option.none⟩)∧σ 7=vi i)∧Ext w4 v∧∀j (h:j<d.names.length),j<i→zaL d.names[j]=0) ?_ ?_ ?_
 ·exact⟨⟨(vr1 s1),vr0⟩,Keep.refl _ _,fun j _ h=>by omega⟩
 ·rintro i σ v hi r ⟨⟨s1,s7⟩,hE,hlow⟩
  have g0:=hgn i hi
  obtain⟨xN,rfl⟩:=Option.isSome_iff_exists.1 (zai g0)
  have hEv:=hE1.trans hE
  have g:=zab hEv g0
  have hin:i<d.names.length:=by omega
  have hrow:=(hvr i hi hin).ext hEv
  obtain⟨nv,hnv⟩:∃nv,vals[i]=nv:=⟨_,rfl⟩
  obtain⟨n,hn⟩:∃n,d.names[i]=n:=⟨_,rfl⟩
  rw[hnv]at g hrow
  rw[hn]at hrow
  have hnS:=hnames n (hn▸List.getElem_mem hin)
  obtain⟨r1,r2,r3,r4⟩:=r
  have q1:=zab hE p1
  refine go (an9 s1 s7 q1 (Nat.zero_add 1) r1 r2 r3 g trivial) ?_
  refine rc (an9 s1 s7 q1 (Nat.zero_add 1) r1 r2 r3 g trivial) (zc7 v nv n hrow (fun l hl=>by have:=hnS.1 l hl;omega) (by have:=hnS.2;omega)) ?_
  rintro _ v1 ⟨rfl,hE1'⟩
  by_cases hc:zaL n=0
  ·refine rgo (an4 s1 s7 r4 (decide_eq_true hc)) ?_
   refine⟨rfl,⟨(vq1 s1),(vq1 r4)⟩,hE.trans hE1',fun j hj hji=>?_⟩
   by_cases e:j=i
   ·subst e;rw[hn];exact hc
   ·exact hlow j hj (by omega)
  ·refine rgo (an2 s1 (decide_eq_false hc)) ?_
   refine zaf (.inr rfl) Tryz.ntmps47 rfl (zac (vr0) zae) ?_
   have hfind:d.names.find? (fun n=>decide (zaL n≠0))=some n:=by
    rw[List.find?_eq_some_iff_getElem]
    refine⟨decide_eq_true hc,i,hin,hn,fun j hj=>?_⟩
    simp[hlow j (by omega) hj]
   rw[hfind]
   exact⟨rfl,hEv.trans hE1'⟩
 clear s1 s68
 rintro σ v r ⟨⟨s1,s7⟩,hE,hlow⟩
 have hnone:d.names.find? (fun n=>decide (zaL n≠0))=Option.none:=by
  rw[List.find?_eq_none]
  intro n hn
  obtain⟨j,hj,rfl⟩:=List.mem_iff_getElem.1 hn
  simp[hlow j hj (by omega)]
 rw[hnone]
 simp only
 have hEv:=hE1.trans hE
 have u0:=zab hE p0
 have u1:=zab hE p1
 have u2:=zab hE p2
 have u3:=zab hE p3
 have u4:=zab hE p4
 refine go (an5 s1 s7 u1 r (Nat.zero_add 1)) ?_
 obtain⟨tt,htt⟩:∃tt,decide (d.ty=15∧65535<d.nums.headD 0)=tt:=⟨_,rfl⟩
 refine zas (Q:=fun e σ' ds' v'=>e= .normal∧ds'=[]∧v=v'∧σ' 1= .pointer (some ⟨p,0,Option.none⟩)∧σ' 94= .bool tt) ?_ ?_
 ·by_cases c3:d.ty=15
  ·have hn1:d.nums.length=1:=by
    unfold zb2 at hf
    simp only[Bool.and_eq_true,decide_eq_true_eq]at hf
    have h2:=hf.1.1.2
    rw[c3]at h2
    have h3:(zaJ 15).2.1=1:=rfl
    rw[h3]at h2
    omega
   obtain⟨x,hx⟩:∃x,d.nums[0]'(by omega)=x:=⟨_,rfl⟩
   have hhd:d.nums.headD 0=x:=by
    cases hnn:d.nums with
    |nil=>rw[hnn]at hn1;cases hn1
    |cons a l=>simp[hnn]at hx;simpa using hx
   have gu:=zab hEv (hgu 0 (by rw[List.length_map];omega))
   rw[List.getElem_map,hx,zam]at gu
   obtain⟨xU,rfl⟩:∃x,au=some x:=by
    cases au with
    |none=>cases gu
    |some x=>exact⟨x,rfl⟩
   have n0:(0:Int)<(d.nums.length:Int):=by omega
   have d2:decide ((65535:Int)<x)=tt:=by rw[←htt,hhd];exact decide_eq_decide.2 ⟨fun h=>⟨c3,h⟩,fun h=>h.2⟩
   refine rgg [(3,88)] (an9 s1 u0 u2 (decide_eq_true c3) gu n0 d2 (Nat.add_zero 0) (an4 (Nat.zero_add 2) Int.toNat_zero (Nat.zero_mul 1) (zam (some xU)))) ?_
   exact⟨rfl,rfl,rfl,(vq1 s1),vr0⟩
  ·have d2:tt=false:=by rw[←htt];exact decide_eq_false fun h=>c3 h.1
   subst d2
   refine rgg [(3,88)] (an4 s1 u0 (decide_eq_false c3) (Nat.add_zero 0)) ?_
   exact⟨rfl,rfl,rfl,(vq1 s1),vr0⟩
 clear s1
 rintro _ σ3 _ v1 ⟨rfl,rfl,hv1,s1,s94⟩
 subst hv1
 cases tt with
 |true=>
  rw[if_pos (of_decide_eq_true htt)]
  refine go (an2 s1 s94) ?_
  refine zaf (.inr rfl) Tryz.ntmps47 rfl (zac (vr0) zae) ?_
  exact⟨rfl,hEv⟩
 |false=>
 rw[if_neg (of_decide_eq_false htt)]
 have htx':=hS.tx
 have hnt:=hS.nt
 refine go (an2 s1 s94) ?_
 clear hlow
 refine zbq d.texts.length (fun i σ v'=>(σ 1= .pointer (some ⟨p,0,Option.none⟩)∧σ 9=vi i)∧v'=v∧∀j (h:j<d.texts.length),j<i→d.texts[j].length≤255) ?_ ?_ ?_
 ·exact⟨⟨(vr1 s1),vr0⟩,rfl,fun j _ h=>by omega⟩
 ·rintro i σ v' hi ⟨r1,r2,r3,r4⟩ ⟨⟨s1,s9⟩,rfl,hlow⟩
  obtain⟨xT,rfl,g0⟩:=hgt i hi
  have g:=zab hEv g0
  obtain⟨tx,htxi⟩:∃t,d.texts[i]=t:=⟨_,rfl⟩
  rw[htxi]at g
  have htl:=htx' tx (htxi▸List.getElem_mem hi)
  by_cases hlt:255<tx.length
  ·have d5:decide ((255:Int)<(tx.length:Int))=true:=decide_eq_true (by omega)
   refine go (an9 s1 s9 u3 (Nat.zero_add 3) r1 r2 r3 g d5) ?_
   refine zaf (.inr rfl) Tryz.ntmps47 rfl (zac (vr0) zae) ?_
   have hlg:zep d.texts=true:=by
    unfold zep
    rw[List.any_eq_true]
    exact⟨tx,htxi▸List.getElem_mem hi,decide_eq_true hlt⟩
   rw[if_pos (.inr hlg)]
   exact⟨rfl,hEv⟩
  ·have d5:decide ((255:Int)<(tx.length:Int))=false:=decide_eq_false (by omega)
   refine go (an9 s1 s9 u3 (Nat.zero_add 3) r1 r2 r3 g (an2 r4 d5)) ?_
   refine⟨rfl,⟨(vq1 s1),(vq1 r4)⟩,rfl,fun j hj hji=>?_⟩
   by_cases e:j=i
   ·subst e;rw[htxi];omega
   ·exact hlow j hj (by omega)
 clear s1
 rintro σ v' r ⟨⟨s1,s9⟩,rfl,hlow⟩
 have hlg:zep d.texts=false:=by
  unfold zep
  rw[List.any_eq_false]
  intro t ht
  obtain⟨j,hj,rfl⟩:=List.mem_iff_getElem.1 ht
  have:=hlow j hj hj
  simp;omega
 by_cases c4:1024<d.raw.length
 ·have d4:decide ((1024:Int)<(d.raw.length:Int))=true:=decide_eq_true (by omega)
  rw[if_pos (.inl c4)]
  refine go (an9 s1 s9 u3 (Nat.zero_add 3) r u4 d4 (Nat.zero_add 4) trivial) ?_
  refine zaf (.inr rfl) Tryz.ntmps47 rfl (zac (vr0) zae) ?_
  exact⟨rfl,hEv⟩
 ·have d4:decide ((1024:Int)<(d.raw.length:Int))=false:=decide_eq_false (by omega)
  rw[if_neg (fun h=>by rcases h with h|h;exact c4 h;rw[hlg]at h;cases h)]
  refine go (an9 s1 s9 u3 (Nat.zero_add 3) r u4 d4 (Nat.zero_add 4) trivial) ?_
  refine zaf (.inr rfl) Tryz.ntmps47 rfl (zac (vr0) zae) ?_
  exact⟨rfl,hEv⟩
theorem zeT{d:DatL}(hf:zb2 d=true):(d.names.length:Int)=(zaJ d.ty).1∧(d.nums.length:Int)=(zaJ d.ty).2.1∧(d.texts.length:Int)=txD d∧(d.raw.length:Int)=rwD d:=by
 unfold zb2 at hf
 simp only[Bool.and_eq_true,decide_eq_true_eq]at hf
 exact⟨hf.1.1.1,hf.1.1.2,hf.1.2,hf.2⟩
theorem zbA{α:Type}{l:List α}(h:(l.length:Int)=0):l=[]:=List.length_eq_zero_iff.1 (by omega)
theorem zbx{d:DatL}(hf:zb2 d=true){a c r:Int}(h:zaJ d.ty=(a,c,0,r)):(d.names.length:Int)=a∧(d.nums.length:Int)=c∧d.texts=[]∧(0≤r→(d.raw.length:Int)=r):=by
 obtain⟨h1,h2,h3,h4⟩:=zeT hf
 unfold txD at h3
 unfold rwD at h4
 rw[h]at h1 h2 h3 h4
 exact⟨h1,h2,zbA h3,fun hr=>by rw[if_neg (by simp only;omega)]at h4;exact h4⟩
theorem zbX(sep x:Lab):zaM sep [x]=x:=by simp[zaM]
theorem zk2(l:List UInt8):zaX 1 l=l.map fun c=>[c]:=by
 refine List.ext_getElem (by rw[zcH];simp) fun i h1 h2=>?_
 rw[zeU]
 have hi:i<l.length:=by simpa using h2
 rw[List.getElem_map,Nat.mul_one,List.drop_eq_getElem_cons hi]
 rfl
theorem zly{d:DatL}(hf:zb2 d=true)(ht:d.ty=1):za5 hexU d=zaM [46] (d.raw.map fun c=>Lib.decDigits c.toNat):=by
 obtain⟨h1,h2,h3,h4⟩:=zbx hf (a:=0) (c:=0) (r:=4) (by rw[ht];rfl)
 have e1:=zbA h1
 have e2:=zbA h2
 unfold za5 zbN zb5 zee zcR
 rw[e1,e2,h3,ht]
 simp only[List.map_nil,ite_self,List.append_nil,List.nil_append,if_true]
 rw[zbX]
 unfold zdm
 rw[zk2,List.map_map]
 congr 1
 refine List.map_congr_left fun c _=>?_
 show Lib.decDigits (0*256+c.toNat)=_
 rw[Nat.zero_mul,Nat.zero_add]
def zh0(raw:List UInt8)(i:Nat):Lab:=hexU ((raw.getD (2*i) 0).toNat*256+(raw.getD (2*i+1) 0).toNat)
theorem tx_28{d:DatL}(hf:zb2 d=true)(ht:d.ty=28):d.raw.length=16∧za5 hexU d=zaM [58] ((List.range 8).map (zh0 d.raw)):=by
 obtain⟨h1,h2,h3,h4⟩:=zbx hf (a:=0) (c:=0) (r:=16) (by rw[ht];rfl)
 have e1:=zbA h1
 have e2:=zbA h2
 have e4:d.raw.length=16:=by have:=h4 (by decide);omega
 refine⟨e4,?_⟩
 unfold za5 zbN zb5 zee zcR
 rw[e1,e2,h3,ht]
 simp only[List.map_nil,ite_self,List.append_nil,List.nil_append,if_true,if_neg (show¬(28:Int)=1 by decide)]
 rw[zbX]
 unfold zdm
 congr 1
 refine List.ext_getElem (by rw[List.length_map,zcH,e4];simp) fun i h1 h2=>?_
 have hi:i<8:=by simpa using h2
 rw[List.getElem_map,List.getElem_map,zeU,List.getElem_range]
 unfold zh0
 rw[List.getD_eq_getElem?_getD,List.getElem?_eq_getElem (show 2*i<d.raw.length by omega),List.getD_eq_getElem?_getD,List.getElem?_eq_getElem (show 2*i+1<d.raw.length by omega)]
 rw[show i*2=2*i from Nat.mul_comm _ _,List.drop_eq_getElem_cons (show 2*i<d.raw.length by omega),List.drop_eq_getElem_cons (show 2*i+1<d.raw.length by omega)]
 show hexU ((0*256+_)*256+_)=_
 rw[Nat.zero_mul,Nat.zero_add]
 rfl
theorem tx_16{d:DatL}(hf:zb2 d=true)(ht:d.ty=16):za5 hexU d=zaM [32] (d.texts.map quoT):=by
 obtain⟨h1,h2,_,_⟩:=zeT hf
 rw[ht]at h1 h2
 have e1:=zbA h1
 have e2:=zbA h2
 unfold za5 zbN zb5 zee zcR
 rw[e1,e2,ht,show(zbV 16 tyTab).2=true from rfl]
 simp
theorem tx_15{d:DatL}(hf:zb2 d=true)(ht:d.ty=15):∃m n,d.nums=[m]∧d.names=[n]∧za5 hexU d=(numT m++ [32])++zaV n:=by
 obtain⟨h1,h2,h3,h4⟩:=zbx hf (a:=1) (c:=1) (r:=0) (by rw[ht];rfl)
 obtain⟨n,hn⟩:=List.length_eq_one_iff.1 (show d.names.length=1 by omega)
 obtain⟨m,hm⟩:=List.length_eq_one_iff.1 (show d.nums.length=1 by omega)
 refine⟨m,n,hm,hn,?_⟩
 unfold za5 zbN zb5 zee zcR
 rw[hn,hm,h3,ht,show(zbV 15 tyTab).2=true from rfl]
 simp[zaM]
theorem zgX{d:DatL}(hf:zb2 d=true)(ht:d.ty=2∨d.ty=5∨d.ty=12∨d.ty=39∨d.ty=6):za5 hexU d=zaM [32] (d.names.map zaV++d.nums.map numT):=by
 have h3:d.texts=[]:=by
  rcases ht with h|h|h|h|h
  ·exact(zbx hf (a:=1) (c:=0) (r:=0) (by rw[h];rfl)).2.2.1
  ·exact(zbx hf (a:=1) (c:=0) (r:=0) (by rw[h];rfl)).2.2.1
  ·exact(zbx hf (a:=1) (c:=0) (r:=0) (by rw[h];rfl)).2.2.1
  ·exact(zbx hf (a:=1) (c:=0) (r:=0) (by rw[h];rfl)).2.2.1
  ·exact(zbx hf (a:=2) (c:=5) (r:=0) (by rw[h];rfl)).2.2.1
 unfold za5 zbN zb5 zee zcR
 rw[h3]
 rcases ht with h|h|h|h|h<;>(rw[h];simp[show (zbV 2 tyTab).2=true from rfl,show(zbV 5 tyTab).2=true from rfl,show(zbV 12 tyTab).2=true from rfl,show(zbV 39 tyTab).2=true from rfl,show(zbV 6 tyTab).2=true from rfl])
theorem zlz{d:DatL}(hf:zb2 d=true)(ht:¬(d.ty=1∨d.ty=28∨d.ty=16∨d.ty=15∨d.ty=2∨d.ty=5∨d.ty=12∨d.ty=39∨d.ty=6)):za5 hexU d=([92,35,32]++Lib.decDigits d.raw.length++if 0<d.raw.length then [32] else [])++hexT d.raw:=by
 have hsh:zaJ d.ty=(0,0,0, -1):=by
  unfold zaJ
  rw[if_neg (by omega),if_neg (by omega),if_neg (by omega),if_neg (by omega),if_neg (by omega),if_neg (by omega)]
 obtain⟨h1,h2,h3,_⟩:=zbx hf hsh
 have e1:=zbA h1
 have e2:=zbA h2
 have hfd:(zbV d.ty tyTab).2=false:=by
  unfold tyTab
  simp only[zbV]
  rw[if_neg (by omega),if_neg (by omega),if_neg (by omega),if_neg (by omega),if_neg (by omega),if_neg (by omega),if_neg (by omega),if_neg (by omega),if_neg (by omega)]
 unfold za5 zbN zb5 zee zcR
 rw[e1,e2,h3,hfd,if_neg (show¬d.ty=1 by omega),if_neg (show¬d.ty=28 by omega),if_neg (show¬false=true by decide),zhi]
 simp only[List.map_nil,ite_self,List.append_nil,List.nil_append]
 by_cases h0:d.raw.length=0
 ·rw[if_pos h0,if_neg (by omega),zbA (l:=d.raw) (by omega)]
  simp[zaM,hexT]
 ·rw[if_neg h0,if_pos (by omega)]
  simp[zaM]
theorem ix_at(c:UInt8)(r:Lab):∀p:Lab,c∉p→Lib.index (p++c::r) [c]=(p.length:Int)
 | [],_=>by
  show Lib.index (c::r) [c]=0
  rw[Lib.index];simp[List.isPrefixOf]
 |b::p,h=>by
  have hb:¬c=b:=fun e=>h (by rw[e];exact List.mem_cons_self ..)
  have ih:=ix_at c r p fun e=>h (List.mem_cons_of_mem _ e)
  show Lib.index (b::(p++c::r)) [c]=_
  rw[Lib.index,ih]
  have hp:([c]:List UInt8).isPrefixOf (b::(p++c::r))=false:=by simp[List.isPrefixOf,hb]
  have hn:¬((p.length:Int)== -1)=true:=fun e=>by have:=beq_iff_eq.1 e;omega
  rw[hp,if_neg (by decide),if_neg hn,List.length_cons]
  omega
structure SplC(c:UInt8)(s:Lab)(ps:List Lab):Prop where
 sp:Lib.splitB ⟨#[c]⟩ 0 (Lib.countB ⟨s.toArray⟩ ⟨#[c]⟩) ⟨s.toArray⟩=ps.map fun l=>⟨l.toArray⟩
 ct:Lib.countB ⟨s.toArray⟩ ⟨#[c]⟩+1=ps.length
theorem ex_front(p r:Lab):(⟨(p++r).toArray⟩:ByteArray).extract 0 (p.length+0)=⟨p.toArray⟩:=by
 apply ByteArray.ext
 rw[ByteArray.data_extract]
 simp
theorem ex_back(p:Lab)(c:UInt8)(r:Lab):(⟨(p++c::r).toArray⟩:ByteArray).extract (p.length+(⟨#[c]⟩:ByteArray).size) (⟨(p++c::r).toArray⟩:ByteArray).size=⟨r.toArray⟩:=by
 have e1:(⟨#[c]⟩:ByteArray).size=1:=rfl
 have e2:(⟨(p++c::r).toArray⟩:ByteArray).size=p.length+1+r.length:=by
  show(p++c::r).toArray.size=_
  simp;omega
 rw[e1,e2]
 apply ByteArray.ext
 rw[ByteArray.data_extract]
 apply Array.toList_inj.1
 simp
theorem zaP(sep p q:Lab)(r:List Lab):zaM sep (p::q::r)=p++(sep++zaM sep (q::r)):=by
 simp[zaM]
theorem zmw{sep x:Lab}:zaM sep [x]=x:=by simp[zaM]
theorem zfF(c:UInt8):∀(r:List Lab) (p:Lab),(∀x∈p::r,c∉x)→SplC c (zaM [c] (p::r)) (p::r)
 | [],p,h=>by
  have h0:c∉p:=h p (List.mem_cons_self ..)
  have hc:Lib.countB ⟨p.toArray⟩ ⟨#[c]⟩=0:=by
   show Lib.count p [c]=0
   rw[Lib.count_one]
   exact List.count_eq_zero.2 h0
  rw[zmw]
  exact⟨by rw[hc];rfl,by rw[hc];rfl⟩
 |q::r,p,h=>by
  have ih:=zfF c r q fun x hx=>h x (List.mem_cons_of_mem _ hx)
  have h0:c∉p:=h p (List.mem_cons_self ..)
  rw[zaP]
  obtain⟨u,hu⟩:∃u,zaM [c] (q::r)=u:=⟨_,rfl⟩
  rw[hu]at ih ⊢
  have hc:Lib.countB ⟨(p++c::u).toArray⟩ ⟨#[c]⟩=Lib.countB ⟨u.toArray⟩ ⟨#[c]⟩+1:=by
   show Lib.count (p++c::u) [c]=Lib.count u [c]+1
   rw[Lib.count_one,Lib.count_one,List.count_append,List.count_eq_zero.2 h0,List.count_cons_self,Nat.zero_add]
  have hi:Lib.indexB ⟨(p++c::u).toArray⟩ ⟨#[c]⟩=(p.length:Int):=ix_at c u p h0
  show SplC c (p++c::u) _
  refine⟨?_,by rw[hc,ih.ct];rfl⟩
  rw[hc,Lib.splitB_hit _ _ _ _ _ hi,ex_back,ih.sp,ex_front]
  rfl
theorem ziv{p:UInt8→Bool}:∀l:Lab,(∀c∈l,p c=true)→l.dropWhile p=[]
 | [],_=>rfl
 |c::l,h=>by rw[List.dropWhile_cons_of_pos (h c (List.mem_cons_self ..))];exact ziv l fun x hx=>h x (List.mem_cons_of_mem _ hx)
theorem zjx{l cs:Lab}(h:∀c∈l,c∈cs):Lib.trimS l cs=[]:=by
 have h1:Lib.trimRightS l cs=[]:=by
  unfold Lib.trimRightS
  rw[ziv _ fun c hc=>List.contains_iff_mem.2 (h c (List.mem_reverse.1 hc))]
  rfl
 unfold Lib.trimS
 rw[h1]
 rfl
theorem zdE:∀k,k<16→hexV (hexD k)=some k∧hexD k∈digs16∧hexD k≠58∧hexD k≠92∧hexD k≠34∧hexD k≠32:=by decide
theorem zhl:∀(k n:Nat),n≤k→∀c∈hexU n,∃j,j<16∧c=hexD j
 |0,n,h,c,hc=>by
  rw[zdl (by omega)]at hc
  exact⟨n,by omega,List.mem_singleton.1 hc⟩
 |k+1,n,h,c,hc=>by
  by_cases h1:n<16
  ·rw[zdl h1]at hc
   exact⟨n,h1,List.mem_singleton.1 hc⟩
  ·rw[zfS h1]at hc
   rcases List.mem_append.1 hc with h2|h2
   ·exact zhl k (n / 16) (by omega) c h2
   ·exact⟨n % 16,Nat.mod_lt _ (by decide),List.mem_singleton.1 h2⟩
theorem zdW(l:Lab){k:Nat}(h:k<16):zbg (l++ [hexD k])=16*zbg l+k:=by
 unfold zbg
 rw[List.foldl_append]
 simp[(zdE k h).1]
theorem zjW:∀(k n:Nat),n≤k→zbg (hexU n)=n
 |0,n,h=>by
  rw[zdl (by omega)]
  exact(zdW [] (k:=n) (by omega)).trans (by show 16*0+n=n;omega)
 |k+1,n,h=>by
  by_cases h1:n<16
  ·rw[zdl h1]
   exact(zdW [] (k:=n) (by omega)).trans (by show 16*0+n=n;omega)
  ·rw[zfS h1,zdW _ (Nat.mod_lt _ (by decide)),zjW k (n / 16) (by omega)]
   omega
theorem zmD(n:Nat):hexU n≠ []:=by
 by_cases h1:n<16
 ·rw[zdl h1];simp
 ·rw[zfS h1];simp
theorem b_shr8{P:Program}{t:TypeId}{n:Nat}:binV P .shr t (.int .u64 (n:Int)) (.int .u64 8)=some (.int .u64 ((n / 256:Nat):Int)):=by
 show some (Value.int .u64 (Int.fdiv (n:Int) (2 ^ (min (Int.toNat 8) 64))))=_
 have:(2:Int) ^ (min (Int.toNat 8) 64)=((256:Nat):Int):=by decide
 rw[this,Int.fdiv_eq_ediv_of_nonneg _ (by omega)];rfl
theorem zjw{n:Nat}:IntKind.u8.wrap (n:Int)=((n % 256:Nat):Int):=by
 show(n:Int) % 256=_
 omega
theorem zni{w:World}(hW:WX w){c:UInt8}{s:Lab}{ps:List Lab}{n:Nat}(hs:s.length<4000000000)(h:SplC c s ps)(hn:ps.length=n):
  Fn Tryz.prog 205 #[vs s,vs [c]] w (fun v w'=>v= .slice (some ⟨w.heap.size,0,Option.none⟩) n n∧w'.heap[w.heap.size]? =some (.cells (ps.map vs).toArray 9 (0,0))∧Ext w w'):=by
 obtain⟨m,hm⟩:=hW.ml
 refine Fn.of_calls ((Any.strings_Split Tryz.lays146 (by kernel_rfl) ⟨s.toArray⟩ ⟨#[c]⟩ m w (show s.toArray.size<_ by simp;omega) hm (Nat.le_refl 1)).mono ?_)
 rintro _ w' ⟨he,rfl⟩
 subst hn
 rw[h.sp,h.ct,List.map_map]at*
 refine⟨_,he,rfl,?_,Ext.alloc w _⟩
 rw[World.alloc_heap_new]
 rfl
def zh9(p:Lab):List UInt8:=[UInt8.ofNat (zbg p / 256),UInt8.ofNat (zbg p % 256)]
theorem zh8:∀l:List Lab,(l.flatMap zh9).length=2*l.length
 | []=>rfl
 |p::l=>by rw[List.flatMap_cons,List.length_append,zh8 l,List.length_cons,show(zh9 p).length=2 from rfl];omega
theorem zmB:∀l:Lab,zbg l<16 ^ l.length:=fun l=>by
 have:∀(l:Lab) (n k:Nat),n<16 ^ k→l.foldl (fun n c=>16*n+(hexV c).getD 0) n<16 ^ (k+l.length):=fun l=>by
  induction l with
  |nil=>intro n k h;exact h
  |cons c l ih=>
   intro n k h
   have hc:(hexV c).getD 0<16:=by
    cases hv:hexV c with
    |none=>decide
    |some x=>exact zhk hv
   have:=ih (16*n+(hexV c).getD 0) (k+1) (by rw[Nat.pow_succ];omega)
   rw[List.foldl_cons,List.length_cons,show k+(l.length+1)=k+1+l.length by omega]
   exact this
 have:=this l 0 0 (by decide)
 rwa [Nat.zero_add]at this
theorem long_ok{W0 w:World}{b:Nat}{t:Lab}{ws:List (Lab×Bool)}{ov:Value}{ps:List Lab}(hW:WX W0)(h:Rdr W0 w b ((t,false)::ws) ov 0)(hl:ws.length≤1000000)(ht:t.length≤1000000)(hsp:SplC 58 t ps)(h8:ps.length=8)(hps:∀p∈ps,p≠ []∧p.length≤4∧∀c∈p,c∈digs16∧(hexV c).isSome=true):
  Fn Tryz.prog 224 #[.pointer (some ⟨b,0,Option.none⟩)] w (fun v w'=>Own w.heap.size w' 5 v ((ps.flatMap zh9).map zao)∧Rdr W0 w' b ws ov 0∧Keep (fun i=>i=b) w w'):=by
 have hbl:=h.lt
 refine enter Tryz.func224 Tryz.ntmps224 rfl rfl ?_
 refine go trivial ?_
 refine rc trivial (zdS h hl) ?_
 rintro _ w1 ⟨rfl,hR1,hk1⟩
 simp only[if_neg (show¬false=true by decide)]at hR1
 refine rd trivial (zni (n:=8) (hW.ext hR1.ext) (by omega) hsp h8) ?_
 rintro _ w2 ⟨rfl,hB2,hE2⟩
 have hs1:=hk1.size
 have hs2:=hE2.size
 have hP:w1.heap.size<w2.heap.size:=(Array.getElem?_eq_some_iff.1 hB2).1
 obtain⟨P,hPe⟩:∃P,w1.heap.size=P:=⟨_,rfl⟩
 rw[hPe]at hB2 hP ⊢
 have hk2:Keep (fun i=>i=b) w w2:=hk1.trans (hE2.mono fun _ _ h=>h.elim)
 have d8:decide (((8:Nat):Int)=8)=true:=rfl
 have hR2:=hR1.extx hE2
 refine rgo (an2 d8 Bool.not_true) ?_
 refine zbq 8 (fun i σ v=>(σ 0= .pointer (some ⟨b,0,Option.none⟩)∧σ 17= .slice (some ⟨P,0,Option.none⟩) 8 8∧σ 18=vi (8:Nat)∧σ 19=vi i)∧Ext w2 v∧∃sv,σ 4=sv∧Own w2.heap.size v 5 sv (((ps.take i).flatMap zh9).map zao)) ?_ ?_ ?_
 ·exact⟨⟨vr0,vr0,vr0,vr0⟩,Keep.refl _ _,_,vr0,Own.nil _ _ _⟩
 ·rintro i σ v hi ⟨r1,r2,r3,r4⟩ ⟨⟨s0,s17,s18,s19⟩,hE,sv,s4,hown⟩
  obtain⟨p,hp⟩:∃p,ps[i]'(by omega)=p:=⟨_,rfl⟩
  have hpm:p∈ps:=hp▸List.getElem_mem _
  obtain⟨hp0,hp4,hpc⟩:=hps p hpm
  have hsv:=hE.size
  have hBv:=Ext.at hE hB2
  have g:zad v (some ⟨P,i,Option.none⟩)=some (vs p):=za2 (j:=i) hBv (by rw[List.getElem?_map,List.getElem?_eq_getElem (by omega),hp];rfl)
  have d1:decide (p=[])=false:=decide_eq_false hp0
  have d2:decide ((4:Int)<(p.length:Int))=false:=decide_eq_false (by omega)
  have hvl:zbg p<65536:=by
   have h1:=zmB p
   have h2:16 ^ p.length≤16 ^ 4:=Nat.pow_le_pow_right (by decide) hp4
   omega
  refine go (an9 s0 s17 s18 s19 s4 r1 g r2 (an3 r3 (Nat.mul_one i) (Nat.zero_add i))) ?_
  refine rcg [(2,25),(7,30)] (an6 s0 s4 d1 d2 r2 trivial) (zgy v p (by omega)) ?_
  rintro _ v1 ⟨rfl,hE1⟩
  rw[decide_eq_true (zjx fun c hc=>(hpc c hc).1)]
  refine reg [(2,25),(7,30)] (an6 s0 s4 d1 d2 Bool.not_true r2) ?_
  refine go (an2 s0 s4) ?_
  refine rc (an2 s0 s4) (PuH_ok v1 (bt:=16) (mx:=65535) (.inr ⟨rfl,rfl⟩) hp0 (by omega) (fun c hc=>(hpc c hc).2) (by omega)) ?_
  rintro _ v2 ⟨rfl,hE2'⟩
  obtain⟨x,hx⟩:∃x,zbg p=x:=⟨_,rfl⟩
  rw[hx]at hvl ⊢
  have f1:=b_shr8 (P:=Tryz.prog) (t:=71) (n:=x)
  have f2:IntKind.u8.wrap ((x / 256:Nat):Int)=((x / 256:Nat):Int):=by rw[zjw];omega
  have f3:IntKind.u8.wrap (x:Int)=((x % 256:Nat):Int):=zjw
  have hsE:=hE1.size
  have hsE2:=hE2'.size
  refine rgo (an2 s0 s4) ?_
  refine rq ?_;intro gd K hgd hK
  try simp (disch:=first|omega|assumption|rfl) only[go_sem,s4,f1,f2,f3]
  refine zm5 (z:= .int .u8 0) rfl rfl rfl rfl rfl rfl ?_
  intro y1 hy1 hys1 hyo
  try simp (disch:=first|omega|assumption|rfl) only[go_sem,s4]
  refine za8 (e:=5) (((hown.ext hE1).ext hE2').ext hy1) hyo.row rfl rfl rfl rfl rfl rfl ((vr1 s4)) (vr0) (fun q hq=>by simp only[List.mem_cons,List.not_mem_nil,or_false]at hq;rcases hq with rfl|rfl<;>rfl) (by rw[List.length_map,zh8,List.length_take];simp;omega) (by decide) (by omega) ?_
  intro sv' y2 hown2 hX2 hK2 hb2'
  try simp only[go_sem]
  refine hK _ _ ?_;clear hK hgd;clear K;try clear gd
  refine go (an5 s0 s17 s18 s19 r4) ?_
  refine⟨rfl,⟨(vq1 s0),(vq1 s17),(vq1 s18),(vq1 r4)⟩,hX2 w2 (((hE.trans hE1).trans hE2').trans hy1) (Nat.le_refl _),sv',vr0,?_⟩
  rw[zak (by omega),hp,List.flatMap_append,List.map_append]
  have e2:(([p]:List Lab).flatMap zh9).map zao=[.int .u8 ((x / 256:Nat):Int),.int .u8 ((x % 256:Nat):Int)]:=by
   show [zao (UInt8.ofNat (zbg p / 256)),zao (UInt8.ofNat (zbg p % 256))]=_
   rw[hx,zct (by omega),zct (by omega)]
  rw[e2]
  exact hown2
 ·rintro σ v r ⟨⟨s0,s17,s18,s19⟩,hE,sv,s4,hown⟩
  rw[List.take_of_length_le (by omega)]at hown
  refine go (an6 s0 s17 s18 s19 s4 r) ?_
  refine zaf (.inr rfl) Tryz.ntmps224 rfl (zac ((vr1 s4)) zae) ?_
  exact⟨hown.mono (by omega),hR2.extx hE,hk2.trans (hE.mono fun _ _ h=>h.elim)⟩
theorem zdA{c:UInt8}(h1:c≠92)(h2:c≠34)(h3:c≠32)(s w:Lab)(q:Bool):wF false (c::s) w q=wF false s (w++ [c]) q:=by
 rw[wF,if_neg (fun h=>h1 h.1),if_neg h2]
 cases q
 ·rw[if_neg (by decide),if_neg h3]
 ·rw[if_pos rfl]
theorem zeF(d:UInt8)(s w:Lab)(q:Bool):wF false (92::d::s) w q=wF false s (w++ [92,d]) q:=by
 rw[wF,if_pos ⟨rfl,by simp⟩,wF,List.append_assoc]
 rfl
theorem zlo:∀(l s w:Lab) (q:Bool),(∀c∈l,c≠92∧c≠34∧c≠32)→wF false (l++s) w q=wF false s (w++l) q
 | [],s,w,q,_=>by rw[List.nil_append,List.append_nil]
 |c::l,s,w,q,h=>by
  obtain⟨h1,h2,h3⟩:=h c (List.mem_cons_self ..)
  rw[List.cons_append,zdA h1 h2 h3,zlo l s _ q fun x hx=>h x (List.mem_cons_of_mem _ hx),List.append_assoc]
  rfl
theorem zez{c:UInt8}(h:digB c=true):c≠92∧c≠34∧c≠32∧c≠46∧c≠58:=by
 refine⟨?_,?_,?_,?_,?_⟩<;>(rintro rfl;revert h;decide)
theorem wF_esc(c:UInt8)(s w:Lab)(q:Bool):wF false (escB c++s) w q=wF false s (w++escB c) q:=by
 have h2:=zfX (k:=c.toNat / 10 % 10) (by omega)
 have h3:=zfX (k:=c.toNat % 10) (by omega)
 unfold escB
 show wF false (92::_::_::_::s) w q=_
 rw[zeF,zdA (zez h2).1 (zez h2).2.1 (zez h2).2.2.1,zdA (zez h3).1 (zez h3).2.1 (zez h3).2.2.1,List.append_assoc,List.append_assoc]
 rfl
theorem wF_lab(c:UInt8)(s w:Lab)(q:Bool):wF false (labB c++s) w q=wF false s (w++labB c) q:=by
 unfold labB
 by_cases h1:c.toNat≤32∨127≤c.toNat
 ·rw[if_pos h1];exact wF_esc c s w q
 ·rw[if_neg h1]
  by_cases h2:marksL.contains c=true
  ·rw[if_pos h2];exact zeF c s w q
  ·rw[if_neg h2]
   have m1:c≠92:=fun e=>h2 (by rw[e];decide)
   have m2:c≠34:=fun e=>h2 (by rw[e];decide)
   have m3:c≠32:=fun e=>h1 (.inl (by rw[e];decide))
   exact zdA m1 m2 m3 s w q
theorem zln:∀(l s w:Lab) (q:Bool),wF false (zau l++s) w q=wF false s (w++zau l) q
 | [],s,w,q=>by unfold zau;simp
 |c::l,s,w,q=>by
  have e:zau (c::l)=labB c++zau l:=by unfold zau;rw[List.flatMap_cons]
  rw[e,List.append_assoc,wF_lab,zln l,List.append_assoc]
theorem zlr:∀(n:Nm) (s w:Lab) (q:Bool),wF false ((n.flatMap fun l=>zau l++ [46])++s) w q=wF false s (w++n.flatMap fun l=>zau l++ [46]) q
 | [],s,w,q=>by simp
 |l::n,s,w,q=>by
  rw[List.flatMap_cons,List.append_assoc,List.append_assoc,zln]
  show wF false (46::((n.flatMap fun l=>zau l++ [46])++s)) (w++zau l) q=_
  rw[zdA (by decide) (by decide) (by decide),zlr n]
  simp
def Tok(p:Lab):Prop:=p≠ []∧∀s w:Lab,wF false (p++s) w false=wF false s (w++p) false
theorem zfh(n:Nm):Tok (zaV n):=by
 unfold zaV
 by_cases h:n=[]
 ·rw[if_pos h]
  exact⟨by simp,fun s w=>zlo [46] s w false (by decide)⟩
 ·rw[if_neg h]
  refine⟨?_,fun s w=>zlr n s w false⟩
  cases n with
  |nil=>exact absurd rfl h
  |cons l n=>simp
theorem zfz{p:Lab}(h0:p≠ [])(h:∀c∈p,c≠92∧c≠34∧c≠32):Tok p:=⟨h0,fun s w=>zlo p s w false h⟩
theorem zdT(n:Nat):Tok (Lib.decDigits n):=zfz (zfY n) fun c hc=>by
 have:=zez (zbY n c hc)
 exact⟨this.1,this.2.1,this.2.2.1⟩
theorem zcb{p:Lab}(h:Tok p):wF false p [] false=[(p,false)]:=by
 have:=h.2 [] []
 rw[List.append_nil,List.nil_append]at this
 rw[this,wF,if_neg h.1]
theorem zcO{p:Lab}(h:Tok p)(s:Lab):wF false (p++([32]++s)) [] false=(p,false)::wF false s [] false:=by
 rw[h.2,List.nil_append]
 show wF false (32::s) p false=_
 rw[wF,if_neg (fun e=>absurd e.1 (by decide)),if_neg (by decide),if_neg (by decide),if_pos rfl,if_neg h.1]
theorem ziV:∀ps:List Lab,(∀p∈ps,Tok p)→wF false (zaM [32] ps) [] false=ps.map fun p=>(p,false)
 | [],_=>rfl
 | [p],h=>by rw[zbX];exact zcb (h p (List.mem_cons_self ..))
 |p::q::r,h=>by
  rw[zaP,zcO (h p (List.mem_cons_self ..)),ziV (q::r) fun x hx=>h x (List.mem_cons_of_mem _ hx)]
  rfl
theorem wF_quoB(c:UInt8)(s w:Lab):wF false (quoB c++s) w true=wF false s (w++quoB c) true:=by
 unfold quoB
 split
 ·exact wF_esc c s w true
 ·rename_i h1
  split
  ·exact zeF c s w true
  ·rename_i h2
   show wF false (c::s) w true=_
   rw[wF,if_neg (fun h=>h2 (.inr h.1)),if_neg (fun h=>h2 (.inl h)),if_pos rfl]
theorem zlq:∀(l s w:Lab),wF false (quoL l++s) w true=wF false s (w++quoL l) true
 | [],s,w=>by unfold quoL;simp
 |c::l,s,w=>by
  have e:quoL (c::l)=quoB c++quoL l:=by unfold quoL;rw[List.flatMap_cons]
  rw[e,List.append_assoc,wF_quoB,zlq l,List.append_assoc]
theorem zlp(t s:Lab):wF false (quoT t++s) [] false=(quoL t,true)::wF false s [] false:=by
 unfold quoT
 show wF false (34::(quoL t++ [34]++s)) [] false=_
 rw[wF,if_neg (fun e=>absurd e.1 (by decide)),if_pos rfl,if_neg (by decide),List.append_assoc,zlq,List.nil_append]
 show wF false (34::s) (quoL t) true=_
 rw[wF,if_neg (fun e=>absurd e.1 (by decide)),if_pos rfl,if_pos rfl]
theorem ziU:∀ts:List Lab,wF false (zaM [32] (ts.map quoT)) [] false=ts.map fun t=>(quoL t,true)
 | []=>rfl
 | [t]=>by
  rw[List.map_singleton,zbX]
  have:=zlp t []
  rw[List.append_nil]at this
  rw[this,wF]
  rfl
 |t::u::r=>by
  rw[List.map_cons,List.map_cons,zaP,zlp]
  show(quoL t,true)::wF false (32::zaM [32] (quoT u::r.map quoT)) [] false=_
  have ih:=ziU (u::r)
  rw[List.map_cons]at ih
  rw[wF,if_neg (fun e=>absurd e.1 (by decide)),if_neg (by decide),if_neg (by decide),if_pos rfl,if_pos rfl,ih]
  rfl
theorem un_quoB(c:UInt8)(r acc:Lab):unD [] 0 (quoB c++r) acc=unD [] 0 r (acc++ [c]):=by
 unfold quoB
 split
 ·have he:=zmN c r
  have e:escB c++r=92::((escB c).tail++r):=rfl
  rw[e,unD,if_pos rfl,he]
  simp only[if_true]
  have e2:(escB c).tail++r=UInt8.ofNat (48+c.toNat / 100)::UInt8.ofNat (48+c.toNat / 10 % 10)::UInt8.ofNat (48+c.toNat % 10)::r:=rfl
  rw[e2,unD,unD,unD]
 ·split
  ·rename_i h2
   have hd:digB c=false:=by rcases h2 with rfl|rfl<;>decide
   show unD [] 0 (92::(c::r)) acc=_
   rw[unD,if_pos rfl,zir hd]
   simp only[if_true]
   rw[unD]
  ·rename_i h2
   show unD [] 0 (c::r) acc=_
   rw[unD,if_neg (fun h=>h2 (.inr h)),if_neg (by simp)]
theorem zlw:∀(l acc:Lab),unD [] 0 (quoL l) acc=(acc++l,0)
 | [],acc=>by unfold quoL unD;simp
 |c::l,acc=>by
  have e:quoL (c::l)=quoB c++quoL l:=by unfold quoL;rw[List.flatMap_cons]
  rw[e,un_quoB,zlw l]
  simp
theorem zeo{n o:Nm}(h:zaL n=0):za6 (zaV n) o=(n,0):=by
 have h1:=(zci h).1
 unfold zaV
 by_cases hn:n=[]
 ·rw[if_pos hn,hn];rfl
 ·rw[if_neg hn]
  have hh:¬(n.flatMap fun l=>zau l++ [46])=[64]∧¬(n.flatMap fun l=>zau l++ [46])=[46]∧¬(n.flatMap fun l=>zau l++ [46])=[]:=by
   cases n with
   |nil=>exact absurd rfl hn
   |cons l n=>
    have:=zeb (zhp (h1 l (List.mem_cons_self ..))) ([46]++n.flatMap fun l=>zau l++ [46])
    rw[List.flatMap_cons,List.append_assoc]
    exact this
  have hp:zbz (n.flatMap fun l=>zau l++ [46])=(n,true,0):=by
   unfold zbz
   rw[zg0,if_neg (fun e=>by cases e),zeM n [] true h1 (fun e=>absurd e hn),List.nil_append]
  unfold za6
  rw[if_neg hh.1,if_neg hh.2.1,if_neg hh.2.2,hp]
  simp[h]
end Go.Proofs.YtkpdfhbpdkifoaaGreatDoor
