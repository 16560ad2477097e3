/-
  Texts of a proof, joined: GJ, GK, GL, GM, GN, GO, GP, HE, L2, B1, HF, HG, HB, HH, GQ, GR, GS, GT, GU, GX, HI, B2, HJ, HK, HL, HM, HN, HO, JA.
  Conditions: none.
-/
import Derived.Test.YtkpdfhbpdkifoaaGreatDoorQPB04
import Derived.Lib.AppendIntMem
import Derived.Test.YtkpdfhbpdkifoaaGreatDoorProg
import Derived.Shelf.Small.Strs
import Derived.Shelf.Strings.Builder1
import Derived.Test.YtkpdfhbpdkifoaaGreatDoorQPB02
import Derived.Test.YtkpdfhbpdkifoaaGreatDoorQPB03
set_option linter.unusedVariables false
set_option linter.unusedSimpArgs false
set_option linter.defProp false
set_option linter.unnecessarySimpa false
set_option maxHeartbeats 8000000
namespace Go.Proofs.YtkpdfhbpdkifoaaGreatDoor
open Go
set_option maxRecDepth 10000
def encNum(x:Int)(_:World)(args:Array Value):Prop:=args=#[vi x]
theorem zi5{W0:World}{n0:Nat}{C:Nat→Prop}{c a b d:Nat}{T:TypeId}{fr:Nat×Nat}(hb:W0.heap[c]? =some (.cells #[vi a,vi b,vi d] T fr))(hbn:c<n0)(hbC:¬C c)(hab:a≤b)(hbm:b≤2147483647)(hd:1≤d)(hdm:d≤9223372036854775807):
  Iter Tryz.prog 204 #[.pointer (some ⟨c,0,Option.none⟩)] W0 n0 C (zcS a b d) encNum:=by
 intro lp J Jx W hW hnW hJ hJx hY h0
 have hlen:=zfO a b d
 have cell:∀{v:World},KeepB n0 C W v→∀(j:Nat) (u:Value),#[vi a,vi b,vi d][j]? =some u→zad v (some ⟨c,j,Option.none⟩)=some u:=fun hk j u hu=>
  zbJ hk hbn hbC (zaa (hW.at hb) hu)
 have c0:=cell (KeepB.refl _ _ _) 0 (vi a) rfl
 refine enter Tryz.func204 Tryz.ntmps204 rfl rfl ?_
 refine go c0 ?_
 refine zaD (fun m σ ds v=>ds=[]∧∃i,i+m=(b - a) / d∧σ 3=vi ((a+i*d:Nat):Int)∧σ 0= .func (.yield lp) #[] #[]∧σ 1= .pointer (some ⟨c,0,Option.none⟩)∧J ((zcS a b d).take i) v∧KeepB n0 C W v) ((b - a) / d) ?_ ?_
 ·refine⟨rfl,0,by omega,?_,?_,?_,by simpa using h0,KeepB.refl _ _ _⟩
  ·simp only[Nat.zero_mul,Nat.add_zero];simp only[go_sem]
  ·simp only[go_sem]
  ·simp only[go_sem]
 ·rintro m σ ds v ⟨rfl,i,him,h3,hf0,hf1,hj,hK0⟩
  have hi:i<(zcS a b d).length:=by omega
  repeat refine c_r ?_
  refine rq ?_;intro gd K hgd hK
  have hg3:∀n σ b,zaE gd n σ (some (3,b))=zap (ev n σ (.tmp 9)) b:=(fun n σ b=>by rw[zag,show gd 3=some 9 from(by rw[hgd];rfl)];rfl)
  try simp (disch:=first|omega|assumption|rfl) only[go_sem,h3,hf0,hf1]
  refine Yld.mono (hY ((zcS a b d).take i) (zcS a b d)[i] ((zcS a b d).drop (i+1)) v _ (zbs hi) hj hK0 (by rw[zmd];rfl)) ?_
  rintro u x (⟨rfl,hj',hk'⟩| ⟨rfl,hjx⟩)
  ·have c1:=cell (hK0.trans hk') 1 (vi b) rfl
   have c2:=cell (hK0.trans hk') 2 (vi d) rfl
   have hin:=zmc hd hab (i:=i) (by omega)
   have hwr:IntKind.i64.wrap ((b:Int) - ((a+i*d:Nat):Int))=(b:Int) - ((a+i*d:Nat):Int):=zd6 (by omega) (by omega)
   by_cases hmore:d≤b - (a+i*d)
   ·have d1:decide ((d:Int)≤(b:Int) - ((a+i*d:Nat):Int))=true:=decide_eq_true (by omega)
    try simp (disch:=first|omega|assumption|rfl) only[go_sem,h3,hf0,hf1,c1,c2,hwr,d1,↓hg3]
    refine hK _ _ ?_;clear hK hgd;clear K;try clear gd
    have e1:((a+i*d:Nat):Int)+(d:Int)=((a+(i+1)*d:Nat):Int):=by rw[Nat.add_mul];push_cast;omega
    have hw2:IntKind.i64.wrap (((a+i*d:Nat):Int)+(d:Int))=((a+(i+1)*d:Nat):Int):=by rw[zd6 (by omega) (by omega),e1]
    refine go (an4 h3 hf1 c2 hw2) ?_
    have hnm:i+1≤(b - a) / d:=zmb hd (by rw[Nat.add_mul];omega)
    refine⟨m - 1,by omega,rfl,i+1,by omega,vq0,(vq1 hf0),(vq1 hf1),?_,hK0.trans hk'⟩
    rw[zak hi];exact hj'
   ·have d1:decide ((d:Int)≤(b:Int) - ((a+i*d:Nat):Int))=false:=decide_eq_false (by omega)
    try simp (disch:=first|omega|assumption|rfl) only[go_sem,h3,hf0,hf1,c1,c2,hwr,d1,↓hg3]
    refine hK _ _ ?_;clear hK hgd;clear K;try clear gd
    refine go trivial ?_
    refine zaw (by simp) rfl (.inl ?_)
    have hend:i+1=(zcS a b d).length:=by
     rw[hlen]
     by_cases h:i+1≤(b - a) / d
     ·have:=zmc hd hab h
      rw[Nat.add_mul]at this
      omega
     ·omega
    have e2:(zcS a b d).take i++ [(zcS a b d)[i]]=zcS a b d:=by rw[←zak hi,hend,List.take_length]
    rw[e2]at hj';exact hj'
  ·try simp (disch:=first|omega|assumption|rfl) only[go_sem,↓hg3]
   refine hK _ _ ?_;clear hK hgd;clear K;try clear gd
   refine go trivial ?_
   refine zaw (by simp) rfl (.inr ⟨_,_,_,zbs hi,hjx⟩)
theorem zkI(w:World){a b d:Nat}(hab:a≤b)(hbm:b≤2147483647)(hd:1≤d)(hdm:d≤9223372036854775807):
  Fn Tryz.prog 180 #[.agg #[vi a,vi b,vi d]] w (fun v w'=>Ext w w'∧∃cap,v= .func (.func 204) #[] cap∧
   ∀C:Nat→Prop,(∀i,C i→i<w.heap.size)→Iter Tryz.prog 204 cap w' w'.heap.size C (zcS a b d) encNum):=by
 refine enter Tryz.func180 Tryz.ntmps180 rfl rfl ?_
 refine go trivial ?_
 refine rt0 Tryz.ntmps180 ?_
 exact⟨Ext.alloc _ _,_,rfl,fun C hC=>zi5 (zat _ _) (by simp) (fun h=>by have:=hC _ h;omega) hab hbm hd hdm⟩
def numI(a b d:Int):List Int×Int:=
 if zdk a b d=false then([],1) else if 4096≤(b - a) / d then([],11) else(zcS a.toNat b.toNat d.toNat,0)
theorem zkB{a b d:Int}:zdk a b d=true↔0≤a∧a≤b∧b≤2147483647∧1≤d:=by
 unfold zdk;simp[and_assoc]
theorem zhQ{a b d:Int}(h:zdk a b d=true):∃x y z:Nat,a=x∧b=y∧d=z∧x≤y∧y≤2147483647∧1≤z:=by
 obtain⟨h1,h2,h3,h4⟩:=zkB.1 h
 exact⟨a.toNat,b.toNat,d.toNat,by omega,by omega,by omega,by omega,by omega,by omega⟩
theorem rowNil(w:World):Row w (.slice Option.none 0 0) []:=⟨Option.none,0,rfl,Nat.le_refl _,fun j h=>absurd h (by simp)⟩
theorem zjn(w:World)(a b d:Int)(hdm:d≤9223372036854775807):
  Fn Tryz.prog 158 #[.agg #[vi a,vi b,vi d]] w (fun v w'=>∃lv,v= .tuple #[lv,vi (numI a b d).2]∧Row w' lv ((numI a b d).1.map vi)∧Ext w w'∧∀x n c,lv= .slice (some x) n c→w.heap.size≤x.block∧x.block<w'.heap.size):=by
 refine enter Tryz.func158 Tryz.ntmps158 rfl rfl ?_
 refine go trivial ?_
 refine zan ?_
 intro w1 hE1 hs1 hA
 have q3:=zal (n:=3) (l:=[vi a,vi b,vi d]) hA rfl
 refine rc q3 (zjB w1 a b d) ?_
 rintro _ w2 ⟨rfl,hE2⟩
 unfold numI
 cases hr:zdk a b d with
 |false=>
  refine rgo hr ?_
  refine zaf (.inr rfl) Tryz.ntmps158 rfl (zac (v:= .slice Option.none 0 0) (vr0) (zac (vr0) zae)) ?_
  exact⟨_,rfl,rowNil _,hE1.trans hE2,fun _ _ _ h=>by cases h⟩
 |true=>
 obtain⟨x,y,z,rfl,rfl,rfl,hxy,hy,hz⟩:=zhQ hr
 have hA2:=hE2.at hA
 have c0:zad w2 (some ⟨w.heap.size,0,Option.none⟩)=some (vi x):=zaa hA2 rfl
 have c1:zad w2 (some ⟨w.heap.size,1,Option.none⟩)=some (vi y):=zaa hA2 rfl
 have c2:zad w2 (some ⟨w.heap.size,2,Option.none⟩)=some (vi z):=zaa hA2 rfl
 have q32:=zal (n:=3) (l:=[vi x,vi y,vi z]) hA2 rfl
 refine rgo hr ?_
 have hwr:IntKind.i64.wrap ((y:Int) - (x:Int))=((y - x:Nat):Int):=by rw[zd6 (by omega) (by omega)];omega
 have hdv:((y:Int) - (x:Int)) / (z:Int)=(((y - x) / z:Nat):Int):=by rw[Int.natCast_ediv];congr 1;omega
 rw[hdv]
 have hq:IntKind.i64.wrap (((y - x:Nat):Int).tdiv (z:Int))=(((y - x) / z:Nat):Int):=by
  have h1:((y - x:Nat):Int).tdiv (z:Int)=(((y - x) / z:Nat):Int):=by
   rw[Int.tdiv_eq_ediv_of_nonneg (by omega),Int.natCast_ediv]
  have h2:(y - x) / z≤y - x:=Nat.div_le_self _ _
  rw[h1]
  revert h2
  generalize (y - x) / z=k
  intro h2
  exact zd6 (by omega) (by omega)
 have hz0:¬(z:Int)=0:=by omega
 by_cases hbig:(4096:Int)≤(((y - x) / z:Nat):Int)
 ·rw[if_neg (by simp),if_pos hbig]
  refine go (an8 c0 c1 c2 hwr hq (decide_eq_true hbig) hz0 (an2 (Nat.zero_add 1) (Nat.zero_add 2))) ?_
  refine zaf (.inr rfl) Tryz.ntmps158 rfl (zac (v:= .slice Option.none 0 0) (vr0) (zac (vr0) zae)) ?_
  exact⟨_,rfl,rowNil _,hE1.trans hE2,fun _ _ _ h=>by cases h⟩
 rw[if_neg (by simp),if_neg hbig]
 refine go (an8 c0 c1 c2 hwr hq (decide_eq_false hbig) hz0 (an2 (Nat.zero_add 1) (Nat.zero_add 2))) ?_
 refine zan ?_
 intro w3 hE3 hs3 hB3
 refine rc (zah hE3 q32) (zkI w3 hxy hy hz (by omega)) ?_
 rintro _ w4 ⟨hE4,cap,rfl,hit⟩
 refine rgo trivial ?_
 simp only[Int.toNat_natCast]
 obtain⟨xs,hxs⟩:∃xs,zcS x y z=xs:=⟨_,rfl⟩
 have hxl:xs.length≤4096:=by rw[←hxs,zfO];omega
 rw[hxs]at hit ⊢
 have hE14:Ext w w4:=((hE1.trans hE2).trans hE3).trans hE4
 have hs4:=hE4.size
 have hs2w:=(hE1.trans hE2).size
 have hB4:=hE4.at hB3
 refine zc5 (g:=204) (cap:=cap) (vq0) rfl (hit (fun b=>b=w2.heap.size) (fun b hb=>by omega)) (Keep.refl _ _) (Nat.le_refl _) (fun b hb=>by omega)
  (fun x A args h=>by rw[h];rfl)
  (fun pre A=>Ext w A∧∃sv,A.heap[w2.heap.size]? =some (.cells #[sv] 156 (0,0))∧Own (w4.heap.size+2) A 3 sv (pre.map vi))
  (fun _ _ _=>False) ?_ (fun _ _ _ _ h _=>h.elim) ?_ ?_ ?_ (fun _ _ _ _ _ _ _ h _=>h.elim)
 ·rintro pre A B ⟨h1,sv,h2,h3⟩ hk
  have:=hE14.size
  exact⟨Keep.to_ext h1 rfl (fun b hb=>by unfold two at hb;omega) hk,sv,(hk.block _ (Array.getElem?_eq_some_iff.1 h2).1 (by unfold two;omega)).trans h2,h3.keep hk (fun b hb h=>by have:=(h3.ge hb).1;unfold two at h;omega)⟩
 ·exact⟨hE14,_,hB4,Own.nil _ _ _⟩
 ·rintro lp pre x suf A args hxs hszA ⟨hEA,sv,hb,hown⟩ rfl
  have hpl:pre.length+1≤xs.length:=by
   have:=congrArg List.length hxs
   simp at this;omega
  refine rq ?_;intro gd K hgd hK
  try simp only[go_sem]
  refine hK _ _ ?_;clear hK hgd;clear K;try clear gd
  refine zaz ?_
  refine⟨rfl,KeepB.refl _ _ _,fun Y hY=>?_⟩
  have hw4:=hE14.size
  have hbY:=(hY.block _ (Array.getElem?_eq_some_iff.1 hb).1 (by unfold two;omega)).trans hb
  have hEY:Ext w Y:=Keep.to_ext hEA rfl (fun b hb=>by unfold two at hb;omega) hY
  have hownY:=hown.keep hY (fun b hb h=>by have:=(hown.ge hb).1;unfold two at h;omega)
  have hsY:=hY.size
  have q0:zad Y (some ⟨w2.heap.size,0,Option.none⟩)=some sv:=zaa hbY rfl
  repeat refine c_r ?_
  refine rq ?_;intro gd K hgd hK
  try simp (disch:=first|omega|assumption|rfl) only[go_sem,q0]
  refine zbk rfl rfl rfl rfl rfl ?_
  intro y1 hEy1 hsy1 hown1
  try simp (disch:=first|omega|assumption|rfl) only[go_sem,q0]
  refine za8 (e:=3) (hownY.ext hEy1) hown1.row rfl rfl rfl rfl rfl rfl (vq0) (vq0) (fun q hq=>by simp at hq;subst hq;rfl) (by simp;omega) (by decide) (by omega) ?_
  intro sv' y2 hown2 hX2 hK2 hb2
  try simp only[go_sem]
  have hb2Y:=(hK2.block w2.heap.size (by have:=(Array.getElem?_eq_some_iff.1 (hEy1.at hbY)).1;omega) (fun hh=>by have:=(hownY.ge hh).1;omega)).trans (hEy1.at hbY)
  refine zaq (P:=Tryz.prog) rfl rfl (by obtain⟨a,c,rfl⟩:=hown2.slice;rfl) hb2Y (by simp) (by simp) ?_
  intro y3 hs3' hb3 hk3
  try simp only[go_sem]
  refine hK _ _ ?_;clear hK hgd;clear K;try clear gd
  repeat refine c_r ?_
  have hs2:=hK2.size
  refine⟨⟨Keep.to_ext (hX2 w (hEY.trans hEy1) (by omega)) rfl (fun b hb=>by have:=hE14.size;omega) hk3,sv',hb3,?_⟩,?_⟩
  ·rw[List.map_append];exact hown2.keep hk3 (fun b hb h=>by have:=(hown2.ge hb).1;omega)
  ·exact(hEy1.toB (by omega) (fun _ _ h=>h.elim)).trans ((hK2.toB (by omega) (fun i hi h=>by have:=(hownY.ge h).1;omega)).trans (hk3.toB (by omega) (fun _ _ h=>h)))
 ·intro A hszA ⟨hEA,sv,hb,hown⟩ hD
  have q0:zad A (some ⟨w2.heap.size,0,Option.none⟩)=some sv:=zaa hb rfl
  repeat refine c_r ?_
  refine rg1 q0 ?_
  repeat refine c_r ?_
  refine zdC (.inr rfl) Tryz.ntmps158 rfl hD ?_
  intro Z hkZ hsZ
  refine⟨_,zac (v:=sv) (vq0) (zac (v:=vi 0) (vr0) zae),?_⟩
  have hoZ:=hown.keep hkZ (fun b hb h=>by have:=(hown.ge hb).1;omega)
  exact⟨sv,rfl,hoZ.row,Keep.to_ext hEA rfl (fun b hb=>by omega) hkZ,fun x n c h=>by have:=hoZ.ge (b:=x.block) (by rw[h];rfl);omega⟩
theorem isPow16(w:World):Calls Tryz.prog 119 #[vi 16] w (fun e w'=>e= .returned (.bool true)∧w'=w):=by
 go_enter Tryz.func119,Tryz.ntmps119
 go_wp2
 go_ret
 exact⟨rfl,rfl⟩
section
variable {P : Program} {d : Option Tmp} {ty : TypeId} {ps : String} {af : Array Edge} {g : Option (Nat × Bool)} {ρ : Operand → Value} {w : World} {K : Value → World → Prop}
theorem op_slAl{t e:TypeId}{x y:Operand}{n l:Nat}{a:Addr}{inf:TypeInfo}(ht:P.underlying t=some (.array n e))(hn:n≠0)(hi:P.info? e=some inf)(hs:inf.size=1)(hl:l<n)
  (hx:ρ x= .pointer (some a)) (hy:ρ y=vi l) (h:K (.slice (some (a.add l)) (n - l) (n - l)) w):opW P ⟨d,.slice t x (some y) Option.none Option.none,ty,ps,af,g⟩ ρ w K:=by
 refine zaC (s:=Instr.sliceAt t (ρ x) (some (ρ y)) Option.none Option.none) (v:= .slice (some (a.add l)) (n - l) (n - l)) (w':=w) ?_ h
 have e1:=zbP (P:=P) (w:=w) (sl:=false) (n:=n) (c:=n) (lo:=some (vi l)) (hi:=Option.none) (mx:=Option.none) (l:=l) (h:=n) (m:=n) rfl rfl rfl (by omega) (Nat.le_refl _) (Nat.le_refl _) (by simp)
 simp[Instr.sliceAt,underlying,program,Sem.run,ht,hx,hy,Instr.sureAddr,e1,sizeOf,typeInfo,hi,hs,hn]
 omega
end
theorem isPow16F(w:World):Fn Tryz.prog 119 #[vi 16] w (fun v w'=>v= .bool true∧w=w'):=
 Fn.of_calls ((isPow16 w).mono fun _ _ ⟨he,hw⟩=>⟨_,he,rfl,hw.symm⟩)
structure WY(w:World):Prop where
 p10:∃t fr,w.heap[0]? =some (.cells (Lib.pow10Tab.map fun z=>Value.int .u64 z).toArray t fr)
 tz:w.cell? ⟨3,15,Option.none⟩=some (.int .u8 4)
theorem WY.ext{w x:World}(h:WY w)(hE:Ext w x):WY x:=by
 obtain⟨t,fr,h2⟩:=h.p10
 exact⟨⟨t,fr,hE.at h2⟩,zc1 hE h.tz⟩
instance WY.tr:Tr WY:=⟨fun hE h=>h.ext hE⟩
theorem WY.tab{w:World}(h:WY w){name:String}(hn:Tryz.prog.globalNamed name=some 0):Lib.TabIs Tryz.prog w name .u64 Lib.pow10Tab:=by
 obtain⟨t,fr,h⟩:=h.p10
 unfold Lib.TabIs World.var?
 rw[hn,Option.bind_some,h]
theorem zkn{w:World}(hW:WY w)(n:Int)(h0: -9223372036854775808≤n)(h1:n≤9223372036854775807):Fn Tryz.prog 58 #[vi n] w (fun v w'=>v=vs (Lib.itoa n)∧Ext w w'):=
 Fn.of_calls (Calls.mono (Any.strconv_Itoa Tryz.laysM171 n h0 h1 w (hW.tab (by kernel_rfl))) fun _ _ ⟨he,k,os,hw⟩=>⟨_,he,rfl,hw▸Ext.grow w k os⟩)
section
variable {P : Program} {d : Option Tmp} {ty : TypeId} {ps : String} {af : Array Edge} {g : Option (Nat × Bool)} {ρ : Operand → Value} {w : World} {K : Value → World → Prop}
theorem zl4{t e:TypeId}{x y:Operand}{n h0:Nat}{a:Addr}{inf:TypeInfo}(ht:P.underlying t=some (.array n e))(hn:n≠0)(hi:P.info? e=some inf)(hs:inf.size=1)(hl:h0≤n)
  (hx:ρ x= .pointer (some a)) (hy:ρ y=vi h0) (h:K (.slice (some a) h0 n) w):opW P ⟨d,.slice t x Option.none (some y) Option.none,ty,ps,af,g⟩ ρ w K:=by
 refine zaC (s:=Instr.sliceAt t (ρ x) Option.none (some (ρ y)) Option.none) (v:= .slice (some a) h0 n) (w':=w) ?_ h
 have e1:=zbP (P:=P) (w:=w) (sl:=false) (n:=n) (c:=n) (lo:=Option.none) (hi:=some (vi h0)) (mx:=Option.none) (l:=0) (h:=h0) (m:=n) rfl rfl rfl (by omega) hl (Nat.le_refl _) (by simp)
 simp[Instr.sliceAt,underlying,program,Sem.run,ht,hx,hy,Instr.sureAddr,e1,sizeOf,typeInfo,hi,hs,hn,Addr.add]
end
theorem Small_ok(w:World)(u:Nat)(hu:u<100):Fn Tryz.prog 80 #[vi u] w (fun v w'=>v=vs (Lib.decDigits u)∧w=w'):=
 Fn.of_calls (Calls.mono (Any.internal_strconv_small {Tryz.laysM171 with} u hu w) fun _ _ ⟨he,hw⟩=>⟨_,he,rfl,hw.symm⟩)
theorem znr{w:World}(hW:WY w)(u:Nat)(h1:1≤u)(h2:u<18446744073709551616):Fn Tryz.prog 81 #[.int .u64 u] w (fun v w'=>v=vi (Lib.nDigits u:Nat)∧w=w'):=
 Fn.of_calls (Calls.mono (Any.internal_strconv_numDigits {Tryz.laysM171 with} u h1 h2 w (hW.tab (by kernel_rfl))) fun _ _ ⟨he,hw⟩=>⟨_,he,rfl,hw.symm⟩)
theorem znC{w:World}{b:Nat}{T:TypeId}(hA:w.heap[b]? =some (.cells Lib.zeros24 T (0,0)))(u:Nat)(hu1:1≤u)(hu:u<18446744073709551616):
  Fn Tryz.prog 82 #[.slice (some ⟨b,0,Option.none⟩) (Lib.nDigits u) 24,.int .u64 u] w (fun _ w'=>Keep (fun i=>i=b) w w'∧∀j (h:j<(Lib.decDigits u).length),zad w' (some ⟨b,j,Option.none⟩)=some (zao (Lib.decDigits u)[j])):=by
 have hnd20:Lib.nDigits u≤20:=by have:=Lib.numDigits_eq u hu1 hu;split at this<;>omega
 have hH:Go.Sort.Holds (fun (b:UInt8)=>Value.int .u8 (b.toNat:Int)) w b 0 (Array.replicate (Lib.nDigits u) (0:UInt8)):=fun j hj=>by
  have hj':j<Lib.nDigits u:=by simpa using hj
  refine⟨?_,Lib.frozen_of_heap hA _⟩
  rw[Nat.zero_add,getElem!_pos _ j hj]
  have:w.cell? ⟨b,j,Option.none⟩=some (.int .u8 0):=zaa hA (Lib.zeros24_at j (by omega))
  rw[this]
  simp
 have hfmt:=Any.internal_strconv_formatBase10 {Tryz.laysM171 with} b 0 24 u (Array.replicate (Lib.nDigits u) 0) w hH (by rw[Array.size_replicate];exact Lib.lt_pow_nDigits u) hu (by rw[Array.size_replicate];omega)
 rw[Array.size_replicate]at hfmt
 refine Fn.of_calls (hfmt.mono ?_)
 rintro e w' ⟨rfl,k,v',dk,rfl,hF⟩
 refine⟨_,rfl,?_,fun j hj=>?_⟩
 ·refine Keep.trans (b:=Go.Sort.putRow (fun (b:UInt8)=>Value.int .u8 (b.toNat:Int)) w b 0 dk) ?_ ((Ext.drewN _ k).mono fun _ _ h=>h.elim)
  refine⟨rfl,rfl,rfl,?_,fun i hi hS=>?_,Nat.le_refl _⟩
  ·show _≤(Array.modify _ _ _).size
   simp
  ·show(Array.modify _ _ _)[i]? =_
   rw[Array.getElem?_modify,if_neg (fun h=>hS h.symm)]
 ·rw[Lib.row_is_numeral hF j hj]
  show World.cell? _ _=_
  rw[World.cell?_drewN,←Nat.zero_add j]
  have:=Go.Sort.cell?_putRow (fun (b:UInt8)=>Value.int .u8 (b.toNat:Int)) w b 0 _ dk hH (by rw[hF.size,Array.size_replicate]) j (by rw[hF.size];rw[Lib.decDigits_length]at hj;exact hj)
  rw[this,Nat.zero_add]
  rfl
theorem zhC{w:World}(hW:WY w)(u:Nat)(hu:u<18446744073709551616):Fn Tryz.prog 53 #[.int .u64 u,vi 10] w (fun v w'=>v=vs (Lib.decDigits u)∧Ext w w'):=by
 refine enter Tryz.func53 Tryz.ntmps53 rfl rfl ?_
 have d1:decide ((10:Int)=10)=true:=rfl
 by_cases h100:u<100
 ·have d2:decide ((u:Int)<100)=true:=decide_eq_true (by omega)
  refine go (an2 d1 d2) ?_
  refine rc trivial (Small_ok w u h100) ?_
  rintro _ _ ⟨rfl,rfl⟩
  refine rgo trivial ?_
  refine rt0 Tryz.ntmps53 ?_
  exact⟨rfl,Keep.refl _ _⟩
 have d2:decide ((u:Int)<100)=false:=decide_eq_false (by omega)
 have hu1:1≤u:=by omega
 have hnd20:Lib.nDigits u≤20:=by have:=Lib.numDigits_eq u hu1 hu;split at this<;>omega
 refine go (an2 d1 d2) ?_
 refine zan ?_
 intro w1 hE1 hs1 hA
 refine rc trivial (znr (hW.ext hE1) u hu1 hu) ?_
 rintro _ _ ⟨rfl,rfl⟩
 refine rgo trivial ?_
 repeat refine c_r ?_
 refine rq ?_;intro gd K hgd hK
 try simp only[go_sem]
 refine zl4 (n:=24) (h0:=Lib.nDigits u) (a:=⟨w.heap.size,0,Option.none⟩) rfl (by decide) rfl rfl (by omega) (vr0) (vr0) ?_
 try simp only[go_sem]
 refine Fn.mono (znC hA u hu1 hu) ?_
 rintro _ w2 ⟨hk2,hat⟩
 try simp only[go_sem]
 refine hK _ _ ?_;clear hK hgd;clear K;try clear gd
 repeat refine c_r ?_
 refine rq ?_;intro gd K hgd hK
 try simp only[go_sem]
 refine zl4 (n:=24) (h0:=Lib.nDigits u) (a:=⟨w.heap.size,0,Option.none⟩) rfl (by decide) rfl rfl (by omega) (vr0) (vr0) ?_
 try simp only[go_sem]
 refine zcs (l:=Lib.decDigits u) (a:=some ⟨w.heap.size,0,Option.none⟩) (c:=24) rfl rfl rfl (by rw[Lib.decDigits_length];first| (simp only[go_sem];done)| (simp only[go_sem];rfl)) (fun j hj=>?_) ?_
 ·rw[zaZ];simpa [Addr.add] using hat j hj
 try simp only[go_sem]
 refine hK _ _ ?_;clear hK hgd;clear K;try clear gd
 repeat refine c_r ?_
 refine rt0 Tryz.ntmps53 ?_
 exact⟨rfl,Keep.to_ext hE1 rfl (fun b (hb:b=w.heap.size)=>by omega) hk2⟩
theorem zcw{w:World}(hW:WY w)(u:Nat)(hu:u<18446744073709551616):Fn Tryz.prog 26 #[.int .u64 u,vi 10] w (fun v w'=>v=vs (Lib.decDigits u)∧Ext w w'):=by
 refine enter Tryz.func26 Tryz.ntmps26 rfl rfl ?_
 refine go trivial ?_
 refine rc trivial (zhC hW u hu) ?_
 rintro _ w1 ⟨rfl,hE1⟩
 refine rgo trivial ?_
 refine rt0 Tryz.ntmps26 ?_
 exact⟨rfl,hE1⟩
end Go.Proofs.YtkpdfhbpdkifoaaGreatDoor
namespace Go.Proofs
open Go.Shelf
def Tryz.lays137_ren:Go.Shelf.Ren:=⟨fun|137=>75|217=>114|266=>148|n=>n,fun|9=>9|5=>5|3=>3|n=>n,fun|n=>n⟩
theorem Tryz.lays137:Go.Proofs.Lays.n137 Tryz.prog Tryz.lays137_ren:={
 mixed:=by kernel_rfl
 f137:=Tryz.func75.trans (congrArg some (by kernel_rfl))
 f217:=Tryz.func114.trans (congrArg some (by kernel_rfl))
 f266:=Tryz.func148.trans (congrArg some (by kernel_rfl))
 t3:=Tryz.underlying3
 a3:=Tryz.isAgg3
 z3:=Tryz.sizeOf3
 v3:=Tryz.zeroValue3
 t5:=Tryz.underlying5
 a5:=Tryz.isAgg5
 z5:=Tryz.sizeOf5
 v5:=Tryz.zeroValue5
 t9:=Tryz.underlying9
 a9:=Tryz.isAgg9
 z9:=Tryz.sizeOf9
 v9:=Tryz.zeroValue9}
end Go.Proofs
namespace Go.Proofs.YtkpdfhbpdkifoaaGreatDoor
open Go
set_option maxRecDepth 10000
def escB(c:UInt8):List UInt8:=[92,UInt8.ofNat (48+c.toNat / 100),UInt8.ofNat (48+c.toNat / 10 % 10),UInt8.ofNat (48+c.toNat % 10)]
def marksL:List UInt8:=[46,92,34,40,41,59,64,36]
def labB(c:UInt8):List UInt8:=if c.toNat≤32∨127≤c.toNat then escB c else if marksL.contains c then [92,c] else [c]
def zau(l:Lab):List UInt8:=l.flatMap labB
def zaV(n:Nm):List UInt8:=if n=[] then [46] else n.flatMap fun l=>zau l++ [46]
theorem zct{k:Nat}(h:k<256):zao (UInt8.ofNat k)= .int .u8 (k:Int):=by
 unfold zao
 rw[UInt8.toNat_ofNat_of_lt' (by simpa [UInt8.size] using h)]
theorem zeu(l:List UInt8)(c:UInt8):decide (0≤Lib.indexByte l c)=l.contains c:=by
 induction l with
 |nil=>rfl
 |cons b l ih=>
  unfold Lib.indexByte
  rw[List.contains_cons]
  by_cases h:b==c
  ·rw[if_pos h]
   have h':b=c:=by simpa using h
   subst h'
   simp
  ·rw[if_neg h]
   have:(c==b)=false:=by
    have h':¬b=c:=by simpa using h
    exact beq_eq_false_iff_ne.2 (fun e=>h' e.symm)
   rw[this,Bool.false_or,←ih]
   have hge:=Lib.indexByte_ge l c
   by_cases h2:(Lib.indexByte l c== -1)=true
   ·rw[if_pos h2]
    have h3:Lib.indexByte l c= -1:=by simpa using h2
    rw[h3]
   ·rw[if_neg h2]
    have h3:Lib.indexByte l c≠ -1:=by simpa using h2
    exact decide_eq_decide.2 ⟨fun _=>by omega,fun _=>by omega⟩
theorem labB_len(c:UInt8):(labB c).length≤4:=by
 unfold labB escB
 by_cases h1:c.toNat≤32∨127≤c.toNat
 ·rw[if_pos h1];exact Nat.le_refl _
 ·rw[if_neg h1]
  by_cases h2:marksL.contains c=true
  ·rw[if_pos h2];exact(by decide:2≤4)
  ·rw[if_neg h2];exact(by decide:1≤4)
theorem zb0(l:Lab):(zau l).length≤4*l.length:=by
 induction l with
 |nil=>simp[zau]
 |cons c l ih=>
  have:=labB_len c
  unfold zau at*
  rw[List.flatMap_cons,List.length_append,List.length_cons];omega
theorem zgn(w:World)(c:UInt8):Fn Tryz.prog 74 #[zao c] w (fun v w'=>v=vs (escB c)∧Ext w w'):=by
 have hc:c.toNat<256:=c.toNat_lt
 obtain⟨n,hn⟩:∃n,c.toNat=n:=⟨_,rfl⟩
 have e0:zao c= .int .u8 (n:Int):=by unfold zao;rw[hn]
 rw[e0]
 rw[hn]at hc
 have h100:¬(100:Int)=0:=by decide
 have h10:¬(10:Int)=0:=by decide
 have e1:((n:Nat):Int).tdiv 100=((n / 100:Nat):Int):=by rw[Int.tdiv_eq_ediv_of_nonneg (by omega)];omega
 have e2:((n:Nat):Int).tdiv 10=((n / 10:Nat):Int):=by rw[Int.tdiv_eq_ediv_of_nonneg (by omega)];omega
 have e3:((n / 10:Nat):Int).tmod 10=((n / 10 % 10:Nat):Int):=by rw[Int.tmod_eq_emod_of_nonneg (by omega)];omega
 have e4:((n:Nat):Int).tmod 10=((n % 10:Nat):Int):=by rw[Int.tmod_eq_emod_of_nonneg (by omega)];omega
 have w1:IntKind.u8.wrap ((n / 100:Nat):Int)=((n / 100:Nat):Int):=zkt (by omega) (by omega)
 have w2:IntKind.u8.wrap ((n / 10:Nat):Int)=((n / 10:Nat):Int):=zkt (by omega) (by omega)
 have w3:IntKind.u8.wrap (48+((n / 100:Nat):Int))=((48+n / 100:Nat):Int):=by rw[zkt (by omega) (by omega)];push_cast;rfl
 have w4:IntKind.u8.wrap (48+((n / 10 % 10:Nat):Int))=((48+n / 10 % 10:Nat):Int):=by rw[zkt (by omega) (by omega)];push_cast;rfl
 have w5:IntKind.u8.wrap (48+((n % 10:Nat):Int))=((48+n % 10:Nat):Int):=by rw[zkt (by omega) (by omega)];push_cast;rfl
 have hl:escB c=[92,UInt8.ofNat (48+n / 100),UInt8.ofNat (48+n / 10 % 10),UInt8.ofNat (48+n % 10)]:=by unfold escB;rw[hn]
 refine enter Tryz.func74 Tryz.ntmps74 rfl rfl ?_
 repeat refine c_r ?_
 refine rg0 ?_
 repeat refine c_r ?_
 refine rq ?_;intro gd K hgd hK
 try simp (disch:=assumption) only[go_sem,b_quo,b_rem,e1,e2,e3,e4,w1,w2,↓w3,↓w4,↓w5]
 refine zbQ (z:= .int .u8 0) (l:=(escB c).map zao) (by rw[hl];rfl) ?_ (by rfl) (by rfl) (by rfl) (by rfl) (fun v hv=>?_) (by rw[hl];simp) ?_
 ·rw[hl]
  simp only[List.map_cons,List.map_nil]
  rw[zct (by omega),zct (by omega),zct (by omega)];rfl
 ·obtain⟨d,_,rfl⟩:=List.mem_map.1 hv;rfl
 intro x1 hX1 hXs hXo
 try simp only[go_sem]
 have hlen4:(escB c).length=4:=rfl
 refine zcs (l:=escB c) rfl rfl rfl (vr0) (fun j hj=>?_) ?_
 ·obtain⟨a,c2,e,hc2,hgt⟩:=hXo.row
  injection e with e1
  have h2:=hgt j (by simpa using hj)
  rw[←e1,List.getElem_map]at h2
  exact h2
 try simp only[go_sem]
 refine hK _ _ ?_;clear hK hgd;clear K;try clear gd
 repeat refine c_r ?_
 refine rt0 Tryz.ntmps74 ?_
 exact⟨rfl,hX1⟩
theorem ziO(w:World)(c:UInt8):Fn Tryz.prog 75 #[vs marksL,zao c] w (fun v w'=>v=vi (Lib.indexByte marksL c)∧w'=w):=
 Fn.of_calls (Calls.mono (Any.strings_IndexByte Tryz.lays137 ⟨marksL.toArray⟩ (c.toNat:Int) w) fun _ _ ⟨he,hw⟩=>⟨_,he,by simp,hw⟩)
theorem Bld.ext'{B:Nat}{w x:World}{b:Nat}{bs:List UInt8}(h:Bld B w b bs)(hE:Ext w x):Bld B x b bs:=by
 obtain⟨p,v,hp,hb,hown⟩:=h.ex
 exact⟨p,v,hp,hE.at hb,hown.ext hE⟩
theorem zkm(w:World)(l:Lab)(hl:l.length≤1000000000):Fn Tryz.prog 44 #[vs l] w (fun v w'=>v=vs (zau l)∧Ext w w'):=by
 refine enter Tryz.func44 Tryz.ntmps44 rfl rfl ?_
 repeat refine c_r ?_
 refine rg0 ?_
 repeat refine c_r ?_
 refine rg0 ?_
 refine zan ?_
 intro w1 hE1 hs1 hA
 repeat refine c_r ?_
 refine rq ?_;intro gd K hgd hK
 try simp only[go_sem]
 refine Fn.mono (zen _ _ (by omega)) ?_
 rintro _ w3 ⟨hE3,cap,rfl,hit⟩
 try simp only[go_sem]
 refine hK _ _ ?_;clear hK hgd;clear K;try clear gd
 have hA3:=hE3.at hA
 have s3:=hE3.size
 repeat refine c_r ?_
 refine zc5 (g:=113) (cap:=cap) (vq0) rfl (hit (fun b=>b=w.heap.size) (fun b hb=>by omega)) (Keep.refl _ _) (Nat.le_refl _) (fun b hb=>by omega)
  (fun x A args h=>by rw[h];rfl)
  (fun pre A=>Ext w A∧Bld (w3.heap.size+2) A w.heap.size (zau (l.take pre.length)))
  (fun _ _ _=>False) ?_ (fun _ _ _ _ h _=>h.elim) ?_ ?_ ?_ (fun _ _ _ _ _ _ _ h _=>h.elim)
 ·rintro pre A B ⟨h1,p,v,hp,hb,hown⟩ hk
  refine⟨Keep.to_ext h1 rfl (fun b hb=>by unfold two at hb;omega) hk,p,v,hp,(hk.block _ (Array.getElem?_eq_some_iff.1 hb).1 (by unfold two;omega)).trans hb,hown.keep hk (fun b hb h=>by have:=(hown.ge hb).1;unfold two at h;omega)⟩
 ·exact⟨hE1.trans hE3,_,_,.inl rfl,hA3,Own.nil _ _ _⟩
 ·rintro lp pre x suf A args hxs hszA ⟨hEA,hB⟩ rfl
  obtain⟨hk,rfl⟩:=zcn hxs
  dsimp only
  refine rq ?_;intro gd K hgd hK
  try simp only[go_sem]
  refine hK _ _ ?_;clear hK hgd;clear K;try clear gd
  refine zaz ?_
  refine⟨rfl,KeepB.refl _ _ _,fun A2 hA2=>?_⟩
  obtain⟨c,hc⟩:∃c,l[pre.length]=c:=⟨_,rfl⟩
  rw[hc]
  have hK2:Bld (w3.heap.size+2) A2 w.heap.size (zau (l.take pre.length)):=by
   obtain⟨p,v,hp,hb,hown⟩:=hB
   exact⟨p,v,hp,(hA2.block _ (Array.getElem?_eq_some_iff.1 hb).1 (by unfold two;omega)).trans hb,hown.keep hA2 (fun b hb h=>by have:=(hown.ge hb).1;unfold two at h;omega)⟩
  have hE2:Ext w A2:=Keep.to_ext hEA rfl (fun b hb=>by unfold two at hb;omega) hA2
  have hsA2:=hA2.size
  have htl:(zau (l.take pre.length)).length≤4*l.length:=by
   have h1:=zb0 (l.take pre.length)
   rw[List.length_take]at h1;omega
  have htk:zau (l.take (pre.length+1))=zau (l.take pre.length)++labB c:=by
   rw[zak hk,hc];unfold zau;rw[List.flatMap_append];simp
  have fin:∀{z:World} {bs:List UInt8},bs=labB c→Bld (w3.heap.size+2) z w.heap.size (zau (l.take pre.length)++bs)→Keep (fun i=>i=w.heap.size∨w3.heap.size+2≤i) A2 z→
    (Ext w z∧Bld (w3.heap.size+2) z w.heap.size (zau (l.take (pre++ [(c,pre.length)]).length)))∧KeepB (w3.heap.size+2) (fun b=>b=w.heap.size) A2 z:=fun {z bs} hbs hBz hkz=>by
   refine⟨⟨Keep.to_ext hE2 rfl (fun b hb=>by omega) hkz,?_⟩,hkz.toB (by omega) (fun i hi h=>by omega)⟩
   rw[List.length_append,List.length_singleton,htk,←hbs];exact hBz
  repeat refine c_r ?_
  refine zas (Q:=fun e σ' ds' v'=>e= .normal∧ds'=[]∧v'=A2∧σ' 5=zao c∧σ' 3= .pointer (some ⟨w.heap.size,0,Option.none⟩)∧σ' 10= .bool (decide (c.toNat≤32∨127≤c.toNat))) ?_ ?_
  ·refine rq ?_;intro gd K hgd hK
   have hg2:∀n σ b,zaE gd n σ (some (2,b))=zap (ev n σ (.tmp 13)) b:=(fun n σ b=>by rw[zag,show gd 2=some 13 from(by rw[hgd];rfl)];rfl)
   by_cases c1:(c.toNat:Int)≤32
   ·try simp (disch:=first|omega|assumption|rfl) only[go_sem,zao,decide_eq_true c1,↓hg2]
    refine hK _ _ ?_;clear hK hgd;clear K;try clear gd
    refine⟨rfl,rfl,rfl,by simp only[go_sem,zao],vq0,?_⟩
    rw[show decide (c.toNat≤32∨127≤c.toNat)=true from decide_eq_true (.inl (by omega))]
    simp only[go_sem]
   ·try simp (disch:=first|omega|assumption|rfl) only[go_sem,zao,decide_eq_false c1,↓hg2]
    refine hK _ _ ?_;clear hK hgd;clear K;try clear gd
    refine⟨rfl,rfl,rfl,by simp only[go_sem,zao],vq0,?_⟩
    rw[show decide (c.toNat≤32∨127≤c.toNat)=decide ((127:Int)≤(c.toNat:Int)) from decide_eq_decide.2 ⟨fun h=>by omega,fun h=> .inr (by omega)⟩]
    simp only[go_sem]
  rintro _ σ1 _ v1 ⟨rfl,rfl,hv1,h5,h3,h10⟩
  rw[hv1]
  clear hv1 v1
  repeat refine c_r ?_
  refine zbK (t:=decide (c.toNat≤32∨127≤c.toNat)) ((vq1 h10)) ?_ ?_
  ·intro hcc
   simp only[decide_eq_true_eq]at hcc
   have hlb:labB c=escB c:=by unfold labB;rw[if_pos hcc]
   repeat refine c_r ?_
   refine rq ?_;intro gd K hgd hK
   try simp (disch:=first|omega|assumption|rfl) only[go_sem,h5,h3]
   refine Fn.mono (zgn A2 c) ?_
   rintro _ z1 ⟨rfl,hz1⟩
   try simp (disch:=first|omega|assumption|rfl) only[go_sem,h3]
   have hBz:=hK2.ext' hz1
   refine Fn.mono (zaU hBz (by have:=hz1.size;omega) (by have:(escB c).length=4:=rfl;omega)) ?_
   rintro _ z2 ⟨hBz2,hkz2⟩
   try simp only[go_sem]
   refine hK _ _ ?_;clear hK hgd;clear K;try clear gd
   repeat refine c_r ?_
   exact fin hlb.symm hBz2 ((hz1.mono (fun i _ h=>h.elim)).trans hkz2)
  ·intro hcc
   simp only[decide_eq_false_iff_not]at hcc
   repeat refine c_r ?_
   refine rq ?_;intro gd K hgd hK
   try simp (disch:=first|omega|assumption|rfl) only[go_sem,h5]
   refine Fn.mono (ziO A2 c) ?_
   rintro _ y0 ⟨rfl,hy0⟩
   try simp only[go_sem]
   rw[hy0]
   clear hy0 y0
   refine hK _ _ ?_;clear hK hgd;clear K;try clear gd
   have hhas:=zeu marksL c
   have tail:∀{z:World} {σ':Sto} {bs:List UInt8},bs++ [c]=labB c→Bld (w3.heap.size+2) z w.heap.size (zau (l.take pre.length)++bs)→Keep (fun i=>i=w.heap.size∨w3.heap.size+2≤i) A2 z→σ' 5=zao c→σ' 3= .pointer (some ⟨w.heap.size,0,Option.none⟩)→bs.length≤4→
     Fn Tryz.prog 76 #[.pointer (some ⟨w.heap.size,0,Option.none⟩),zao c] z (fun _ z'=>(Ext w z'∧Bld (w3.heap.size+2) z' w.heap.size (zau (l.take (pre++ [(c,pre.length)]).length)))∧KeepB (w3.heap.size+2) (fun b=>b=w.heap.size) A2 z'):=fun {z σ' bs} hbs hBz hkz _ _ hb4=>by
    refine Fn.mono (zbb hBz (by have:=hkz.size;omega) (by simp;omega)) ?_
    rintro _ z' ⟨h1,h2⟩
    exact fin hbs (by rw[←List.append_assoc];exact h1) (hkz.trans h2)
   repeat refine c_r ?_
   refine zbK (t:=marksL.contains c) (by rw[←hhas];simp only[go_sem]) ?_ ?_
   ·intro hm
    have hlb:labB c=[92,c]:=by unfold labB;rw[if_neg hcc,if_pos hm]
    repeat refine c_r ?_
    refine rq ?_;intro gd K hgd hK
    try simp (disch:=first|omega|assumption|rfl) only[go_sem,h3]
    refine Fn.mono (zbb (c:=92) hK2 (by omega) (by omega)) ?_
    rintro _ z1 ⟨hBz1,hkz1⟩
    try simp only[go_sem]
    refine hK _ _ ?_;clear hK hgd;clear K;try clear gd
    repeat refine c_r ?_
    refine rq ?_;intro gd K hgd hK
    try simp (disch:=first|omega|assumption|rfl) only[go_sem,h3,h5]
    refine Fn.mono (tail (σ':=σ1) (bs:=[92]) hlb.symm hBz1 hkz1 h5 h3 (by decide)) ?_
    rintro _ z2 hz2
    try simp only[go_sem]
    refine hK _ _ ?_;clear hK hgd;clear K;try clear gd
    repeat refine c_r ?_
    exact hz2
   ·intro hm
    have hlb:labB c=[c]:=by unfold labB;rw[if_neg hcc,if_neg (by rw[hm];exact Bool.false_ne_true)]
    repeat refine c_r ?_
    refine rq ?_;intro gd K hgd hK
    try simp (disch:=first|omega|assumption|rfl) only[go_sem,h3,h5]
    refine Fn.mono (tail (σ':=σ1) (bs:=[]) hlb.symm (by simpa using hK2) (Keep.refl _ _) h5 h3 (by decide)) ?_
    rintro _ z2 hz2
    try simp only[go_sem]
    refine hK _ _ ?_;clear hK hgd;clear K;try clear gd
    repeat refine c_r ?_
    exact hz2
 ·intro A hszA ⟨hEA,hB⟩ hD
  rw[List.take_of_length_le (by simp)]at hB
  have hlt:=zb0 l
  repeat refine c_r ?_
  refine rq ?_;intro gd K hgd hK
  try simp only[go_sem]
  refine Fn.mono (zcL hB (by omega)) ?_
  rintro _ z ⟨rfl,hkz⟩
  try simp only[go_sem]
  refine hK _ _ ?_;clear hK hgd;clear K;try clear gd
  repeat refine c_r ?_
  refine zfl (v:=vs (zau l)) (.inr rfl) (by rfl) Tryz.ntmps44 (vq0) ((hkz.block _ (by omega) (by omega)).trans hD) ?_
  intro Z hkZ hsZ
  exact⟨rfl,Keep.to_ext (Keep.to_ext hEA rfl (fun b hb=>by omega) hkz) rfl (fun b hb=>by omega) hkZ⟩
def quoB(c:UInt8):Lab:=if c.toNat<32∨126<c.toNat then escB c else if c=34∨c=92 then [92,c] else [c]
def quoL(l:Lab):Lab:=l.flatMap quoB
def quoT(l:Lab):Lab:=34::(quoL l++ [34])
theorem quoB_len(c:UInt8):(quoB c).length≤4:=by
 unfold quoB escB
 split
 ·exact Nat.le_refl _
 ·split
  ·exact(by decide:2≤4)
  ·exact(by decide:1≤4)
theorem zeh(l:Lab):(quoL l).length≤4*l.length:=by
 induction l with
 |nil=>simp[quoL]
 |cons c l ih=>
  have:=quoB_len c
  unfold quoL at*
  rw[List.flatMap_cons,List.length_append,List.length_cons];omega
theorem quote_ok(w:World)(l:Lab)(hl:l.length≤1000000000):Fn Tryz.prog 86 #[vs l] w (fun v w'=>v=vs (quoT l)∧Ext w w'):=by
 refine enter Tryz.func86 Tryz.ntmps86 rfl rfl ?_
 refine go trivial ?_
 refine zan ?_
 intro w1 hE1 hs1 hA
 repeat refine c_r ?_
 refine rq ?_;intro gd K hgd hK
 try simp only[go_sem]
 refine zfr rfl rfl rfl (vr0) ?_
 intro c cur w2 hlc hcs hct hE2 hs2 hb2
 try simp only[go_sem]
 refine hK _ _ ?_;clear hK hgd;clear K;try clear gd
 have hgx:∀i (h:i<l.length),zad w2 (some ⟨w1.heap.size,i,Option.none⟩)=some (zao l[i]):=fun i hi=>by
  refine zaa hb2 ?_
  have:(cur.toList.take l.length)[i]? =some (zao l[i]):=by rw[hct,List.getElem?_map,List.getElem?_eq_getElem hi];rfl
  rw[List.getElem?_take,if_pos hi]at this
  simpa using this
 have hE12:=hE1.trans hE2
 have hB0:Bld (w.heap.size+1) w2 w.heap.size []:=⟨_,_,.inl rfl,hE2.at hA,Own.nil _ _ _⟩
 refine go trivial ?_
 refine zbq l.length (fun i σ v=>σ 3= .pointer (some ⟨w.heap.size,0,Option.none⟩)∧σ 7= .slice (some ⟨w1.heap.size,0,Option.none⟩) l.length c∧σ 8=vi l.length∧σ 9=vi i∧Ext w v∧(∀i (h:i<l.length),zad v (some ⟨w1.heap.size,i,Option.none⟩)=some (zao l[i]))∧Bld (w2.heap.size) v w.heap.size (quoL (l.take i))∧w2.heap.size≤v.heap.size) ?_ ?_ ?_
 ·exact⟨vr0,vr0,vr0,vr0,hE12,hgx,⟨⟨_,_,.inl rfl,hE2.at hA,Own.nil _ _ _⟩⟩,Nat.le_refl _⟩
 ·rintro i σ v hi p ⟨s3,s7,s8,s9,hE,hat,hB,hsv⟩
  have g:=hat i hi
  obtain⟨d,hd⟩:∃d,l[i]=d:=⟨_,rfl⟩
  rw[hd]at g
  replace g:zad v (some ⟨w1.heap.size,i,Option.none⟩)=some (.int .u8 (d.toNat:Int)):=g
  have hi0:(0:Int)≤(i:Int):=by omega
  have hi1:(i:Int)<(l.length:Int):=by omega
  have hi2:(i:Int)+1=((i+1:Nat):Int):=by push_cast;rfl
  have htl:(quoL (l.take i)).length≤4*l.length:=by
   have h1:=zeh (l.take i)
   rw[List.length_take]at h1;omega
  have htk:quoL (l.take (i+1))=quoL (l.take i)++quoB d:=by
   rw[zak hi,hd];unfold quoL;rw[List.flatMap_append,List.flatMap_singleton]
  -- one more
  have fin:∀{z:World} {bs:List UInt8},bs=quoB d→Bld w2.heap.size z w.heap.size (quoL (l.take i)++bs)→Keep (fun i=>i=w.heap.size∨w2.heap.size≤i) v z→
    Ext w z∧(∀i (h:i<l.length),zad z (some ⟨w1.heap.size,i,Option.none⟩)=some (zao l[i]))∧Bld (w2.heap.size) z w.heap.size (quoL (l.take (i+1)))∧w2.heap.size≤z.heap.size:=fun {z bs} hbs hBz hkz=>
   ⟨Keep.to_ext hE rfl (fun b hb=>by omega) hkz,fun j hj=>by
    have h1:=hkz.block w1.heap.size (by omega) (by omega)
    have h2:=hat j hj
    show z.cell? _=_
    rw[zcI (a:=⟨w1.heap.size,j,Option.none⟩) h1]
    exact h2,by rw[htk,←hbs];exact hBz,by have:=hkz.size;omega⟩
  refine go (an8 s3 s7 s8 s9 p g Nat.zero_add (an2 hi0 hi1)) ?_
  by_cases c1:(d.toNat:Int)<32
  ·refine rgg [(2,16)] (decide_eq_true c1) ?_
   have hq:quoB d=escB d:=by unfold quoB;rw[if_pos (.inl (by omega))]
   refine go trivial ?_
   refine rc trivial (zgn v d) ?_
   rintro _ v1 ⟨rfl,hEv1⟩
   refine rd s3 (zaU (s:=escB d) (hB.ext' hEv1) (by have:=hEv1.size;omega) (by have:(escB d).length=4:=rfl;omega)) ?_
   rintro _ v2 ⟨hB2,hk2⟩
   refine rgo (an5 s3 s7 s8 s9 hi2) ?_
   obtain⟨f1,f2,f3,f4⟩:=fin hq.symm hB2 ((hEv1.mono fun _ _ h=>h.elim).trans hk2)
   exact⟨rfl,(vq1 s3),(vq1 s7),(vq1 s8),(vq1 hi2),f1,f2,f3,f4⟩
  by_cases c2:(126:Int)<(d.toNat:Int)
  ·refine rgg [(2,16)] (an2 (decide_eq_false c1) (decide_eq_true c2)) ?_
   have hq:quoB d=escB d:=by unfold quoB;rw[if_pos (.inr (by omega))]
   refine go trivial ?_
   refine rc trivial (zgn v d) ?_
   rintro _ v1 ⟨rfl,hEv1⟩
   refine rd s3 (zaU (s:=escB d) (hB.ext' hEv1) (by have:=hEv1.size;omega) (by have:(escB d).length=4:=rfl;omega)) ?_
   rintro _ v2 ⟨hB2,hk2⟩
   refine rgo (an5 s3 s7 s8 s9 hi2) ?_
   obtain⟨f1,f2,f3,f4⟩:=fin hq.symm hB2 ((hEv1.mono fun _ _ h=>h.elim).trans hk2)
   exact⟨rfl,(vq1 s3),(vq1 s7),(vq1 s8),(vq1 hi2),f1,f2,f3,f4⟩
  refine rgg [(2,16)] (an2 (decide_eq_false c1) (decide_eq_false c2)) ?_
  refine go trivial ?_
  by_cases c3:d=34
  ·have hq:quoB d=[92,d]:=by subst c3;rfl
   refine rgg [(2,23)] (show decide ((d.toNat:Int)=34)=true by subst c3;rfl) ?_
   refine go trivial ?_
   refine rc s3 (zbb (c:=92) hB hsv (by omega)) ?_
   rintro _ v1 ⟨hB1,hk1⟩
   refine rgo trivial ?_
   refine rc s3 (zbb (c:=d) hB1 (by have:=hk1.size;omega) (by simp;omega)) ?_
   rintro _ v2 ⟨hB2,hk2⟩
   refine rgo (an5 s3 s7 s8 s9 hi2) ?_
   rw[List.append_assoc]at hB2
   obtain⟨f1,f2,f3,f4⟩:=fin hq.symm hB2 (hk1.trans hk2)
   exact⟨rfl,(vq1 s3),(vq1 s7),(vq1 s8),(vq1 hi2),f1,f2,f3,f4⟩
  have d3:decide ((d.toNat:Int)=34)=false:=decide_eq_false fun h=>c3 (UInt8.toNat_inj.1 (by have:(34:UInt8).toNat=34:=rfl;omega))
  by_cases c4:d=92
  ·have hq:quoB d=[92,d]:=by subst c4;rfl
   refine rgg [(2,23)] (an2 d3 (show decide ((d.toNat:Int)=92)=true by subst c4;rfl)) ?_
   refine go trivial ?_
   refine rc s3 (zbb (c:=92) hB hsv (by omega)) ?_
   rintro _ v1 ⟨hB1,hk1⟩
   refine rgo trivial ?_
   refine rc s3 (zbb (c:=d) hB1 (by have:=hk1.size;omega) (by simp;omega)) ?_
   rintro _ v2 ⟨hB2,hk2⟩
   refine rgo (an5 s3 s7 s8 s9 hi2) ?_
   rw[List.append_assoc]at hB2
   obtain⟨f1,f2,f3,f4⟩:=fin hq.symm hB2 (hk1.trans hk2)
   exact⟨rfl,(vq1 s3),(vq1 s7),(vq1 s8),(vq1 hi2),f1,f2,f3,f4⟩
  have d4:decide ((d.toNat:Int)=92)=false:=decide_eq_false fun h=>c4 (UInt8.toNat_inj.1 (by have:(92:UInt8).toNat=92:=rfl;omega))
  have hq:quoB d=[d]:=by unfold quoB;rw[if_neg (by omega),if_neg (by simp[c3,c4])]
  refine rgg [(2,23)] (an2 d3 d4) ?_
  refine go trivial ?_
  refine rc s3 (zbb (c:=d) hB hsv (by omega)) ?_
  rintro _ v2 ⟨hB2,hk2⟩
  refine rgo (an5 s3 s7 s8 s9 hi2) ?_
  obtain⟨f1,f2,f3,f4⟩:=fin hq.symm hB2 hk2
  exact⟨rfl,(vq1 s3),(vq1 s7),(vq1 s8),(vq1 hi2),f1,f2,f3,f4⟩
 ·rintro σ v p ⟨s3,s7,s8,s9,hE,hat,hB,hsv⟩
  rw[List.take_length]at hB
  have hql:=zeh l
  refine go (an4 s7 s8 s9 p) ?_
  refine rc s3 (zcL hB (by omega)) ?_
  rintro _ v1 ⟨rfl,hk1⟩
  have l1:([34]:Lab).length+(quoL l).length≤9223372036854775807:=by simp;omega
  have l2:(34::quoL l:Lab).length+([34]:Lab).length≤9223372036854775807:=by simp;omega
  refine rgo (an2 l1 l2) ?_
  refine rt0 Tryz.ntmps86 ?_
  exact⟨rfl,Keep.to_ext hE rfl (fun b hb=>by omega) hk1⟩
def zaX(k:Nat)(l:List UInt8):List (List UInt8):=(List.range ((l.length+(k - 1)) / k)).map fun i=>(l.drop (i*k)).take k
def encCh(w0:World)(x:List UInt8)(_:World)(args:Array Value):Prop:=∃v,args=#[v]∧Row w0 v (x.map zao)
theorem zcH(k:Nat)(l:List UInt8):(zaX k l).length=(l.length+(k - 1)) / k:=by unfold zaX;simp
theorem zeU{k:Nat}{l:List UInt8}{i:Nat}(h:i<(zaX k l).length):(zaX k l)[i]=(l.drop (i*k)).take k:=by
 simp[zaX]
theorem zm0{k:Nat}(hk:1≤k){l:List UInt8}{i:Nat}:i<(zaX k l).length↔i*k<l.length:=by
 rw[zcH]
 constructor
 ·intro h
  have h1:(i+1)*k≤l.length+(k - 1):=(Nat.le_div_iff_mul_le (by omega)).1 h
  rw[Nat.add_mul]at h1
  omega
 ·intro h
  have:(i+1)≤(l.length+(k - 1)) / k:=(Nat.le_div_iff_mul_le (by omega)).2 (by rw[Nat.add_mul];omega)
  omega
theorem s_sl3{P:Program}{e:TypeId}{ad:Option Addr}{n c:Nat}{k k' k2:IntKind}{l m x:Int}(h1:0≤l)(h3:l≤m)(h4:m≤x)(h5:x≤(c:Int)):
  slD P (some (.slice e)) (.slice ad n c) (some (.int k l)) (some (.int k' m)) (some (.int k2 x))=
   (bif (P.info? e).isSome then some (.slice (if x.toNat=l.toNat then ad else adr ad (l.toNat*tyS P e)) (m.toNat - l.toNat) (x.toNat - l.toNat)) else Option.none):=by
 have g1:slB (some (Value.int k l))=some l.toNat:=by simp[slB,h1]
 have g2:slH (some (Value.int k' m)) n=some m.toNat:=by simp[slH,show 0≤m by omega]
 have g3:slH (some (Value.int k2 x)) c=some x.toNat:=by simp[slH,show 0≤x by omega]
 unfold slD
 simp only[g1,g2,g3]
 rw[if_pos (by refine⟨by omega,by omega,by omega,fun _=>rfl⟩)]
theorem zm1{w0 W0:World}{n0:Nat}{C:Nat→Prop}{b1 b2 k:Nat}{T1 T2:TypeId}{fr1 fr2:Nat×Nat}{v:Value}{l:List UInt8}(hE0:Ext w0 W0)(hrow:Row w0 v (l.map zao))(h1:W0.heap[b1]? =some (.cells #[v] T1 fr1))(h2:W0.heap[b2]? =some (.cells #[vi k] T2 fr2))
  (hb1:b1<n0) (hb2:b2<n0) (hc1:¬C b1) (hc2:¬C b2) (hC:∀b,C b→w0.heap.size≤b) (hn0:w0.heap.size≤n0) (hk:1≤k) (hk1:k≤1000) (hl:l.length≤1000000):
  Iter Tryz.prog 151 #[.pointer (some ⟨b1,0,Option.none⟩),.pointer (some ⟨b2,0,Option.none⟩)] W0 n0 C (zaX k l) (encCh w0):=by
 intro lp J Jx W hW hnW hJ hJx hY h0
 obtain⟨a,c,rfl,hc,hg⟩:=hrow
 rw[List.length_map]at hc h1
 have cell1:∀{v:World},KeepB n0 C W v→zad v (some ⟨b1,0,Option.none⟩)=some (.slice a l.length c):=fun hk=>zbJ hk hb1 hc1 (zaa (hW.at h1) rfl)
 have cell2:∀{v:World},KeepB n0 C W v→zad v (some ⟨b2,0,Option.none⟩)=some (vi k):=fun hk=>zbJ hk hb2 hc2 (zaa (hW.at h2) rfl)
 obtain⟨L,hL⟩:∃L,l.length=L:=⟨_,rfl⟩
 rw[hL]at cell1 hc hl
 refine enter Tryz.func151 Tryz.ntmps151 rfl rfl ?_
 refine go trivial ?_
 refine zaD (fun m σ ds v=>ds=[]∧∃i,i+m=(zaX k l).length∧σ 4=vi (i*k:Nat)∧σ 0= .func (.yield lp) #[] #[]∧σ 1= .pointer (some ⟨b1,0,Option.none⟩)∧σ 2= .pointer (some ⟨b2,0,Option.none⟩)∧J ((zaX k l).take i) v∧KeepB n0 C W v) (zaX k l).length ?_ ?_
 ·exact⟨rfl,0,by omega,by simp only[Nat.zero_mul];first| (simp only[go_sem];done)| (simp only[go_sem];rfl),vr0,vr0,vr0,by simpa using h0,KeepB.refl _ _ _⟩
 rintro m σ ds v ⟨rfl,i,him,h4,f0,f1,f2,hj,hK0⟩
 have p1:=cell1 hK0
 have p2:=cell2 hK0
 have hlt:=zm0 hk (l:=l) (i:=i)
 rw[hL]at hlt
 by_cases hi:i<(zaX k l).length
 ·have hik:=hlt.1 hi
  have d1:decide (((i*k:Nat):Int)<(L:Int))=true:=decide_eq_true (by omega)
  refine go (an6 h4 f0 f1 f2 p1 d1) ?_
  obtain⟨e,he⟩:∃e,min k (L - i*k)=e:=⟨_,rfl⟩
  have hikm:i*k≤1000000:=by omega
  have z:(0:Int)≤((i*k:Nat):Int):=by omega
  have zl:((i*k:Nat):Int)≤(L:Int):=by omega
  have em:min (k:Int) ((L - i*k:Nat):Int)=(e:Int):=by omega
  have hsum:((i*k:Nat):Int)+(e:Int)=((i*k+e:Nat):Int):=by omega
  have hsl:slD Tryz.prog (some (.slice 5)) (.slice a L c) (some (vi (i*k:Nat))) (some (vi (i*k+e:Nat))) (some (vi (i*k+e:Nat)))=some (.slice (adr a (i*k)) e e):=by
   rw[s_sl3 z (by omega) (Int.le_refl _) (by omega)]
   simp only[Int.toNat_natCast,Nat.add_sub_cancel_left]
   rw[if_neg (by omega),show tyS Tryz.prog 5=1 from rfl,Nat.mul_one]
   rfl
  refine zaF (fun _=>false) [(0,true),(1,true),(2,true),(3,true),(4,true),(5,false),(6,true)] NoS mixed (by kernel_rfl) ?_;intro gd K x hgd hx hxe hK;have hx0:=zaT hxe;clear hxe
  have q1:=zab hx0 p1
  have q2:=zab hx0 p2
  simp (disch:=first|omega|assumption|rfl) only[go_sem,f1,f2,q1,q2,h4,z,zl]
  refine zfN (vr0) (vr0) ?_
  rw[em]
  refine⟨.inr (Keep.refl _ _),?_⟩
  simp (disch:=first|omega|assumption|rfl) only[go_sem]
  refine hK _ _ ?_;clear hK hgd;clear K;try clear gd
  have hKx:KeepB n0 C W x:=hK0.trans (hx0.toB (by have:=hK0.size;omega) (fun _ _ h=>h.elim))
  repeat refine c_r ?_
  refine rq ?_;intro gd K hgd hK
  try simp (disch:=first|omega|assumption|rfl) only[go_sem,f0,f1,q1,h4,hsum,hsl]
  have hcg:=zeU hi
  have hel:((l.drop (i*k)).take k).length=e:=by rw[List.length_take,List.length_drop,hL];exact he
  refine Yld.mono (hY ((zaX k l).take i) (zaX k l)[i] ((zaX k l).drop (i+1)) x _ (zbs hi) (hJ _ _ _ hj hx0) hKx ⟨_,rfl,adr a (i*k),e,by rw[hcg,List.length_map,hel],by rw[hcg,List.length_map,hel];exact Nat.le_refl _,fun j hjj=>?_⟩) ?_
  ·rw[hcg,List.length_map,hel]at hjj
   have:=hg (i*k+j) (by rw[List.length_map];omega)
   rw[List.getElem_map]at this
   rw[zeY]
   simp only[hcg,List.getElem_map,List.getElem_take,List.getElem_drop]
   exact this
  rintro u y (⟨rfl,hj',hk'⟩| ⟨rfl,hjx⟩)
  ·try simp only[go_sem]
   refine hK _ _ ?_;clear hK hgd;clear K;try clear gd
   have hK1:=hKx.trans hk'
   have q3:=cell2 hK1
   have hnx:((i*k:Nat):Int)+(k:Int)=(((i+1)*k:Nat):Int):=by rw[Nat.add_mul,Nat.one_mul];omega
   refine go (an5 f0 f1 f2 h4 (an2 q3 hnx)) ?_
   refine⟨m - 1,by omega,rfl,i+1,by omega,(vq1 hnx),(vq1 f0),(vq1 f1),(vq1 f2),?_,hK1⟩
   rw[zak hi];exact hj'
  ·try simp only[go_sem]
   refine hK _ _ ?_;clear hK hgd;clear K;try clear gd
   refine go trivial ?_
   exact zaw (by simp) rfl (.inr ⟨_,_,_,zbs hi,hjx⟩)
 ·have hik:¬i*k<L:=fun h=>hi (hlt.2 h)
  have d1:decide (((i*k:Nat):Int)<(L:Int))=false:=decide_eq_false (by omega)
  refine go (an6 h4 f0 f1 f2 p1 d1) ?_
  refine zaw (by simp) rfl (.inl ?_)
  rw[List.take_of_length_le (by omega)]at hj
  exact hj
theorem Chunk_ok{w0 w:World}(hE0:Ext w0 w){v:Value}{l:List UInt8}(hrow:Row w0 v (l.map zao)){k:Nat}(hk:1≤k)(hk1:k≤1000)(hl:l.length≤1000000):
  Fn Tryz.prog 122 #[v,vi k] w (fun u w'=>Ext w w'∧∃cap,u= .func (.func 151) #[] cap∧
   ∀C:Nat→Prop,(∀b,C b→w0.heap.size≤b∧b<w.heap.size)→Iter Tryz.prog 151 cap w' w'.heap.size C (zaX k l) (encCh w0)):=by
 have hs0:=hE0.size
 obtain⟨a,c,hv,hc,hg⟩:=id hrow
 have d0:decide ((k:Int)<1)=false:=decide_eq_false (by omega)
 refine enter Tryz.func122 Tryz.ntmps122 rfl rfl ?_
 repeat refine c_r ?_
 refine rg0 ?_
 repeat refine c_r ?_
 rw[zax,hv]
 refine zb7 ?_
 intro w2 hE2 hs2 hA1 hA2
 have q2:zad w2 (some ⟨w.heap.size+1,0,Option.none⟩)=some (vi k):=zaa hA2 rfl
 refine go (an2 q2 d0) ?_
 refine rt0 Tryz.ntmps122 ?_
 exact⟨hE2,_,rfl,fun C hC=>zm1 (hE0.trans hE2) (hv▸hrow) hA1 hA2 (by omega) (by omega) (fun h=>by have:=hC _ h;omega) (fun h=>by have:=hC _ h;omega) (fun b h=>(hC b h).1) (by omega) hk hk1 hl⟩
def hexS:Lab:=[48,49,50,51,52,53,54,55,56,57,97,98,99,100,101,102]
def hexD(k:Nat):UInt8:=hexS.getD k 0
def hexB(c:UInt8):Lab:=[hexD (c.toNat / 16),hexD (c.toNat % 16)]
def hexT(l:List UInt8):Lab:=l.flatMap hexB
theorem hexS_get{k:Nat}(h:k<hexS.length):hexS[k]=hexD k:=by
 unfold hexD
 rw[List.getD_eq_getElem?_getD,List.getElem?_eq_getElem h];rfl
theorem ix_hex{k:Nat}(h:k<16):ixSD (some .string) (.string ⟨#[48,49,50,51,52,53,54,55,56,57,97,98,99,100,101,102]⟩) (.int .u8 (k:Int))=some (zao (hexD k)):=by
 have h2:((k:Nat):Int).toNat<hexS.length:=by rw[Int.toNat_natCast];exact h
 show ixSD (some .string) (vs hexS) (.int .u8 (k:Int))=_
 rw[zkN (by omega) h2]
 have:hexS[((k:Nat):Int).toNat]'h2=hexD k:=hexS_get h2
 rw[this];rfl
theorem b_and15{P:Program}{t:TypeId}{n:Nat}(h:n<256):binV P .and t (.int .u8 (n:Int)) (.int .u8 15)=some (.int .u8 ((n % 16:Nat):Int)):=by
 have:=(by decide+kernel:∀n,n<256→IntKind.u8.wrap ((BitVec.ofInt 8 ((n:Nat):Int) &&& BitVec.ofInt 8 15).toNat:Int)=((n % 16:Nat):Int)) n h
 show some (Value.int .u8 (IntKind.u8.wrap ((BitVec.ofInt 8 ((n:Nat):Int) &&& BitVec.ofInt 8 15).toNat:Int)))=_
 rw[this]
theorem b_shr4{P:Program}{t:TypeId}{n:Nat}:binV P .shr t (.int .u8 (n:Int)) (.int .u64 4)=some (.int .u8 ((n / 16:Nat):Int)):=by
 show some (Value.int .u8 (Int.fdiv (n:Int) (2 ^ (min (Int.toNat 4) 8))))=_
 have:(2:Int) ^ (min (Int.toNat 4) 8)=((16:Nat):Int):=by decide
 rw[this,Int.fdiv_eq_ediv_of_nonneg _ (by omega)];rfl
theorem zcp(l:List UInt8):(hexT l).length=2*l.length:=by
 induction l with
 |nil=>rfl
 |cons c l ih=>unfold hexT at*;rw[List.flatMap_cons,List.length_append,ih,List.length_cons];simp[hexB];omega
theorem hex_ok{w:World}{v:Value}{l:List UInt8}(h:Row w v (l.map zao))(hl:l.length≤1000000):Fn Tryz.prog 89 #[v] w (fun u w'=>u=vs (hexT l)∧Ext w w'):=by
 obtain⟨a,c,rfl,hc,hg⟩:=h
 rw[List.length_map]at hc
 rw[List.length_map]
 refine enter Tryz.func89 Tryz.ntmps89 rfl rfl ?_
 refine go trivial ?_
 refine zbq l.length (fun i σ x=>σ 6= .slice a l.length c∧σ 7=vi l.length∧σ 8=vi i∧(∃ov,σ 3=ov∧Own w.heap.size x 5 ov ((hexT (l.take i)).map zao))∧Ext w x) ?_ ?_ ?_
 ·exact⟨vr0,vr0,vr0,⟨_,vr0,Own.nil _ _ _⟩,Keep.refl _ _⟩
 ·rintro i σ x hi p ⟨h6,h7,h8,⟨ov,h3,ho⟩,hE⟩
  have g:=zab hE (hg i (by rw[List.length_map];exact hi))
  rw[List.getElem_map]at g
  obtain⟨xa,rfl⟩:=Option.isSome_iff_exists.1 (zai g)
  obtain⟨k,hk⟩:∃k,l[i].toNat=k:=⟨_,rfl⟩
  have hk256:k<256:=hk▸l[i].toNat_lt
  have g':zad x (adr (some xa) i)=some (.int .u8 (k:Int)):=by rw[g,←hk];rfl
  have hi0:(0:Int)≤(i:Int):=by omega
  have hi1:(i:Int)<(l.length:Int):=by omega
  have hi2:(i:Int)+1=((i+1:Nat):Int):=by push_cast;rfl
  have u1:=ix_hex (k:=k / 16) (by omega)
  have u2:=ix_hex (k:=k % 16) (by omega)
  have ha:=b_and15 (P:=Tryz.prog) (t:=5) hk256
  have hs4:=b_shr4 (P:=Tryz.prog) (t:=5) (n:=k)
  have hs:=hE.size
  obtain⟨ao,co,hov⟩:=ho.slice
  refine go (an8 h6 h7 h8 p hi0 hi1 g' h3) ?_
  refine zaF (fun _=>false) [(0,true),(1,true),(2,true),(3,true),(4,true),(5,true),(6,true),(7,false),(8,false),(9,true)] (zcK w.heap.size) mixed (by kernel_rfl) ?_;intro gd K x hgd hx hxe hK;have hx0:=zaT hxe;clear hxe
  simp (disch:=first|omega|assumption|rfl) only[go_sem,h3,ha,hs4,u1,u2]
  refine zm5 (z:= .int .u8 0) (u:=zao (hexD (k / 16))) (v:=zao (hexD (k % 16))) (by rfl) (by rfl) (by rfl) (by rfl) rfl rfl ?_
  intro y1 hy1 hys1 hyo
  refine⟨.inr hy1.keep,?_⟩
  simp (disch:=first|omega|assumption|rfl) only[go_sem]
  have hsx1:=hx0.size
  obtain⟨inf,hi9,hz,hsz,hby⟩:=info_parts (P:=Tryz.prog) (e:=5) (z:= .int .u8 0) (size:=1) (bytes:=1) (by kernel_rfl)
  have hlk:((hexT (l.take i)).map zao).length≤2000000:=by rw[List.length_map,zcp,List.length_take];omega
  refine za8 (B:=w.heap.size) ((ho.ext hx0).ext hy1) hyo.row (by rfl) hi9 hz hsz hby (by rfl) (vr0) (vr0) (zh5 [hexD (k / 16),hexD (k % 16)]) (by simp at hlk ⊢;omega) (by decide) (by have:=hy1.size;omega) ?_
  intro v2 y2 hown2 hE2 hk2' hfr
  refine⟨.inr (hk2'.mono fun b _ hb=>by have:=(ho.ge hb).1;show _≤_;omega),?_⟩
  simp (disch:=first|omega|assumption|rfl) only[go_sem]
  refine hK _ _ ?_;clear hK hgd;clear K;try clear gd
  have hEy:=hE2 w ((hE.trans hx0).trans hy1) (Nat.le_refl _)
  refine go (an3 h6 h7 h8) ?_
  refine⟨rfl,(vq1 h6),(vq1 h7),(vq1 hi2),⟨v2,vr0,?_⟩,hEy⟩
  rw[zak hi]
  unfold hexT
  rw[List.flatMap_append,List.map_append,List.flatMap_singleton]
  unfold hexB
  rw[hk]
  exact hown2
 ·rintro σ x p ⟨h6,h7,h8,⟨ov,h3,ho⟩,hE⟩
  rw[List.take_length]at ho
  obtain⟨ao,co,hov,hcl,hat⟩:=ho.row
  rw[List.length_map]at hov
  refine go (an4 h6 h7 h8 p) ?_
  refine rq ?_;intro gd K hgd hK
  try simp (disch:=first|omega|assumption|rfl) only[go_sem,h3,hov]
  refine zcs (l:=hexT l) rfl rfl rfl (vr0) (fun j hj=>?_) ?_
  ·have:=hat j (by rw[List.length_map];exact hj)
   rw[List.getElem_map]at this
   exact this
  try simp only[go_sem]
  refine hK _ _ ?_;clear hK hgd;clear K;try clear gd
  repeat refine c_r ?_
  refine rt0 Tryz.ntmps89 ?_
  exact⟨rfl,hE⟩
def valB(x:List UInt8):Nat:=x.foldl (fun n c=>n*256+c.toNat) 0
def zdm(fm:Nat→Lab)(k:Nat)(sep:Lab)(raw:List UInt8):Lab:=zaM sep ((zaX k raw).map fun x=>fm (valB x))
theorem zlt(x:List UInt8)(c:UInt8):valB (x++ [c])=valB x*256+c.toNat:=by unfold valB;rw[List.foldl_append];rfl
theorem zj2:∀(x:List UInt8) (n k:Nat),n<256 ^ k→x.foldl (fun n c=>n*256+c.toNat) n<256 ^ (k+x.length)
 | [],n,k,h=>h
 |c::x,n,k,h=>by
  have hc:=c.toNat_lt
  have:=zj2 x (n*256+c.toNat) (k+1) (by rw[Nat.pow_succ];omega)
  rw[List.foldl_cons,List.length_cons]
  rw[show k+(x.length+1)=k+1+x.length by omega];exact this
theorem ziW{x:List UInt8}{k:Nat}(h:x.length≤k):valB x<256 ^ k:=by
 have:=zj2 x 0 0 (by decide)
 rw[Nat.zero_add]at this
 exact Nat.lt_of_lt_of_le this (Nat.pow_le_pow_right (by decide) h)
theorem b_shl8{P:Program}{t:TypeId}{n:Nat}(h:n<72057594037927936):binV P .shl t (.int .u64 (n:Int)) (.int .u64 8)=some (.int .u64 ((n*256:Nat):Int)):=by
 show some (Value.int .u64 (IntKind.u64.wrap ((n:Int)*2 ^ (min (Int.toNat 8) 64))))=_
 have:(2:Int) ^ (min (Int.toNat 8) 64)=((256:Nat):Int):=by decide
 rw[this,←Int.natCast_mul,zfd (by omega) (by omega)]
theorem b_or8{P:Program}{t:TypeId}{n c:Nat}(h:n<72057594037927936)(hc:c<256):binV P .or t (.int .u64 ((n*256:Nat):Int)) (.int .u64 (c:Int))=some (.int .u64 ((n*256+c:Nat):Int)):=by
 show some (Value.int .u64 (IntKind.u64.wrap ((BitVec.ofInt 64 ((n*256:Nat):Int)|||BitVec.ofInt 64 (c:Int)).toNat:Int)))=_
 have e:(BitVec.ofInt 64 ((n*256:Nat):Int)|||BitVec.ofInt 64 (c:Int)).toNat=n*256+c:=by
  rw[BitVec.toNat_or,BitVec.ofInt_natCast,BitVec.ofInt_natCast,BitVec.toNat_ofNat,BitVec.toNat_ofNat,Nat.mod_eq_of_lt (by omega),Nat.mod_eq_of_lt (by omega)]
  have:=Nat.shiftLeft_add_eq_or_of_lt (i:=8) (b:=c) hc n
  rw[Nat.shiftLeft_eq]at this
  exact this.symm
 rw[e,zfd (by omega) (by omega)]
theorem zcg{m:Nat}:∀{l:List Lab},(∀x∈l,x.length≤m)→zaG l≤m*l.length
 | [],_=>Nat.zero_le _
 |x::l,h=>by
  have h1:=zcg (l:=l) fun y hy=>h y (List.mem_cons_of_mem _ hy)
  have h2:=h x (List.mem_cons_self ..)
  have:zaG (x::l)=x.length+zaG l:=by simp[zaG]
  rw[this,List.length_cons,Nat.mul_succ];omega
theorem zig{w:World}(hW:WY w){cs:List Value}{d:DatL}(hD:DatAt w cs d){k:Nat}(hk:1≤k)(hk2:k≤2){base:Int}{sep:Lab}{fm:Nat→Lab}(hraw:d.raw.length≤2000)(hs1:1≤sep.length)(hs2:sep.length≤1000)(hfm:∀u,u<65536→(fm u).length≤100)
  (hF:∀v u,WY v→u<65536→Fn Tryz.prog 26 #[.int .u64 (u:Nat),vi base] v (fun r v'=>r=vs (fm u)∧Ext v v')):
  Fn Tryz.prog 87 #[.agg cs.toArray,vi k,vi base,vs sep] w (fun u w'=>u=vs (zdm fm k sep d.raw)∧Ext w w'):=by
 obtain⟨nm,nu,tx,rw',rfl,_,_,_,hrow⟩:=hD.ex
 obtain⟨ar,cr,hrv,hcr,_⟩:=id hrow
 refine enter Tryz.func87 Tryz.ntmps87 rfl rfl ?_
 repeat refine c_r ?_
 refine rg0 ?_
 repeat refine c_r ?_
 rw[zax]
 refine zb7 ?_
 intro w1 hE1 hz1 hA hB
 refine rg0 ?_
 repeat refine c_r ?_
 refine zan ?_
 intro w2 hE2 hz2 hC
 have hE12:=hE1.trans hE2
 have hA2:=hE2.at hA
 have hB2:=hE2.at hB
 have q4:zad w2 (some ⟨w.heap.size,4,Option.none⟩)=some rw':=zaa hA2 rfl
 rw[hrv]at q4
 rw[hrv]at hrow
 refine rq ?_;intro gd K hgd hK
 try simp (disch:=first|omega|assumption|rfl) only[go_sem,q4,Nat.zero_add]
 refine Fn.mono (Chunk_ok hE12 hrow hk (by omega) (by omega)) ?_
 rintro _ w3 ⟨hE3,cap,rfl,hit⟩
 try simp only[go_sem]
 refine hK _ _ ?_;clear hK hgd;clear K;try clear gd
 repeat refine c_r ?_
 have hE13:=hE12.trans hE3
 have hz3:=hE3.size
 have hC3:=hE3.at hC
 have hcb3:zad w3 (some ⟨w.heap.size+1,0,Option.none⟩)=some (vi base):=zab hE3 (zaa hB2 rfl)
 obtain⟨xs,hxs0⟩:∃xs,zaX k d.raw=xs:=⟨_,rfl⟩
 have hxl:xs.length≤2001:=by
  rw[←hxs0,zcH]
  exact Nat.le_trans (Nat.div_le_self _ _) (by omega)
 have hxk:∀x∈xs,x.length≤2:=fun x hx=>by
  rw[←hxs0]at hx
  unfold zaX at hx
  obtain⟨i,_,rfl⟩:=List.mem_map.1 hx
  rw[List.length_take];omega
 have hxv:∀x∈xs,valB x<65536:=fun x hx=>ziW (k:=2) (hxk x hx)
 rw[hxs0]at hit
 refine zc5 (g:=151) (cap:=cap) (vq0) rfl (hit (fun b=>b=w1.heap.size) (fun b hb=>by omega)) (Keep.refl _ _) (Nat.le_refl _) (fun b hb=>by omega)
  (fun x A args h=>by obtain⟨v,h,_⟩:=h;rw[h];rfl)
  (fun pre A=>Ext w A∧zad A (some ⟨w.heap.size+1,0,Option.none⟩)=some (vi base)∧∃sv,A.heap[w1.heap.size]? =some (.cells #[sv] 23 (0,0))∧Own (w3.heap.size+2) A 9 sv (pre.map fun x=>vs (fm (valB x))))
  (fun _ _ _=>False) ?_ (fun _ _ _ _ h _=>h.elim) ?_ ?_ ?_ (fun _ _ _ _ _ _ _ h _=>h.elim)
 ·rintro pre A B ⟨h1,hc,sv,h2,h3⟩ hkk
  refine⟨Keep.to_ext h1 rfl (fun b hb=>by unfold two at hb;omega) hkk,?_,sv,(hkk.block _ (Array.getElem?_eq_some_iff.1 h2).1 (by unfold two;omega)).trans h2,h3.keep hkk (fun b hb h=>by have:=(h3.ge hb).1;unfold two at h;omega)⟩
  show B.cell? _=_
  rw[zcI (a:=⟨w.heap.size+1,0,Option.none⟩) (hkk.block _ (zf7 hc) (by unfold two;show¬(w.heap.size+1=_∨w.heap.size+1=_);omega))]
  exact hc
 ·exact⟨hE13,hcb3,_,hC3,Own.nil _ _ _⟩
 ·rintro lp pre x suf A args hxs hszA ⟨hEA,hcb,sv,hb,hown⟩ ⟨v,rfl,hv⟩
  have hpl:pre.length+1≤xs.length:=by
   have:=congrArg List.length hxs
   simp at this;omega
  have hxm:x∈xs:=by rw[hxs];simp
  have hx2:=hxk x hxm
  refine rq ?_;intro gd K hgd hK
  try simp only[go_sem]
  refine hK _ _ ?_;clear hK hgd;clear K;try clear gd
  refine zaz ?_
  refine⟨rfl,KeepB.refl _ _ _,fun Y hY=>?_⟩
  have hbY:=(hY.block _ (Array.getElem?_eq_some_iff.1 hb).1 (by unfold two;omega)).trans hb
  have hEY:Ext w Y:=Keep.to_ext hEA rfl (fun b hb=>by unfold two at hb;omega) hY
  have hcbY:zad Y (some ⟨w.heap.size+1,0,Option.none⟩)=some (vi base):=by
   show Y.cell? _=_
   rw[zcI (a:=⟨w.heap.size+1,0,Option.none⟩) (hY.block _ (zf7 hcb) (by unfold two;show¬(w.heap.size+1=_∨w.heap.size+1=_);omega))]
   exact hcb
  have hownY:=hown.keep hY (fun b hb h=>by have:=(hown.ge hb).1;unfold two at h;omega)
  have hsY:=hY.size
  obtain⟨av,cv,rfl,hcv,hgv⟩:=hv.ext hEY
  rw[List.length_map]at hcv
  rw[show (x.map zao).length=x.length from List.length_map ..]
  have v0:valB (x.take 0)=0:=rfl
  refine go trivial ?_
  refine zas (Q:=fun e σ' ds' v'=>e= .exit 2∧ds'=[]∧σ' 11= .int .u64 (valB x:Nat)∧σ' 9= .pointer (some ⟨w1.heap.size,0,Option.none⟩)∧σ' 6= .pointer (some ⟨w.heap.size+1,0,Option.none⟩)∧Y=v') ?_ ?_
  ·refine zbq x.length (fun i σ v=>σ 19= .slice av x.length cv∧σ 20=vi x.length∧σ 21=vi i∧σ 11= .int .u64 (valB (x.take i):Nat)∧σ 9= .pointer (some ⟨w1.heap.size,0,Option.none⟩)∧σ 6= .pointer (some ⟨w.heap.size+1,0,Option.none⟩)∧Y=v) ?_ ?_ ?_
   ·exact⟨vr0,vr0,vr0,vr0,vr0,vr0,rfl⟩
   ·rintro i σ v hi p ⟨s19,s20,s21,s11,s9,s6,rfl⟩
    have g:=hgv i (by rw[List.length_map];exact hi)
    rw[List.getElem_map]at g
    obtain⟨c,hc⟩:∃c,x[i]=c:=⟨_,rfl⟩
    rw[hc]at g
    replace g:zad Y (adr av i)=some (.int .u8 (c.toNat:Int)):=g
    obtain⟨xa,rfl⟩:=Option.isSome_iff_exists.1 (zai g)
    have hc256:=c.toNat_lt
    obtain⟨n,hn⟩:∃n,valB (x.take i)=n:=⟨_,rfl⟩
    have hn2:n<65536:=hn▸ziW (k:=2) (by rw[List.length_take];omega)
    rw[hn]at s11
    have e1:=b_shl8 (P:=Tryz.prog) (t:=71) (n:=n) (by omega)
    have e2:=b_or8 (P:=Tryz.prog) (t:=71) (n:=n) (c:=c.toNat) (by omega) hc256
    have e3:valB (x.take (i+1))=n*256+c.toNat:=by rw[zak hi,hc,zlt,hn]
    have hi0:(0:Int)≤(i:Int):=by omega
    have hi1:(i:Int)<(x.length:Int):=by omega
    have hi2:(i:Int)+1=((i+1:Nat):Int):=by push_cast;rfl
    refine go (an9 s19 s20 s21 s11 s9 s6 p g (an5 hi0 hi1 hi2 e1 e2)) ?_
    exact⟨rfl,(vq1 s19),(vq1 s20),(vq1 hi2),by rw[e3];first| (simp only[go_sem];done)| (simp only[go_sem];rfl),(vq1 s9),(vq1 s6),rfl⟩
   ·rintro σ v p ⟨s19,s20,s21,s11,s9,s6,rfl⟩
    rw[List.take_length]at s11
    refine go (an4 s19 s20 s21 p) ?_
    exact⟨rfl,rfl,(vq1 s11),(vq1 s9),(vq1 s6),rfl⟩
  rintro _ σ1 _ _ ⟨rfl,rfl,s11,s9,s6,rfl⟩
  repeat refine c_r ?_
  have q9:zad Y (some ⟨w1.heap.size,0,Option.none⟩)=some sv:=zaa hbY rfl
  have hvx:=hxv x hxm
  obtain⟨NB,hNB⟩:∃NB,w3.heap.size+2=NB:=⟨_,rfl⟩
  have o9:w1.heap.size<NB:=by omega
  have o6:w.heap.size+1<NB:=by omega
  refine zaF (fun i=>i==6) [(0,true),(1,true),(2,true),(3,false),(4,false),(5,false),(6,false)] (zcK NB) mixed (by kernel_rfl) ?_;intro gd K x hgd hx hxe hK;have hx0:=zaT hxe;clear hxe
  have q9x:=zab hx0 q9
  have q6x:=zab hx0 hcbY
  have hsx0:=hx0.size
  simp (disch:=first|omega|assumption|rfl) only[go_sem,s11,s9,s6,q9x,q6x]
  refine⟨zbu o9,zbu o6,?_⟩
  refine Fn.mono (hF _ _ (hW.ext (hEY.trans hx0)) hvx) ?_
  rintro _ y0 ⟨rfl,hy0⟩
  refine⟨.inr hy0.keep,?_⟩
  simp (disch:=first|omega|assumption|rfl) only[go_sem]
  refine zbk (z:=vs []) rfl rfl rfl rfl rfl ?_
  intro y1 hy1 hys1 hyo
  refine⟨.inr hy1.keep,?_⟩
  simp (disch:=first|omega|assumption|rfl) only[go_sem]
  have hsy0:=hy0.size
  have hxy1:=(hx0.trans hy0).trans hy1
  refine za8 (e:=9) (hownY.ext hxy1) hyo.row rfl rfl rfl rfl rfl rfl (vr0) (vr0) (fun q hq=>by simp at hq;subst hq;rfl) (by rw[List.length_map];show pre.length+1≤_;omega) (by decide) (by omega) ?_
  intro sv' y2 hown2 hX2 hK2 hb2
  refine⟨.inr (hK2.mono fun b _ hb=>by have:=(hownY.ge hb).1;show _≤_;omega),?_⟩
  simp (disch:=first|omega|assumption|rfl) only[go_sem,s9]
  have hs2:=hK2.size
  have hb2Y:=(hK2.block w1.heap.size (by omega) (fun hh=>by have:=(hownY.ge hh).1;omega)).trans (Ext.at hxy1 hbY)
  refine zaq (P:=Tryz.prog) rfl rfl (by obtain⟨a,c,rfl⟩:=hown2.slice;rfl) hb2Y (by simp) (by simp) ?_
  intro y3 hs3' hb3 hk3
  refine⟨.inl rfl,?_⟩
  simp (disch:=first|omega|assumption|rfl) only[go_sem]
  refine hK _ _ ?_;clear hK hgd;clear K;try clear gd
  repeat refine c_r ?_
  refine⟨⟨Keep.to_ext (hX2 w (hEY.trans hxy1) (by omega)) rfl (fun b hb=>by omega) hk3,?_,sv',hb3,?_⟩,?_⟩
  ·have h1:=zab hxy1 hcbY
   show y3.cell? _=_
   rw[zcI (a:=⟨w.heap.size+1,0,Option.none⟩) (hk3.block _ (by show w.heap.size+1<_;omega) (by show¬w.heap.size+1=_;omega)),zcI (a:=⟨w.heap.size+1,0,Option.none⟩) (hK2.block _ (by show w.heap.size+1<_;omega) (fun hh=>by have h2:w3.heap.size+2≤w.heap.size+1:=(hownY.ge hh).1;omega))]
   exact h1
  ·rw[List.map_append];exact hown2.keep hk3 (fun b hb h=>by have:=(hown2.ge hb).1;omega)
  ·exact(hxy1.toB (by omega) (fun _ _ h=>h.elim)).trans ((hK2.toB (by omega) (fun i hi h=>by have:=(hownY.ge h).1;omega)).trans (hk3.toB (by omega) (fun _ _ h=>h)))
 ·intro A hszA ⟨hEA,hcb,sv,hb,hown⟩ hDf
  have q9:zad A (some ⟨w1.heap.size,0,Option.none⟩)=some sv:=zaa hb rfl
  have hr:Row A sv ((xs.map fun x=>fm (valB x)).map vs):=by rw[List.map_map];exact hown.row
  have hln:zaG (xs.map fun x=>fm (valB x))≤100*(xs.map fun x=>fm (valB x)).length:=zcg fun y hy=>by
   obtain⟨x,hx,rfl⟩:=List.mem_map.1 hy
   exact hfm _ (hxv x hx)
  rw[List.length_map]at hln
  refine go trivial ?_
  refine rc q9 (zeZ hr (by rw[List.length_map];omega) hs1 hs2 (by omega)) ?_
  rintro _ A1 ⟨rfl,hEA1⟩
  refine rgo trivial ?_
  refine zdC (.inr rfl) Tryz.ntmps87 rfl (hEA1.at hDf) ?_
  intro Z hkZ hsZ
  refine⟨_,zac (v:=vs (zaM sep (xs.map fun x=>fm (valB x)))) (vr0) zae,?_⟩
  exact⟨by unfold zdm;rw[hxs0];rfl,Keep.to_ext (hEA.trans hEA1) rfl (fun b hb=>by omega) hkZ⟩
theorem zhi(n:Nat):Lib.itoa (n:Int)=Lib.decDigits n:=by
 unfold Lib.itoa
 rw[if_neg (by omega),Int.toNat_natCast]
theorem zbo:∀(k u:Nat),u<10 ^ (k+1)→(Lib.decDigits u).length≤k+1
 |0,u,h=>by
  rw[Lib.decDigits,dif_pos (by omega)];simp
 |k+1,u,h=>by
  rw[Lib.decDigits]
  by_cases h1:u<10
  ·rw[dif_pos h1];simp
  ·rw[dif_neg h1,List.length_append,List.length_singleton]
   have:=zbo k (u / 10) (by rw[Nat.pow_succ]at h;omega)
   omega
def numT(n:Int):Lab:=Lib.decDigits n.toNat
theorem zcT{n:Int}(h:n≤4294967295):(numT n).length≤20:=by
 unfold numT
 have:=zbo 19 n.toNat (by omega)
 omega
structure VarT(B bv:Nat)(w:World)(L:List Lab):Prop where
 ex:∃sv,w.heap[bv]? =some (.cells #[sv] 23 (0,0))∧Own B w 9 sv (L.map vs)
theorem VarT.ext{B bv:Nat}{w x:World}{L:List Lab}(h:VarT B bv w L)(hE:Ext w x):VarT B bv x L:=by
 obtain⟨sv,h1,h2⟩:=h.ex
 exact⟨sv,hE.at h1,h2.ext hE⟩
theorem zll{w0 W:World}(hW:WY w0)(hE0:Ext w0 W){d:DatL}{nm nu tx rw':Value}{T:TypeId}{fr:Nat×Nat}{B bd bv:Nat}(hnu:Row w0 nu (d.nums.map v32))(hbd:W.heap[bd]? =some (.cells #[vi d.ty,nm,nu,tx,rw'] T fr))(h0:w0.heap.size≤bv)(hne:bd≠bv)(hdB:bd<B)(hvB:bv<B)(hBW:B≤W.heap.size)
  (hnv:∀n∈d.nums,0≤n∧n≤4294967295) (hnl:d.nums.length≤1000) {L:List Lab} (hL:L.length≤1000000) (hV:VarT B bv W L):
  Fn Tryz.prog 85 #[.pointer (some ⟨bd,0,Option.none⟩),.pointer (some ⟨bv,0,Option.none⟩)] W (fun _ W'=>VarT B bv W' (L++d.nums.map numT)∧Keep (fun i=>i=bv∨B≤i) W W'):=by
 obtain⟨an,cn,rfl,hcn,hgn⟩:=hnu
 rw[List.length_map]at hcn hbd
 have qn:zad W (some ⟨bd,2,Option.none⟩)=some (.slice an d.nums.length cn):=zaa hbd rfl
 refine enter Tryz.func85 Tryz.ntmps85 rfl rfl ?_
 refine go (an2 qn (Nat.zero_add 2)) ?_
 refine zbq d.nums.length (fun i σ v=>σ 1= .pointer (some ⟨bv,0,Option.none⟩)∧σ 5= .slice an d.nums.length cn∧σ 6=vi d.nums.length∧σ 7=vi i∧VarT B bv v (L++(d.nums.take i).map numT)∧Keep (fun i=>i=bv∨B≤i) W v) ?_ ?_ ?_
 ·exact⟨vr0,vr0,vr0,vr0,by simpa using hV,Keep.refl _ _⟩
 ·rintro i σ v hi p ⟨s1,s5,s6,s7,hVv,hk⟩
  have hEv:Ext w0 v:=Keep.to_ext hE0 rfl (fun b hb=>by omega) hk
  have hsv:=hk.size
  have g:=zab hEv (hgn i (by rw[List.length_map];exact hi))
  rw[List.getElem_map]at g
  obtain⟨n,hn⟩:∃n,d.nums[i]=n:=⟨_,rfl⟩
  have hnr:=hnv d.nums[i] (List.getElem_mem hi)
  rw[hn]at g hnr
  obtain⟨u,rfl⟩:∃u:Nat,n=u:=⟨n.toNat,by omega⟩
  obtain⟨xa,rfl⟩:=Option.isSome_iff_exists.1 (zai g)
  have hi0:(0:Int)≤(i:Int):=by omega
  have hi1:(i:Int)<(d.nums.length:Int):=by omega
  have hi2:(i:Int)+1=((i+1:Nat):Int):=by push_cast;rfl
  obtain⟨sv,hb,hown⟩:=hVv.ex
  have qv:zad v (some ⟨bv,0,Option.none⟩)=some sv:=zaa hb rfl
  refine go (an7 s1 s5 s6 s7 p g (an2 hi0 hi1)) ?_
  refine zaF (fun i=>i==6) [(0,true),(1,true),(2,true),(3,false),(4,false),(5,false),(6,false)] (zcK B) mixed (by kernel_rfl) ?_;intro gd K x hgd hx hxe hK;have hx0:=zaT hxe;clear hxe
  have qvx:=zab hx0 qv
  have hsx0:=hx0.size
  simp (disch:=first|omega|assumption|rfl) only[go_sem,s1,qvx]
  refine⟨zbu hvB,?_⟩
  refine Fn.mono (zcw (hW.ext (hEv.trans hx0)) u (by omega)) ?_
  rintro _ y0 ⟨rfl,hy0⟩
  refine⟨.inr hy0.keep,?_⟩
  simp (disch:=first|omega|assumption|rfl) only[go_sem]
  refine zbk (z:=vs []) rfl rfl rfl rfl rfl ?_
  intro y1 hy1 hys1 hyo
  refine⟨.inr hy1.keep,?_⟩
  simp (disch:=first|omega|assumption|rfl) only[go_sem]
  have hsy0:=hy0.size
  have hxy1:=(hx0.trans hy0).trans hy1
  refine za8 (e:=9) (hown.ext hxy1) hyo.row rfl rfl rfl rfl rfl rfl (vr0) (vr0) (fun q hq=>by simp at hq;subst hq;rfl) (by simp;omega) (by decide) (by omega) ?_
  intro sv' y2 hown2 hX2 hK2 hb2
  refine⟨.inr (hK2.mono fun b _ hb=>by have:=(hown.ge hb).1;show _≤_;omega),?_⟩
  simp (disch:=first|omega|assumption|rfl) only[go_sem,s1]
  have hs2:=hK2.size
  have hb2Y:=(hK2.block bv (by omega) (fun hh=>by have:=(hown.ge hh).1;omega)).trans (Ext.at hxy1 hb)
  refine zaq (P:=Tryz.prog) rfl rfl (by obtain⟨a,c,rfl⟩:=hown2.slice;rfl) hb2Y (by simp) (by simp) ?_
  intro y3 hs3' hb3 hk3
  refine⟨.inl rfl,?_⟩
  simp (disch:=first|omega|assumption|rfl) only[go_sem]
  refine hK _ _ ?_;clear hK hgd;clear K;try clear gd
  refine go (an5 s1 s5 s6 s7 hi2) ?_
  refine⟨rfl,(vq1 s1),(vq1 s5),(vq1 s6),(vq1 hi2),⟨sv',hb3,?_⟩,?_⟩
  ·rw[show (L++(d.nums.take (i+1)).map numT).map vs=(L++(d.nums.take i).map numT).map vs++ [vs (Lib.decDigits u)] by rw[zak hi,hn];simp[numT]]
   exact hown2.keep hk3 (fun b hb h=>by have:=(hown2.ge hb).1;omega)
  ·exact hk.trans (((hxy1.mono fun _ _ h=>h.elim).trans (hK2.mono fun b _ hb=> .inr (hown.ge hb).1)).trans (hk3.mono fun b _ hb=> .inl hb))
 ·rintro σ v p ⟨s1,s5,s6,s7,hVv,hk⟩
  rw[List.take_length]at hVv
  refine go (an4 s1 s5 s6 (an2 s7 p)) ?_
  exact zaw (by simp) rfl ⟨hVv,hk⟩
theorem zfB(n:Nm):(n.flatMap fun l=>zau l++ [46]).length≤4*(n.map List.length).sum+n.length:=by
 induction n with
 |nil=>simp
 |cons l n ih=>
  have:=zb0 l
  rw[List.flatMap_cons,List.length_append,List.map_cons,List.sum_cons,List.length_cons]
  simp only[List.length_append,List.length_singleton]
  omega
theorem zfw(w:World)(nv:Value)(n:Nm)(hn:Row w nv (n.map vs))(hl:∀l∈n,l.length≤1000000)(hnl:n.length≤1000):
  Fn Tryz.prog 27 #[nv] w (fun v w'=>v=vs (zaV n)∧Ext w w'):=by
 obtain⟨an,cn,rfl,hcn,hgn⟩:=hn
 simp only[List.length_map]at hcn hgn
 rw[List.length_map]
 refine enter Tryz.func27 Tryz.ntmps27 rfl rfl ?_
 repeat refine c_r ?_
 refine rg0 ?_
 repeat refine c_r ?_
 refine rg0 ?_
 repeat refine c_r ?_
 refine wc0 ?_ ?_
 ·intro h0
  simp only[decide_eq_true_eq]at h0
  have hn0:n=[]:=List.length_eq_zero_iff.1 (by omega)
  repeat (first|refine c_r ?_|refine rg0 ?_)
  refine rt0 Tryz.ntmps27 ?_
  exact⟨by unfold zaV;rw[if_pos hn0],Keep.refl _ _⟩
 intro h0
 simp only[decide_eq_false_iff_not]at h0
 have hn0:n≠ []:=fun h=>h0 (by rw[h];rfl)
 repeat refine c_r ?_
 refine rg0 ?_
 refine zan ?_
 intro w1 hE1 hs1 hA
 repeat refine c_r ?_
 refine rg0 ?_
 repeat refine c_r ?_
 refine zaD (fun m σ ds A=>ds=[]∧∃(i:Nat),i+m=n.length∧σ 11=vi i∧σ 10=vi n.length∧σ 9= .slice an n.length cn∧σ 3= .pointer (some ⟨w.heap.size,0,Option.none⟩)∧Ext w A∧w1.heap.size≤A.heap.size∧Bld w1.heap.size A w.heap.size ((n.take i).flatMap fun l=>zau l++ [46])) n.length ?_ ?_
 ·exact⟨rfl,0,by omega,vr0,vq0,vq0,vq0,hE1,Nat.le_refl _,_,_,.inl rfl,hA,Own.nil _ _ _⟩
 rintro m σ ds A ⟨rfl,i,him,h11,h10,h9,h3,hEA,hsA,hB⟩
 repeat refine c_r ?_
 refine rq ?_;intro gd K hgd hK;simp (disch:=first|omega|assumption|rfl) only[go_sem,h11,h10];refine hK _ _ ?_;clear hK hgd;clear K gd
 repeat refine c_r ?_
 refine wc0 ?_ ?_
 ·intro hlt
  simp only[decide_eq_true_eq]at hlt
  have hi:i<n.length:=by omega
  have hi0:(0:Int)≤(i:Int):=by omega
  have hi1:(i:Int)<(n.length:Int):=by omega
  have hi1':(i:Int)+1=((i+1:Nat):Int):=by push_cast;rfl
  have hg:=zab hEA (hgn i (by simpa using hi))
  rw[List.getElem_map]at hg
  obtain⟨l,hle⟩:∃l,n[i]=l:=⟨_,rfl⟩
  rw[hle]at hg
  have hmem:l∈n:=hle▸List.getElem_mem hi
  obtain⟨xn,rfl⟩:=Option.isSome_iff_exists.1 (zai hg)
  have hpl:((n.take i).flatMap fun l=>zau l++ [46]).length≤5000000000:=by
   have h1:=zfB (n.take i)
   have h2:((n.take i).map List.length).sum≤1000000*n.length:=by
    have:∀(k:Nm),(∀l∈k,l.length≤1000000)→(k.map List.length).sum≤1000000*k.length:=fun k=>by
     induction k with
     |nil=>intro _;simp
     |cons x k ih=>
      intro h
      have h3:=ih (fun l hl=>h l (List.mem_cons_of_mem _ hl))
      have h4:=h x (List.mem_cons_self ..)
      rw[List.map_cons,List.sum_cons,List.length_cons];omega
    have h3:=this (n.take i) (fun l hl'=>hl l (List.mem_of_mem_take hl'))
    rw[List.length_take]at h3;omega
   rw[List.length_take]at h1;omega
  have htl:=zb0 l
  have hll:=hl l hmem
  have hadd:(zau l).length+([46]:List UInt8).length≤9223372036854775807:=by rw[List.length_singleton];omega
  repeat refine c_r ?_
  refine rq ?_;intro gd K hgd hK;simp (disch:=first|omega|assumption|rfl) only[go_sem,h9,h11,hi0,hi1,hg];refine hK _ _ ?_;clear hK hgd;clear K gd
  repeat refine c_r ?_
  refine rq ?_;intro gd K hgd hK
  try simp only[go_sem]
  refine Fn.mono (zkm A l (by omega)) ?_
  rintro _ A1 ⟨rfl,hE2⟩
  try simp (disch:=first|omega|assumption|rfl) only[go_sem,h3]
  refine Fn.mono (zaU (s:=zau l++ [46]) (hB.ext' hE2) (by have:=hE2.size;omega) (by rw[List.length_append,List.length_singleton];omega)) ?_
  rintro _ A2 ⟨hB2,hk2⟩
  try simp only[go_sem]
  refine hK _ _ ?_;clear hK hgd;clear K;try clear gd
  repeat refine c_r ?_
  refine rq ?_;intro gd K hgd hK;simp (disch:=first|omega|assumption|rfl) only[go_sem,h11,hi1'];refine hK _ _ ?_;clear hK hgd;clear K gd
  repeat refine c_r ?_
  refine⟨m - 1,by omega,rfl,i+1,by omega,vq0,(vq1 h10),(vq1 h9),(vq1 h3),Keep.to_ext (hEA.trans hE2) rfl (fun b hb=>by omega) hk2,by have:=hE2.size;have:=hk2.size;omega,?_⟩
  rw[zak hi,List.flatMap_append,hle]
  simpa using hB2
 ·intro hge
  simp only[decide_eq_false_iff_not]at hge
  rw[List.take_of_length_le (by omega)]at hB
  have hpl:(n.flatMap fun l=>zau l++ [46]).length≤5000000000:=by
   have h1:=zfB n
   have:∀(k:Nm),(∀l∈k,l.length≤1000000)→(k.map List.length).sum≤1000000*k.length:=fun k=>by
    induction k with
    |nil=>intro _;simp
    |cons x k ih=>
     intro h
     have h3:=ih (fun l hl=>h l (List.mem_cons_of_mem _ hl))
     have h4:=h x (List.mem_cons_self ..)
     rw[List.map_cons,List.sum_cons,List.length_cons];omega
   have h3:=this n hl
   omega
  repeat refine c_r ?_
  refine rq ?_;intro gd K hgd hK
  try simp (disch:=first|omega|assumption|rfl) only[go_sem,h3]
  refine Fn.mono (zcL hB (by omega)) ?_
  rintro _ z ⟨rfl,hkz⟩
  try simp only[go_sem]
  refine hK _ _ ?_;clear hK hgd;clear K;try clear gd
  repeat refine c_r ?_
  refine rt0 Tryz.ntmps27 ?_
  exact⟨by unfold zaV;rw[if_neg hn0],Keep.to_ext hEA rfl (fun b hb=>by omega) hkz⟩
theorem zkJ{w:World}{v:Value}{L:List Nm}(h:NamesAt w v L):∃a c,v= .slice a L.length c∧∀i (hi:i<L.length),∃y,zad w (adr a i)=some y∧Row w y (L[i].map vs):=by
 obtain⟨vals,⟨a,c,e,_,hg⟩,hl,hr⟩:=h
 exact⟨a,c,by rw[e,hl],fun i hi=>⟨vals[i]'(by omega),hg i (by omega),hr i (by omega) hi⟩⟩
structure DatS(d:DatL):Prop where
 names:∀n∈d.names,(∀l∈n,l.length≤1000)∧n.length≤1000
 nn:d.names.length≤1000
 nu:d.nums.length≤1000
 nv:∀n∈d.nums,0≤n∧n≤4294967295
 nt:d.texts.length≤1000
 tx:∀t∈d.texts,t.length≤1000
 nr:d.raw.length≤2000
def zcR(d:DatL):List Lab:=d.nums.map numT
def zb5(d:DatL):List Lab:=(if d.ty=15 then zcR d else [])++d.names.map zaV++(if d.ty=15 then [] else zcR d)++d.texts.map quoT
def zee(fx:Nat→Lab)(d:DatL):List Lab:=
 if d.ty=1 then [zdm Lib.decDigits 1 [46] d.raw] else if d.ty=28 then [zdm fx 2 [58] d.raw] else if (zbV d.ty tyTab).2=true then [] else [[92,35],Lib.itoa (d.raw.length:Nat)]++(if d.raw.length=0 then [] else [hexT d.raw])
def zbN(fx:Nat→Lab)(d:DatL):List Lab:=zb5 d++zee fx d
theorem VarT.size{B bv:Nat}{w:World}{L:List Lab}(h:VarT B bv w L):bv<w.heap.size:=by
 obtain⟨sv,h1,_⟩:=h.ex
 exact(Array.getElem?_eq_some_iff.1 h1).1
theorem words_ok{w:World}(hW:WY w){cs:List Value}{d:DatL}(hD:DatAt w cs d)(hS:DatS d){fx:Nat→Lab}(hfx:∀u,u<65536→(fx u).length≤100)
  (hF:∀v u,WY v→u<65536→Fn Tryz.prog 26 #[.int .u64 (u:Nat),vi 16] v (fun r v'=>r=vs (fx u)∧Ext v v')):
  Fn Tryz.prog 59 #[.agg cs.toArray] w (fun u w'=>Row w' u ((zbN fx d).map vs)∧Ext w w'):=by
 obtain⟨nm,nu,tx,rw',rfl,hnm,hnu,htx,hraw⟩:=hD.ex
 obtain⟨an,hann⟩:=zkJ hnm
 obtain⟨cn,hnmv,hgn⟩:=hann
 obtain⟨at',ct,htxv,hct,hgt⟩:=id htx
 obtain⟨ar,cr,hrv,hcr,hgr⟩:=id hraw
 rw[List.length_map]at htxv hrv hct hcr
 refine enter Tryz.func59 Tryz.ntmps59 rfl rfl ?_
 repeat refine c_r ?_
 refine rg0 ?_
 repeat refine c_r ?_
 refine zan ?_
 intro w1 hE1 hz1 hA
 refine rg0 ?_
 repeat refine c_r ?_
 refine zan ?_
 intro w2 hE2 hz2 hV2
 have hE12:=hE1.trans hE2
 have hA2:=hE2.at hA
 obtain⟨bv,hbv⟩:∃bv,w1.heap.size=bv:=⟨_,rfl⟩
 obtain⟨bd,hbd⟩:∃bd,w.heap.size=bd:=⟨_,rfl⟩
 obtain⟨B,hB⟩:∃B,w2.heap.size=B:=⟨_,rfl⟩
 rw[hbv]at hV2 ⊢
 rw[hbd]at hA2 ⊢
 have hVar2:VarT B bv w2 []:=⟨_,hV2,Own.nil _ _ _⟩
 -- what is kept
 have old:∀{v:World},Keep (fun i=>i=bv∨B≤i) w2 v→Ext w v∧v.heap[bd]? =w2.heap[bd]?∧B≤v.heap.size:=fun hk=>
  ⟨Keep.to_ext hE12 rfl (fun b hb=>by omega) hk,hk.block _ (by omega) (by omega),by have:=hk.size;omega⟩
 have q0:∀{v:World},Keep (fun i=>i=bv∨B≤i) w2 v→zad v (some ⟨bd,0,Option.none⟩)=some (vi d.ty)∧zad v (some ⟨bd,1,Option.none⟩)=some (.slice an d.names.length cn)∧zad v (some ⟨bd,3,Option.none⟩)=some (.slice at' d.texts.length ct)∧zad v (some ⟨bd,4,Option.none⟩)=some (.slice ar d.raw.length cr):=fun hk=>by
  have hh:=(old hk).2.1.trans hA2
  exact⟨zaa hh rfl,by rw[←hnmv];exact zaa hh rfl,by rw[←htxv];exact zaa hh rfl,by rw[←hrv];exact zaa hh rfl⟩
 -- the closure's call
 have clo:∀{v:World} {L:List Lab},Keep (fun i=>i=bv∨B≤i) w2 v→VarT B bv v L→L.length≤100000→Fn Tryz.prog 85 #[.pointer (some ⟨bd,0,Option.none⟩),.pointer (some ⟨bv,0,Option.none⟩)] v (fun _ v'=>VarT B bv v' (L++zcR d)∧Keep (fun i=>i=bv∨B≤i) w2 v'):=fun {v L} hk hVv hL=>
  Fn.mono (zll hW (old hk).1 hnu ((old hk).2.1.trans hA2) (by omega) (by omega) (by omega) (by omega) (old hk).2.2 hS.nv hS.nu (by omega) hVv) fun _ _ ⟨h1,h2⟩=>⟨h1,hk.trans h2⟩
 have k2:Keep (fun i=>i=bv∨B≤i) w2 w2:=Keep.refl _ _
 have N1:(zcR d).length≤1000:=by unfold zcR;rw[List.length_map];exact hS.nu
 obtain⟨p0,p1,p3,p4⟩:=q0 k2
 refine go (an2 p0 (Nat.zero_add 1)) ?_
 refine zas (Q:=fun e σ' ds' v'=>e= .normal∧ds'=[]∧σ' 1= .pointer (some ⟨bd,0,Option.none⟩)∧σ' 3= .pointer (some ⟨bv,0,Option.none⟩)∧σ' 4= .func (.func 85) #[] #[.pointer (some ⟨bd,0,Option.none⟩),.pointer (some ⟨bv,0,Option.none⟩)]∧VarT B bv v' (if d.ty=15 then zcR d else [])∧Keep (fun i=>i=bv∨B≤i) w2 v') ?_ ?_
 ·by_cases h15:d.ty=15
  ·rw[if_pos h15]
   refine wt (decide_eq_true h15) ?_
   refine go trivial ?_
   refine rc trivial (clo k2 hVar2 (by simp)) ?_
   rintro _ v ⟨hv1,hv2⟩
   refine rgo trivial ?_
   exact⟨rfl,rfl,vr0,vr0,vr0,by simpa using hv1,hv2⟩
  ·rw[if_neg h15]
   refine wf (decide_eq_false h15) ?_
   refine go trivial ?_
   exact⟨rfl,rfl,vr0,vr0,vr0,hVar2,k2⟩
 rintro _ σ _ v1 ⟨rfl,rfl,s1,s3,s4,hVa,k3⟩
 obtain⟨L0,hL0⟩:∃L0,(if d.ty=15 then zcR d else [])=L0:=⟨_,rfl⟩
 have N0:L0.length≤1000:=by rw[←hL0];split<;>simp[N1]
 rw[hL0]at hVa
 obtain⟨p0,p1,p3,p4⟩:=q0 k3
 refine go (an5 s1 s3 s4 p1 (Nat.zero_add 1)) ?_
 refine zas (Q:=fun e σ' ds' v'=>e= .exit 0∧ds'=[]∧σ' 1= .pointer (some ⟨bd,0,Option.none⟩)∧σ' 3= .pointer (some ⟨bv,0,Option.none⟩)∧σ' 4= .func (.func 85) #[] #[.pointer (some ⟨bd,0,Option.none⟩),.pointer (some ⟨bv,0,Option.none⟩)]∧VarT B bv v' (L0++d.names.map zaV)∧Keep (fun i=>i=bv∨B≤i) w2 v') ?_ ?_
 ·refine zbq d.names.length (fun i σ v=>σ 1= .pointer (some ⟨bd,0,Option.none⟩)∧σ 3= .pointer (some ⟨bv,0,Option.none⟩)∧σ 4= .func (.func 85) #[] #[.pointer (some ⟨bd,0,Option.none⟩),.pointer (some ⟨bv,0,Option.none⟩)]∧σ 16= .slice an d.names.length cn∧σ 17=vi d.names.length∧σ 18=vi i∧VarT B bv v (L0++(d.names.take i).map zaV)∧Keep (fun i=>i=bv∨B≤i) w2 v) ?_ ?_ ?_
  ·exact⟨(vq1 s1),(vq1 s3),(vq1 s4),vr0,vr0,vr0,by simpa using hVa,k3⟩
  ·rintro i σ v hi p ⟨s1,s3,s4,s16,s17,s18,hVv,hk⟩
   obtain⟨hEv,_,hBv⟩:=old hk
   obtain⟨y,gy,hyr⟩:=hgn i hi
   have g:=zab hEv gy
   obtain⟨n,hn⟩:∃n,d.names[i]=n:=⟨_,rfl⟩
   have hnS:=hS.names d.names[i] (List.getElem_mem hi)
   rw[hn]at hyr hnS
   obtain⟨xa,rfl⟩:=Option.isSome_iff_exists.1 (zai g)
   have hi0:(0:Int)≤(i:Int):=by omega
   have hi1:(i:Int)<(d.names.length:Int):=by omega
   have hi2:(i:Int)+1=((i+1:Nat):Int):=by push_cast;rfl
   have hnn:=hS.nn
   obtain⟨sv,hb,hown⟩:=hVv.ex
   have qv:zad v (some ⟨bv,0,Option.none⟩)=some sv:=zaa hb rfl
   obtain⟨ya,yc,hyv,_⟩:=id hyr
   rw[hyv]at g hyr
   refine go (an9 s1 s3 s4 s16 s17 s18 p g (an2 hi0 hi1)) ?_
   refine zaF (fun i=>i==5) [(0,true),(1,true),(2,false),(3,false),(4,false),(5,false)] (zcK B) mixed (by kernel_rfl) ?_;intro gd K x hgd hx hxe hK;have hx0:=zaT hxe;clear hxe
   have qvx:=zab hx0 qv
   have hsx0:=hx0.size
   simp (disch:=first|omega|assumption|rfl) only[go_sem,s3,qvx]
   refine⟨zbu (by omega),?_⟩
   refine Fn.mono (zfw _ _ n (hyr.ext (hEv.trans hx0)) (fun l hl=>by have:=hnS.1 l hl;omega) hnS.2) ?_
   rintro _ y0 ⟨rfl,hy0⟩
   refine⟨.inr hy0.keep,?_⟩
   simp (disch:=first|omega|assumption|rfl) only[go_sem]
   refine zbk (z:=vs []) rfl rfl rfl rfl rfl ?_
   intro y1 hy1 hys1 hyo
   refine⟨.inr hy1.keep,?_⟩
   simp (disch:=first|omega|assumption|rfl) only[go_sem]
   have hsy0:=hy0.size
   have hxy1:=(hx0.trans hy0).trans hy1
   refine za8 (e:=9) (hown.ext hxy1) hyo.row rfl rfl rfl rfl rfl rfl (vr0) (vr0) (fun q hq=>by simp at hq;subst hq;rfl) (by simp;omega) (by decide) (by omega) ?_
   intro sv' y2 hown2 hX2 hK2 hb2
   refine⟨.inr (hK2.mono fun b _ hb=>by have:=(hown.ge hb).1;show _≤_;omega),?_⟩
   simp (disch:=first|omega|assumption|rfl) only[go_sem,s3]
   have hs2:=hK2.size
   have hb2Y:=(hK2.block bv (by omega) (fun hh=>by have:=(hown.ge hh).1;omega)).trans (Ext.at hxy1 hb)
   refine zaq (P:=Tryz.prog) rfl rfl (by obtain⟨a,c,rfl⟩:=hown2.slice;rfl) hb2Y (by simp) (by simp) ?_
   intro y3 hs3' hb3 hk3
   refine⟨.inl rfl,?_⟩
   simp (disch:=first|omega|assumption|rfl) only[go_sem]
   refine hK _ _ ?_;clear hK hgd;clear K;try clear gd
   refine go (an7 s1 s3 s4 s16 s17 s18 hi2) ?_
   refine⟨rfl,(vq1 s1),(vq1 s3),(vq1 s4),(vq1 s16),(vq1 s17),(vq1 hi2),⟨sv',hb3,?_⟩,?_⟩
   ·rw[show (L0++(d.names.take (i+1)).map zaV).map vs=(L0++(d.names.take i).map zaV).map vs++ [vs (zaV n)] by rw[zak hi,hn];simp]
    exact hown2.keep hk3 (fun b hb h=>by have:=(hown2.ge hb).1;omega)
   ·exact hk.trans (((hxy1.mono fun _ _ h=>h.elim).trans (hK2.mono fun b _ hb=> .inr (hown.ge hb).1)).trans (hk3.mono fun b _ hb=> .inl hb))
  ·rintro σ v p ⟨s1,s3,s4,s16,s17,s18,hVv,hk⟩
   rw[List.take_length]at hVv
   refine go (an4 s16 s17 s18 p) ?_
   exact⟨rfl,rfl,(vq1 s1),(vq1 s3),(vq1 s4),hVv,hk⟩
 clear k3 hVa s1 s3 s4 p0 p1 p3 p4 σ
 rintro _ σ _ v1 ⟨rfl,rfl,s1,s3,s4,hVa,k3⟩
 obtain⟨L1,hL1⟩:∃L1,L0++d.names.map zaV=L1:=⟨_,rfl⟩
 have N1':L1.length≤2000:=by have:=hS.nn;rw[←hL1];simp;omega
 rw[hL1]at hVa
 obtain⟨p0,p1,p3,p4⟩:=q0 k3
 refine go (an5 s1 s3 s4 p0 (Nat.zero_add 1)) ?_
 refine zas (Q:=fun e σ' ds' v'=>e= .normal∧ds'=[]∧σ' 1= .pointer (some ⟨bd,0,Option.none⟩)∧σ' 3= .pointer (some ⟨bv,0,Option.none⟩)∧VarT B bv v' (L1++(if d.ty=15 then [] else zcR d))∧Keep (fun i=>i=bv∨B≤i) w2 v') ?_ ?_
 ·by_cases h15:d.ty=15
  ·rw[if_pos h15]
   refine wf (show(!decide (d.ty=15))=false by rw[decide_eq_true h15];rfl) ?_
   refine go trivial ?_
   exact⟨rfl,rfl,(vq1 s1),(vq1 s3),by simpa using hVa,k3⟩
  ·rw[if_neg h15]
   refine wt (show(!decide (d.ty=15))=true by rw[decide_eq_false h15];rfl) ?_
   refine go (an3 s1 s3 s4) ?_
   refine rc s4 (clo k3 hVa (by omega)) ?_
   rintro _ v ⟨hv1,hv2⟩
   refine rgo trivial ?_
   exact⟨rfl,rfl,(vq1 s1),(vq1 s3),hv1,hv2⟩
 clear k3 hVa s1 s3 s4 p0 p1 p3 p4 σ
 rintro _ σ _ v1 ⟨rfl,rfl,s1,s3,hVa,k3⟩
 obtain⟨L2,hL2⟩:∃L2,L1++(if d.ty=15 then [] else zcR d)=L2:=⟨_,rfl⟩
 have N2:L2.length≤3000:=by
  have h1:(if d.ty=15 then([]:List Lab) else zcR d).length≤1000:=by
   split
   ·exact Nat.zero_le _
   ·exact N1
  rw[←hL2,List.length_append];omega
 rw[hL2]at hVa
 obtain⟨p0,p1,p3,p4⟩:=q0 k3
 refine go (an4 s1 s3 p3 (Nat.zero_add 3)) ?_
 refine zas (Q:=fun e σ' ds' v'=>e= .exit 2∧ds'=[]∧σ' 1= .pointer (some ⟨bd,0,Option.none⟩)∧σ' 3= .pointer (some ⟨bv,0,Option.none⟩)∧VarT B bv v' (L2++d.texts.map quoT)∧Keep (fun i=>i=bv∨B≤i) w2 v') ?_ ?_
 ·refine zbq d.texts.length (fun i σ v=>σ 1= .pointer (some ⟨bd,0,Option.none⟩)∧σ 3= .pointer (some ⟨bv,0,Option.none⟩)∧σ 34= .slice at' d.texts.length ct∧σ 35=vi d.texts.length∧σ 36=vi i∧VarT B bv v (L2++(d.texts.take i).map quoT)∧Keep (fun i=>i=bv∨B≤i) w2 v) ?_ ?_ ?_
  ·exact⟨(vq1 s1),(vq1 s3),vr0,vr0,vr0,by simpa using hVa,k3⟩
  ·rintro i σ v hi p ⟨s1,s3,s16,s17,s18,hVv,hk⟩
   obtain⟨hEv,_,hBv⟩:=old hk
   have g:=zab hEv (hgt i (by rw[List.length_map];exact hi))
   rw[List.getElem_map]at g
   obtain⟨n,hn⟩:∃n,d.texts[i]=n:=⟨_,rfl⟩
   have hnS:=hS.tx d.texts[i] (List.getElem_mem hi)
   rw[hn]at g hnS
   obtain⟨xa,rfl⟩:=Option.isSome_iff_exists.1 (zai g)
   have hi0:(0:Int)≤(i:Int):=by omega
   have hi1:(i:Int)<(d.texts.length:Int):=by omega
   have hi2:(i:Int)+1=((i+1:Nat):Int):=by push_cast;rfl
   have hnn:=hS.nt
   obtain⟨sv,hb,hown⟩:=hVv.ex
   have qv:zad v (some ⟨bv,0,Option.none⟩)=some sv:=zaa hb rfl
   refine go (an8 s1 s3 s16 s17 s18 p g (an2 hi0 hi1)) ?_
   refine zaF (fun i=>i==5) [(0,true),(1,true),(2,false),(3,false),(4,false),(5,false)] (zcK B) mixed (by kernel_rfl) ?_;intro gd K x hgd hx hxe hK;have hx0:=zaT hxe;clear hxe
   have qvx:=zab hx0 qv
   have hsx0:=hx0.size
   simp (disch:=first|omega|assumption|rfl) only[go_sem,s3,qvx]
   refine⟨zbu (by omega),?_⟩
   refine Fn.mono (quote_ok _ n (by omega)) ?_
   rintro _ y0 ⟨rfl,hy0⟩
   refine⟨.inr hy0.keep,?_⟩
   simp (disch:=first|omega|assumption|rfl) only[go_sem]
   refine zbk (z:=vs []) rfl rfl rfl rfl rfl ?_
   intro y1 hy1 hys1 hyo
   refine⟨.inr hy1.keep,?_⟩
   simp (disch:=first|omega|assumption|rfl) only[go_sem]
   have hsy0:=hy0.size
   have hxy1:=(hx0.trans hy0).trans hy1
   refine za8 (e:=9) (hown.ext hxy1) hyo.row rfl rfl rfl rfl rfl rfl (vr0) (vr0) (fun q hq=>by simp at hq;subst hq;rfl) (by simp;omega) (by decide) (by omega) ?_
   intro sv' y2 hown2 hX2 hK2 hb2
   refine⟨.inr (hK2.mono fun b _ hb=>by have:=(hown.ge hb).1;show _≤_;omega),?_⟩
   simp (disch:=first|omega|assumption|rfl) only[go_sem,s3]
   have hs2:=hK2.size
   have hb2Y:=(hK2.block bv (by omega) (fun hh=>by have:=(hown.ge hh).1;omega)).trans (Ext.at hxy1 hb)
   refine zaq (P:=Tryz.prog) rfl rfl (by obtain⟨a,c,rfl⟩:=hown2.slice;rfl) hb2Y (by simp) (by simp) ?_
   intro y3 hs3' hb3 hk3
   refine⟨.inl rfl,?_⟩
   simp (disch:=first|omega|assumption|rfl) only[go_sem]
   refine hK _ _ ?_;clear hK hgd;clear K;try clear gd
   refine go (an6 s1 s3 s16 s17 s18 hi2) ?_
   refine⟨rfl,(vq1 s1),(vq1 s3),(vq1 s16),(vq1 s17),(vq1 hi2),⟨sv',hb3,?_⟩,?_⟩
   ·rw[show (L2++(d.texts.take (i+1)).map quoT).map vs=(L2++(d.texts.take i).map quoT).map vs++ [vs (quoT n)] by rw[zak hi,hn];simp]
    exact hown2.keep hk3 (fun b hb h=>by have:=(hown2.ge hb).1;omega)
   ·exact hk.trans (((hxy1.mono fun _ _ h=>h.elim).trans (hK2.mono fun b _ hb=> .inr (hown.ge hb).1)).trans (hk3.mono fun b _ hb=> .inl hb))
  ·rintro σ v p ⟨s1,s3,s16,s17,s18,hVv,hk⟩
   rw[List.take_length]at hVv
   refine go (an4 s16 s17 s18 p) ?_
   exact⟨rfl,rfl,(vq1 s1),(vq1 s3),hVv,hk⟩
 clear k3 hVa s1 s3 p0 p1 p3 p4 σ
 rintro _ σ _ v1 ⟨rfl,rfl,s1,s3,hVa,k3⟩
 have hfr:zb5 d=L2++d.texts.map quoT:=by unfold zb5;rw[←hL2,←hL1,←hL0]
 rw[←hfr]at hVa
 have N3:(zb5 d).length≤4000:=by have:=hS.nt;rw[hfr];simp;omega
 obtain⟨p0,p1,p3,p4⟩:=q0 k3
 obtain⟨hEv,hbdv,hBv⟩:=old k3
 obtain⟨sv,hb,hown⟩:=hVa.ex
 have qv:zad v1 (some ⟨bv,0,Option.none⟩)=some sv:=zaa hb rfl
 have hcs:zar v1 (some ⟨bd,0,Option.none⟩) 5=some [vi d.ty,nm,nu,tx,rw']:=zal (n:=5) (hbdv.trans hA2) rfl
 have hWv:=hW.ext hEv
 have o1:bd<B:=by omega
 have o2:bv<B:=by omega
 by_cases h1:d.ty=1
 ·refine go (an5 s1 s3 p0 (decide_eq_true h1) (Nat.zero_add 0)) ?_
  ·refine zaF (fun _=>false) [(0,true),(1,true),(2,false),(3,false),(4,false),(5,true)] (zcK B) mixed (by kernel_rfl) ?_;intro gd K x hgd hx hxe hK;have hx0:=zaT hxe;clear hxe
   have qvx:=zab hx0 qv
   have csx:=zah hx0 hcs
   simp (disch:=first|omega|assumption|rfl) only[go_sem,s1,s3,qvx,csx]
   refine⟨zbu o2,zbu o1,?_⟩
   refine Fn.mono (zig (hWv.ext hx0) (hD.ext (hEv.trans hx0)) (k:=1) (base:=10) (sep:=[46]) (fm:=Lib.decDigits) (by decide) (by decide) hS.nr (by decide) (by decide) (fun u hu=>by have:=zbo 4 u (by omega);omega) (fun v u hv hu=>zcw hv u (by omega))) ?_
   rintro _ y0 ⟨rfl,hy0⟩
   refine⟨.inr hy0.keep,?_⟩
   simp (disch:=first|omega|assumption|rfl) only[go_sem]
   refine zbk (z:=vs []) rfl rfl rfl rfl rfl ?_
   intro y1 hy1 hys1 hyo
   refine⟨.inr hy1.keep,?_⟩
   simp (disch:=first|omega|assumption|rfl) only[go_sem]
   have hsy0:=hy0.size
   have hsx0:=hx0.size
   have hxy1:=(hx0.trans hy0).trans hy1
   refine za8 (e:=9) (hown.ext hxy1) hyo.row rfl rfl rfl rfl rfl rfl (vr0) (vr0) (fun q hq=>by simp at hq;subst hq;rfl) (by simp;omega) (by decide) (by omega) ?_
   intro sv' y2 hown2 hX2 hK2 hb2
   refine⟨.inr (hK2.mono fun b _ hb=>by have:=(hown.ge hb).1;show _≤_;omega),?_⟩
   simp (disch:=first|omega|assumption|rfl) only[go_sem]
   refine hK _ _ ?_;clear hK hgd;clear K;try clear gd
   refine go trivial ?_
   refine rt0 Tryz.ntmps59 ?_
   refine⟨?_,hX2 w (hEv.trans hxy1) (by omega)⟩
   unfold zbN zee
   rw[if_pos h1,List.map_append]
   exact hown2.row
 have d1:decide (d.ty=1)=false:=decide_eq_false h1
 by_cases h28:d.ty=28
 ·refine go (an6 s1 s3 p0 d1 (decide_eq_true h28) (Nat.zero_add 0)) ?_
  ·refine zaF (fun _=>false) [(0,true),(1,true),(2,false),(3,false),(4,false),(5,true)] (zcK B) mixed (by kernel_rfl) ?_;intro gd K x hgd hx hxe hK;have hx0:=zaT hxe;clear hxe
   have qvx:=zab hx0 qv
   have csx:=zah hx0 hcs
   simp (disch:=first|omega|assumption|rfl) only[go_sem,s1,s3,qvx,csx]
   refine⟨zbu o2,zbu o1,?_⟩
   refine Fn.mono (zig (hWv.ext hx0) (hD.ext (hEv.trans hx0)) (k:=2) (base:=16) (sep:=[58]) (fm:=fx) (by decide) (by decide) hS.nr (by decide) (by decide) hfx hF) ?_
   rintro _ y0 ⟨rfl,hy0⟩
   refine⟨.inr hy0.keep,?_⟩
   simp (disch:=first|omega|assumption|rfl) only[go_sem]
   refine zbk (z:=vs []) rfl rfl rfl rfl rfl ?_
   intro y1 hy1 hys1 hyo
   refine⟨.inr hy1.keep,?_⟩
   simp (disch:=first|omega|assumption|rfl) only[go_sem]
   have hsy0:=hy0.size
   have hsx0:=hx0.size
   have hxy1:=(hx0.trans hy0).trans hy1
   refine za8 (e:=9) (hown.ext hxy1) hyo.row rfl rfl rfl rfl rfl rfl (vr0) (vr0) (fun q hq=>by simp at hq;subst hq;rfl) (by simp;omega) (by decide) (by omega) ?_
   intro sv' y2 hown2 hX2 hK2 hb2
   refine⟨.inr (hK2.mono fun b _ hb=>by have:=(hown.ge hb).1;show _≤_;omega),?_⟩
   simp (disch:=first|omega|assumption|rfl) only[go_sem]
   refine hK _ _ ?_;clear hK hgd;clear K;try clear gd
   refine go trivial ?_
   refine rt0 Tryz.ntmps59 ?_
   refine⟨?_,hX2 w (hEv.trans hxy1) (by omega)⟩
   unfold zbN zee
   rw[if_neg h1,if_pos h28,List.map_append]
   exact hown2.row
 have d28:decide (d.ty=28)=false:=decide_eq_false h28
 refine go (an6 s1 s3 p0 d1 d28 (Nat.zero_add 0)) ?_
 refine rc (an3 s1 p0 (Nat.zero_add 0)) (zng v1 d.ty) ?_
 rintro _ v2 ⟨rfl,hE2'⟩
 have hb':=hE2'.at hb
 have qv2:zad v2 (some ⟨bv,0,Option.none⟩)=some sv:=zaa hb' rfl
 have hs2v:=hE2'.size
 cases hkn:(zbV d.ty tyTab).2 with
 |true=>
  refine rgo (an2 s3 qv2) ?_
  refine rt0 Tryz.ntmps59 ?_
  refine⟨?_,hEv.trans hE2'⟩
  unfold zbN zee
  rw[if_neg h1,if_neg h28,if_pos hkn,List.append_nil]
  exact(hown.ext hE2').row
 |false=>
 have p4':=zab hE2' p4
 refine rgo (an2 s1 s3) ?_
 have k4:Keep (fun i=>i=bv∨B≤i) w2 v2:=k3.trans (hE2'.mono fun _ _ h=>h.elim)
 have hVb:VarT B bv v2 (zb5 d):=hVa.ext hE2'
 have hnr:=hS.nr
 refine zas (Q:=fun e σ' ds' v'=>e= .normal∧ds'=[]∧σ' 1= .pointer (some ⟨bd,0,Option.none⟩)∧σ' 3= .pointer (some ⟨bv,0,Option.none⟩)∧VarT B bv v' (zb5 d++ [[92,35],Lib.itoa (d.raw.length:Nat)])∧Keep (fun i=>i=bv∨B≤i) w2 v') ?_ ?_
 ·obtain⟨hEv,_,hBv⟩:=old k4
  have hown:=hown.ext hE2'
  refine zaF (fun i=>i==7) [(0,true),(1,true),(2,true),(3,true),(4,false),(5,false),(6,false),(7,false)] (zcK B) mixed (by kernel_rfl) ?_;intro gd K x hgd hx hxe hK;have hx0:=zaT hxe;clear hxe
  have qvx:=zab hx0 qv2
  have p4x:=zab hx0 p4'
  have hsx0:=hx0.size
  simp (disch:=first|omega|assumption|rfl) only[go_sem,s1,s3,qvx,p4x,Nat.zero_add]
  refine⟨zbu o2,zbu o1,?_⟩
  refine Fn.mono (zkn (hW.ext (hEv.trans hx0)) (d.raw.length:Nat) (by omega) (by omega)) ?_
  rintro _ y0 ⟨rfl,hy0⟩
  refine⟨.inr hy0.keep,?_⟩
  simp (disch:=first|omega|assumption|rfl) only[go_sem]
  refine zm5 (z:=vs []) (u:=vs [92,35]) (v:=vs (Lib.itoa (d.raw.length:Nat))) rfl rfl rfl rfl rfl rfl ?_
  intro y1 hy1 hys1 hyo
  refine⟨.inr hy1.keep,?_⟩
  simp (disch:=first|omega|assumption|rfl) only[go_sem]
  have hsy0:=hy0.size
  have hxy1:=(hx0.trans hy0).trans hy1
  refine za8 (e:=9) (hown.ext hxy1) hyo.row rfl rfl rfl rfl rfl rfl (vr0) (vr0) (fun q hq=>by simp at hq;rcases hq with rfl|rfl<;>rfl) (by simp;omega) (by decide) (by omega) ?_
  intro sv' y2 hown2 hX2 hK2 hb2
  refine⟨.inr (hK2.mono fun b _ hb=>by have:=(hown.ge hb).1;show _≤_;omega),?_⟩
  simp (disch:=first|omega|assumption|rfl) only[go_sem,s3]
  have hs2:=hK2.size
  have hb2Y:=(hK2.block bv (by omega) (fun hh=>by have:=(hown.ge hh).1;omega)).trans (Ext.at hxy1 hb')
  refine zaq (P:=Tryz.prog) rfl rfl (by obtain⟨a,c,rfl⟩:=hown2.slice;rfl) hb2Y (by simp) (by simp) ?_
  intro y3 hs3' hb3 hk3
  refine⟨.inl rfl,?_⟩
  simp (disch:=first|omega|assumption|rfl) only[go_sem]
  refine hK _ _ ?_;clear hK hgd;clear K;try clear gd
  refine⟨rfl,rfl,(vq1 s1),(vq1 s3),⟨sv',hb3,?_⟩,?_⟩
  ·rw[List.map_append]
   exact hown2.keep hk3 (fun b hb h=>by have:=(hown2.ge hb).1;omega)
  ·exact k4.trans (((hxy1.mono fun _ _ h=>h.elim).trans (hK2.mono fun b _ hb=> .inr (hown.ge hb).1)).trans (hk3.mono fun b _ hb=> .inl hb))
 clear hVb k4 p4' qv2 qv hb hb' s1 s3 p0 p1 p3 p4
 rintro _ σ _ v3 ⟨rfl,rfl,s1,s3,hVb,k4⟩
 obtain⟨p0,p1,p3,p4⟩:=q0 k4
 obtain⟨hEv3,_,hBv3⟩:=old k4
 obtain⟨sv3,hb,hown⟩:=hVb.ex
 have qv:zad v3 (some ⟨bv,0,Option.none⟩)=some sv3:=zaa hb rfl
 have hwd:∀r,(d.raw.length=0→r=[])→(d.raw.length≠0→r=[hexT d.raw])→zbN fx d=(zb5 d++ [[92,35],Lib.itoa (d.raw.length:Nat)])++r:=fun r h0 h3=>by
  unfold zbN zee
  rw[if_neg h1,if_neg h28,if_neg (by rw[hkn];decide),List.append_assoc]
  by_cases hz:d.raw.length=0
  ·rw[if_pos hz,h0 hz]
  ·rw[if_neg hz,h3 hz]
 by_cases hz:d.raw.length=0
 ·refine go (an6 s1 s3 p4 qv (show decide ((0:Int)<(d.raw.length:Int))=false from decide_eq_false (by omega)) (Nat.zero_add 4)) ?_
  refine rt0 Tryz.ntmps59 ?_
  refine⟨?_,hEv3⟩
  rw[hwd [] (fun _=>rfl) (fun h=>absurd hz h),List.append_nil]
  exact hown.row
 ·refine go (an6 s1 s3 p4 qv (show decide ((0:Int)<(d.raw.length:Int))=true from decide_eq_true (by omega)) (Nat.zero_add 4)) ?_
  refine zaF (fun i=>i==6) [(0,true),(1,true),(2,true),(3,false),(4,false),(5,false),(6,false)] (zcK B) mixed (by kernel_rfl) ?_;intro gd K x hgd hx hxe hK;have hx0:=zaT hxe;clear hxe
  have qvx:=zab hx0 qv
  have p4x:=zab hx0 p4
  have hsx0:=hx0.size
  simp (disch:=first|omega|assumption|rfl) only[go_sem,s1,s3,qvx,p4x,Nat.zero_add]
  refine⟨zbu o2,zbu o1,?_⟩
  refine Fn.mono (hex_ok (l:=d.raw) (hrv▸((hraw.ext (hEv3.trans hx0)):Row _ rw' _)) (by omega)) ?_
  rintro _ y0 ⟨rfl,hy0⟩
  refine⟨.inr hy0.keep,?_⟩
  simp (disch:=first|omega|assumption|rfl) only[go_sem]
  refine zbk (z:=vs []) rfl rfl rfl rfl rfl ?_
  intro y1 hy1 hys1 hyo
  refine⟨.inr hy1.keep,?_⟩
  simp (disch:=first|omega|assumption|rfl) only[go_sem]
  have hsy0:=hy0.size
  have hxy1:=(hx0.trans hy0).trans hy1
  refine za8 (e:=9) (hown.ext hxy1) hyo.row rfl rfl rfl rfl rfl rfl (vr0) (vr0) (fun q hq=>by simp at hq;subst hq;rfl) (by simp;omega) (by decide) (by omega) ?_
  intro sv' y2 hown2 hX2 hK2 hb2
  refine⟨.inr (hK2.mono fun b _ hb=>by have:=(hown.ge hb).1;show _≤_;omega),?_⟩
  simp (disch:=first|omega|assumption|rfl) only[go_sem,s3]
  have hs2:=hK2.size
  have hb2Y:=(hK2.block bv (by omega) (fun hh=>by have:=(hown.ge hh).1;omega)).trans (Ext.at hxy1 hb)
  refine zaq (P:=Tryz.prog) rfl rfl (by obtain⟨a,c,rfl⟩:=hown2.slice;rfl) hb2Y (by simp) (by simp) ?_
  intro y3 hs3' hb3 hk3
  refine⟨.inl rfl,?_⟩
  simp (disch:=first|omega|assumption|rfl) only[go_sem]
  refine hK _ _ ?_;clear hK hgd;clear K;try clear gd
  have q3:zad y3 (some ⟨bv,0,Option.none⟩)=some sv':=zaa hb3 rfl
  refine go (an2 s3 q3) ?_
  refine rt0 Tryz.ntmps59 ?_
  refine⟨?_,Keep.to_ext (hX2 w (hEv3.trans hxy1) (by omega)) rfl (fun b hb=>by omega) hk3⟩
  rw[hwd [hexT d.raw] (fun h=>absurd h hz) (fun _=>rfl),List.map_append]
  exact(hown2.keep hk3 (fun b hb h=>by have:=(hown2.ge hb).1;omega)).row
def za5(fx:Nat→Lab)(d:DatL):Lab:=zaM [32] (zbN fx d)
theorem zcd{n:Nm}(h:∀l∈n,l.length≤1000)(hn:n.length≤1000):(zaV n).length≤5000000:=by
 unfold zaV
 split
 ·decide
 ·have:∀m:Nm,(∀l∈m,l.length≤1000)→(m.flatMap fun l=>zau l++ [46]).length≤4001*m.length:=fun m=>by
   induction m with
   |nil=>intro _;exact Nat.zero_le _
   |cons l m ih=>
    intro h
    have h1:=ih fun x hx=>h x (List.mem_cons_of_mem _ hx)
    have h2:=h l (List.mem_cons_self ..)
    have h3:=zb0 l
    rw[List.flatMap_cons,List.length_append,List.length_append,show([46]:Lab).length=1 from rfl]
    show _≤4001*(m.length+1)
    omega
  have:=this n h
  have h2:4001*n.length≤4001*1000:=Nat.mul_le_mul_left _ hn
  omega
theorem zer(a b:List Lab):zaG (a++b)=zaG a+zaG b:=by unfold zaG;rw[List.map_append,List.sum_append]
theorem zbj{α:Type}{f:α→Lab}{m:Nat}{l:List α}(h:∀x∈l,(f x).length≤m):zaG (l.map f)≤m*l.length:=by
 have:=zcg (m:=m) (l:=l.map f) fun y hy=>by
  obtain⟨x,hx,rfl⟩:=List.mem_map.1 hy
  exact h x hx
 rwa [List.length_map]at this
structure DatT(d:DatL):Prop where
 s:DatS d
 nn:d.names.length≤20
theorem zd7{fx:Nat→Lab}(hfx:∀u,u<65536→(fx u).length≤100){d:DatL}(h:DatT d):(zbN fx d).length≤10000∧zaG (zbN fx d)≤200000000:=by
 have hS:=h.s
 have g1:zaG (d.names.map zaV)≤5000000*d.names.length:=zbj fun n hn=>zcd (hS.names n hn).1 (hS.names n hn).2
 have g2:zaG (zcR d)≤20*d.nums.length:=zbj fun n hn=>zcT (hS.nv n hn).2
 have g3:zaG (d.texts.map quoT)≤4002*d.texts.length:=zbj fun t ht=>by
  have h1:=zeh t
  have h2:=hS.tx t ht
  unfold quoT
  rw[List.length_cons,List.length_append]
  show _+1+1≤_
  omega
 have a1:5000000*d.names.length≤5000000*20:=Nat.mul_le_mul_left _ h.nn
 have a2:20*d.nums.length≤20*1000:=Nat.mul_le_mul_left _ hS.nu
 have a3:4002*d.texts.length≤4002*1000:=Nat.mul_le_mul_left _ hS.nt
 have gr:∀(fm:Nat→Lab) (k:Nat) (sep:Lab),1≤k→k≤2→sep.length=1→(∀u,u<65536→(fm u).length≤100)→(zdm fm k sep d.raw).length≤300000:=fun fm k sep hk hk2 hs hf=>by
  have hxl:(zaX k d.raw).length≤2001:=by
   have:=hS.nr
   rw[zcH]
   exact Nat.le_trans (Nat.div_le_self _ _) (by omega)
  have hb:zaG ((zaX k d.raw).map fun x=>fm (valB x))≤100*(zaX k d.raw).length:=zbj fun x hx=>hf _ (ziW (k:=2) (by
   unfold zaX at hx
   obtain⟨i,_,rfl⟩:=List.mem_map.1 hx
   rw[List.length_take];omega))
  have hj:∀l:List Lab,(zaM sep l).length≤l.length+zaG l:=fun l=>by
   cases l with
   |nil=>exact Nat.zero_le _
   |cons x r=>
    have:=zhh sep r
    have e:zaG (x::r)=x.length+zaG r:=by simp[zaG]
    show(x++_).length≤_
    rw[List.length_append,this,hs,e,List.length_cons];omega
  have:=hj ((zaX k d.raw).map fun x=>fm (valB x))
  rw[List.length_map]at this
  unfold zdm
  omega
 have gt:(zee fx d).length≤3∧zaG (zee fx d)≤1000000:=by
  unfold zee
  split
  ·refine⟨by simp,?_⟩
   have:=gr Lib.decDigits 1 [46] (by decide) (by decide) rfl (fun u hu=>by have:=zbo 4 u (by omega);omega)
   simp[zaG];omega
  ·split
   ·refine⟨by simp,?_⟩
    have:=gr fx 2 [58] (by decide) (by decide) rfl hfx
    simp[zaG];omega
   ·split
    ·exact⟨by decide,by decide⟩
    ·have hi:(Lib.itoa (d.raw.length:Nat)).length≤20:=by
      rw[zhi]
      have:=zbo 19 d.raw.length (by have:=hS.nr;omega)
      omega
     have hx:=zcp d.raw
     have:=hS.nr
     rw[zer,List.length_append]
     split
     ·exact⟨by simp,by simp[zaG];omega⟩
     ·exact⟨by simp,by simp[zaG];omega⟩
 have gf:(zb5 d).length≤3000+20∧zaG (zb5 d)≤110000000:=by
  have hn:=h.nn
  have hu:=hS.nu
  have ht:=hS.nt
  have hw:(zcR d).length=d.nums.length:=by unfold zcR;rw[List.length_map]
  unfold zb5
  simp only[zer,List.length_append,List.length_map]
  split
  ·have e:zaG ([]:List Lab)=0:=rfl
   rw[e,hw]
   exact⟨by simp;omega,by omega⟩
  ·have e:zaG ([]:List Lab)=0:=rfl
   rw[e,hw]
   exact⟨by simp;omega,by omega⟩
 unfold zbN
 rw[List.length_append,zer]
 omega
theorem DText_ok{w:World}(hW:WY w){cs:List Value}{d:DatL}(hD:DatAt w cs d)(hS:DatT d){fx:Nat→Lab}(hfx:∀u,u<65536→(fx u).length≤100)
  (hF:∀v u,WY v→u<65536→Fn Tryz.prog 26 #[.int .u64 (u:Nat),vi 16] v (fun r v'=>r=vs (fx u)∧Ext v v')):
  Fn Tryz.prog 30 #[.agg cs.toArray] w (fun u w'=>u=vs (za5 fx d)∧Ext w w'):=by
 obtain⟨nm,nu,tx,rw',rfl,_⟩:=hD.ex
 obtain⟨l1,l2⟩:=zd7 hfx hS
 refine enter Tryz.func30 Tryz.ntmps30 rfl rfl ?_
 refine go trivial ?_
 refine zan ?_
 intro w1 hE1 hz1 hA
 have hcs:zar w1 (some ⟨w.heap.size,0,Option.none⟩) 5=some [vi d.ty,nm,nu,tx,rw']:=zal (n:=5) hA rfl
 refine rc hcs (words_ok (hW.ext hE1) (hD.ext hE1) hS.s hfx hF) ?_
 rintro v w2 ⟨hR,hE2⟩
 refine rd trivial (zeZ (sep:=[32]) hR (by omega) (by decide) (by decide) (by omega)) ?_
 rintro _ w3 ⟨rfl,hE3⟩
 refine rgo trivial ?_
 refine rt0 Tryz.ntmps30 ?_
 exact⟨rfl,(hE1.trans hE2).trans hE3⟩
def hexU(n:Nat):Lab:=if h:n<16 then [hexD n] else hexU (n / 16)++ [hexD (n % 16)]
decreasing_by omega
theorem zdl{n:Nat}(h:n<16):hexU n=[hexD n]:=by rw[hexU,dif_pos h]
theorem zfS{n:Nat}(h:¬n<16):hexU n=hexU (n / 16)++ [hexD (n % 16)]:=by rw[hexU,dif_neg h]
theorem zcX:∀(k n:Nat),n<16 ^ (k+1)→(hexU n).length≤k+1
 |0,n,h=>by rw[zdl (by omega)];exact Nat.le_refl _
 |k+1,n,h=>by
  by_cases h1:n<16
  ·rw[zdl h1];show 1≤_;omega
  ·have:=zcX k (n / 16) (by rw[Nat.pow_succ]at h;omega)
   rw[zfS h1,List.length_append]
   show _+1≤_
   omega
theorem ix_dig{k:Nat}(h:k<16):ixSD (some .string) (.string ⟨#[48,49,50,51,52,53,54,55,56,57,97,98,99,100,101,102,103,104,105,106,107,108,109,110,111,112,113,114,115,116,117,118,119,120,121,122]⟩) (.int .u64 (k:Int))=some (zao (hexD k)):=by
 have:=(by decide+kernel:∀k,k<16→([48,49,50,51,52,53,54,55,56,57,97,98,99,100,101,102,103,104,105,106,107,108,109,110,111,112,113,114,115,116,117,118,119,120,121,122]:Lab)[k]? =some (hexD k)) k h
 obtain⟨h1,h2⟩:=List.getElem?_eq_some_iff.1 this
 have h3:((k:Nat):Int).toNat<([48,49,50,51,52,53,54,55,56,57,97,98,99,100,101,102,103,104,105,106,107,108,109,110,111,112,113,114,115,116,117,118,119,120,121,122]:Lab).length:=by rw[Int.toNat_natCast];exact h1
 show ixSD (some .string) (vs [48,49,50,51,52,53,54,55,56,57,97,98,99,100,101,102,103,104,105,106,107,108,109,110,111,112,113,114,115,116,117,118,119,120,121,122]) (.int .u64 (k:Int))=_
 rw[zkN (by omega) h3]
 simp only[Int.toNat_natCast,h2]
 rfl
theorem zkg{P:Program}{t:TypeId}{n:Nat}(h:n<65536):binV P .and t (.int .u64 (n:Int)) (.int .u64 15)=some (.int .u64 ((n % 16:Nat):Int)):=by
 show some (Value.int .u64 (IntKind.u64.wrap ((BitVec.ofInt 64 (n:Int) &&& BitVec.ofInt 64 15).toNat:Int)))=_
 have e:(BitVec.ofInt 64 (n:Int) &&& BitVec.ofInt 64 15).toNat=n % 16:=by
  rw[BitVec.toNat_and,BitVec.ofInt_natCast,BitVec.toNat_ofNat,Nat.mod_eq_of_lt (by omega),show(BitVec.ofInt 64 15).toNat=2 ^ 4 - 1 from rfl,Nat.and_two_pow_sub_one_eq_mod]
 rw[e,zfd (by omega) (by omega)]
theorem b_shr4u{P:Program}{t:TypeId}{n:Nat}:binV P .shr t (.int .u64 (n:Int)) (.int .u64 4)=some (.int .u64 ((n / 16:Nat):Int)):=by
 show some (Value.int .u64 (Int.fdiv (n:Int) (2 ^ (min (Int.toNat 4) 64))))=_
 have:(2:Int) ^ (min (Int.toNat 4) 64)=((16:Nat):Int):=by decide
 rw[this,Int.fdiv_eq_ediv_of_nonneg _ (by omega)];rfl
theorem trail64v(w:World)(h:w.cell? ⟨3,15,Option.none⟩=some (.int .u8 4)):Calls Tryz.prog 150 #[.int .u64 16] w (fun e w'=>e= .returned (.int .i64 4)∧w'=w):=by
 have h':w.cell? ⟨3,(IntKind.u64.wrap (bits BinOp.and IntKind.u64 16 (IntKind.u64.wrap (-16))*285870213051353865) / 288230376151711744).toNat,Option.none⟩=some (.int .u8 4):=by
  rw[show (IntKind.u64.wrap (bits BinOp.and IntKind.u64 16 (IntKind.u64.wrap (-16))*285870213051353865) / 288230376151711744).toNat=15 by kernel_rfl]
  exact h
 go_enter Tryz.func150,Tryz.ntmps150
 go_wp2
 all_goals (go_ret;exact⟨rfl,rfl⟩)
theorem trail16v(w:World)(h:w.cell? ⟨3,15,Option.none⟩=some (.int .u8 4)):Fn Tryz.prog 120 #[.int .u64 16] w (fun v w'=>v=vi 4∧w=w'):=by
 have:Calls Tryz.prog 120 #[.int .u64 16] w (fun e w'=>e= .returned (.int .i64 4)∧w'=w):=by
  go_enter Tryz.func120,Tryz.ntmps120
  go_wp2_with (go_at_call 150;refine(trail64v _ h).mono ?_)
  rintro e w2 ⟨rfl,rfl⟩
  go_wp2
  go_ret
  exact⟨rfl,rfl⟩
 exact Fn.of_calls (this.mono fun _ _ ⟨he,hw⟩=>⟨_,he,rfl,hw.symm⟩)
structure Dig(b i:Nat)(w:World)(D:Lab):Prop where
 ex:∃cur T,w.heap[b]? =some (.cells cur T (0,0))∧cur.size=65∧i+D.length=65∧∀j (h:j<D.length),cur[i+j]? =some (zao D[j])
theorem Dig.push{b i:Nat}{w2:World}{D:Lab}{c:UInt8}{cur:Array Value}{T:TypeId}(hsz:cur.size=65)(hi:1≤i)(hil:i+D.length=65)(hat:∀j (h:j<D.length),cur[i+j]? =some (zao D[j]))(h2:w2.heap[b]? =some (.cells (cur.setIfInBounds (i - 1) (zao c)) T (0,0))):Dig b (i - 1) w2 (c::D):=by
 refine⟨_,_,h2,by simpa using hsz,by rw[List.length_cons];omega,fun j hj=>?_⟩
 cases j with
 |zero=>
  rw[Nat.add_zero,Array.getElem?_setIfInBounds_self_of_lt (by omega)];rfl
 |succ j=>
  rw[Array.getElem?_setIfInBounds_ne (by omega),show i - 1+(j+1)=i+j by omega]
  exact hat j (by simpa using hj)
theorem bits16n{w:World}(hW:WY w){n:Nat}(hn:n<65536):Fn Tryz.prog 83 #[.slice Option.none 0 0,.int .u64 (n:Nat),vi 16,.bool false,.bool false] w (fun v w'=>(∃l,v= .tuple #[l,vs (hexU n)])∧Ext w w'):=by
 have d1:decide ((16:Int)<2)=false:=rfl
 have d2:decide ((16:Int)=10)=false:=rfl
 have d3:decide ((36:Int)<16)=false:=rfl
 refine enter Tryz.func83 Tryz.ntmps83 rfl rfl ?_
 refine go trivial ?_
 refine rgg [(2,21),(6,25)] (an3 d1 d2 d3) ?_
 refine go trivial ?_
 refine zan ?_
 intro w1 hE1 hs1 hA
 refine rc trivial (isPow16F w1) ?_
 rintro _ _ ⟨rfl,rfl⟩
 have hw16:IntKind.u64.wrap 16=16:=rfl
 have hw15:IntKind.u64.wrap (16 - 1)=15:=rfl
 have hw4:IntKind.u64.wrap 4=4:=rfl
 refine rgo trivial ?_
 refine rc hw16 (trail16v w1 (hW.ext hE1).tz) ?_
 rintro _ _ ⟨rfl,rfl⟩
 refine rgo (an3 hw16 hw15 hw4) ?_
 refine zas (Q:=fun e σ ds v=>e= .exit 0∧ds=[]∧∃m i D,m<16∧hexU n=hexU m++D∧1≤i∧σ 1= .int .u64 (m:Nat)∧σ 3= .bool false∧σ 4= .bool false∧σ 12= .pointer (some ⟨w.heap.size,0,Option.none⟩)∧σ 13=vi (i:Nat)∧Dig w.heap.size i v D∧Ext w v) ?_ ?_
 ·refine zaD (fun j σ ds v=>ds=[]∧∃m i D,m<16 ^ (j+1)∧j≤3∧hexU n=hexU m++D∧i+3=65+j∧σ 1= .int .u64 (m:Nat)∧σ 3= .bool false∧σ 4= .bool false∧σ 12= .pointer (some ⟨w.heap.size,0,Option.none⟩)∧σ 13=vi (i:Nat)∧σ 14= .int .u64 4∧σ 15= .int .u64 16∧σ 16= .int .u64 15∧Dig w.heap.size i v D∧Ext w v) 3 ?_ ?_
  ·exact⟨rfl,n,65,[],by simpa using hn,by decide,by simp,by decide,vr0,vr0,vr0,vr0,vr0,vr0,vr0,vr0,⟨_,_,hA,rfl,rfl,fun j h=>absurd h (by simp)⟩,hE1⟩
  ·rintro j σ ds v ⟨rfl,m,i,D,hm,hj,hD,hi,s1,s3,s4,s12,s13,s14,s15,s16,hdg,hE⟩
   by_cases hlt:m<16
   ·have dd:decide ((16:Int)≤(m:Int))=false:=decide_eq_false (by omega)
    refine go (an9 s1 s3 s4 s12 s13 s14 s15 s16 dd) ?_
    exact⟨rfl,rfl,m,i,D,hlt,hD,by omega,(vq1 s1),(vq1 s3),(vq1 s4),(vq1 s12),(vq1 s13),hdg,hE⟩
   have dd:decide ((16:Int)≤(m:Int))=true:=decide_eq_true (by omega)
   have hj1:1≤j:=by
    rcases Nat.eq_zero_or_pos j with rfl|h
    ·simp at hm;omega
    ·exact h
   have hm6:m<65536:=Nat.lt_of_lt_of_le hm (Nat.pow_le_pow_right (j:=4) (by decide) (by omega))
   obtain⟨cur,T,hb,hsz,hil,hat⟩:=hdg.ex
   have hi1:(i:Int) - 1=((i - 1:Nat):Int):=by omega
   refine go (an9 s1 s3 s4 s12 s13 s14 s15 s16 (an2 dd hi1)) ?_
   have ha:=zkg (P:=Tryz.prog) (t:=71) hm6
   have ha2:=zkg (P:=Tryz.prog) (t:=181) hm6
   have hix:=ix_dig (k:=m % 16) (by omega)
   have z1:(0:Int)≤((i - 1:Nat):Int):=by omega
   have l1:((i - 1:Nat):Int)<((65:Nat):Int):=by omega
   have hsh:=b_shr4u (P:=Tryz.prog) (t:=71) (n:=m)
   refine rq ?_;intro gd K hgd hK
   try simp (disch:=first|omega|assumption|rfl) only[go_sem,s1,s12,s16,ha,ha2,hix,z1,l1,Nat.zero_add]
   refine zaq (P:=Tryz.prog) (b:=w.heap.size) (j:=i - 1) rfl rfl rfl hb (by omega) (.inl (Nat.zero_le _)) ?_
   intro w2 hs2 hb2 hk2
   try simp only[go_sem]
   refine hK _ _ ?_;clear hK hgd;clear K;try clear gd
   have hE2:Ext w w2:=Keep.to_ext hE rfl (fun b (hb:b=w.heap.size)=>by omega) hk2
   refine go (an9 s1 s3 s4 s12 s13 s14 s15 s16 hsh) ?_
   refine⟨j - 1,by omega,rfl,m / 16,i - 1,hexD (m % 16)::D,?_,by omega,?_,by omega,vr0,(vq1 s3),(vq1 s4),(vq1 s12),vr0,(vq1 s14),(vq1 s15),(vq1 s16),Dig.push hsz (by omega) hil hat hb2,hE2⟩
   ·rw[Nat.pow_succ]at hm
    rw[show j - 1+1=j by omega]
    revert hm
    generalize 16 ^ j=q
    intro hm
    omega
   ·rw[hD,zfS hlt,List.append_assoc];rfl
 rintro _ σ _ v ⟨rfl,rfl,m,i,D,hlt,hD,hi0,s1,s3,s4,s12,s13,hdg,hE⟩
 obtain⟨cur,T,hb,hsz,hil,hat⟩:=hdg.ex
 have hi1:(i:Int) - 1=((i - 1:Nat):Int):=by omega
 have hix:=ix_dig (k:=m) hlt
 have z1:(0:Int)≤((i - 1:Nat):Int):=by omega
 have l1:((i - 1:Nat):Int)<((65:Nat):Int):=by omega
 refine go (an6 s1 s3 s4 s12 s13 hi1) ?_
 refine rq ?_;intro gd K hgd hK
 try simp (disch:=first|omega|assumption|rfl) only[go_sem,s1,s12,hix,z1,l1,Nat.zero_add]
 refine zaq (P:=Tryz.prog) (b:=w.heap.size) (j:=i - 1) rfl rfl rfl hb (by omega) (.inl (Nat.zero_le _)) ?_
 intro w2 hs2 hb2 hk2
 try simp only[go_sem]
 refine hK _ _ ?_;clear hK hgd;clear K;try clear gd
 have hE2:Ext w w2:=Keep.to_ext hE rfl (fun b (hb:b=w.heap.size)=>by omega) hk2
 obtain⟨cur2,T2,hb2',hsz2,hil2,hat2⟩:=(Dig.push (c:=hexD m) hsz hi0 hil hat hb2).ex
 have hfin:hexU n=hexD m::D:=by rw[hD,zdl hlt];rfl
 have hlen:(hexU n).length=65 - (i - 1):=by rw[hfin,List.length_cons];omega
 have hadd:(⟨w.heap.size,0,Option.none⟩:Addr).add (i - 1)=⟨w.heap.size,i - 1,Option.none⟩:=by simp[Addr.add];omega
 refine go (an3 s3 s4 s12) ?_
 refine rq ?_;intro gd K hgd hK
 try simp (disch:=first|omega|assumption|rfl) only[go_sem,s12]
 refine op_slAl (n:=65) (l:=i - 1) (a:=⟨w.heap.size,0,Option.none⟩) rfl (by decide) rfl rfl (by omega) ((vq1 s12)) (vr0) ?_
 try simp only[go_sem]
 refine zcs (l:=hexU n) (a:=some ⟨w.heap.size,i - 1,Option.none⟩) (c:=65 - (i - 1)) rfl rfl rfl (by rw[hlen,←hadd];first| (simp only[go_sem];done)| (simp only[go_sem];rfl)) (fun j hj=>?_) ?_
 ·have hj2:j<(hexD m::D).length:=by rw[←hfin];exact hj
  have h3:zad w2 (some ⟨w.heap.size,i - 1+j,Option.none⟩)=some (zao (hexD m::D)[j]):=zaa hb2' (hat2 j hj2)
  rw[zaZ]
  simp only[hfin]
  exact h3
 try simp only[go_sem]
 refine hK _ _ ?_;clear hK hgd;clear K;try clear gd
 repeat refine c_r ?_
 refine zaf (.inr rfl) Tryz.ntmps83 rfl (zac (vr0) (zac (v:=vs (hexU n)) (vr0) zae)) ?_
 exact⟨⟨_,rfl⟩,hE2⟩
theorem ziP{w:World}(hW:WY w)(u:Nat)(hu:u<65536):Fn Tryz.prog 26 #[.int .u64 (u:Nat),vi 16] w (fun v w'=>v=vs (hexU u)∧Ext w w'):=by
 have d1:decide ((16:Int)=10)=false:=rfl
 have inner:Fn Tryz.prog 53 #[.int .u64 (u:Nat),vi 16] w (fun v w'=>v=vs (hexU u)∧Ext w w'):=by
  refine enter Tryz.func53 Tryz.ntmps53 rfl rfl ?_
  refine go d1 ?_
  refine rc trivial (bits16n hW hu) ?_
  rintro _ w1 ⟨⟨l,rfl⟩,hE1⟩
  refine rgo trivial ?_
  refine rt0 Tryz.ntmps53 ?_
  exact⟨rfl,hE1⟩
 refine enter Tryz.func26 Tryz.ntmps26 rfl rfl ?_
 refine go trivial ?_
 refine rc trivial inner ?_
 rintro _ w1 ⟨rfl,hE1⟩
 refine rgo trivial ?_
 refine rt0 Tryz.ntmps26 ?_
 exact⟨rfl,hE1⟩
theorem zgo{w:World}(hW:WY w){cs:List Value}{d:DatL}(hD:DatAt w cs d)(hS:DatT d):Fn Tryz.prog 30 #[.agg cs.toArray] w (fun u w'=>u=vs (za5 hexU d)∧Ext w w'):=
 DText_ok hW hD hS (fun u hu=>by have:=zcX 3 u (by simpa using hu);omega) (fun _ u hv hu=>ziP hv u hu)
def tyT(k:Int):Lab:=if (zbV k tyTab).2=true then(zbV k tyTab).1 else [84,89,80,69]++Lib.itoa k
theorem zjV{n:Int}(h0: -9223372036854775808≤n)(h1:n≤9223372036854775807):(Lib.itoa n).length≤30:=by
 unfold Lib.itoa
 split
 ·have:=zbo 19 n.natAbs (by omega)
  have:=zbo 19 (-n).toNat (by omega)
  simp only[List.length_cons]
  omega
 ·have:=zbo 19 n.toNat (by omega)
  omega
theorem zki{w:World}(hW:WY w)(k:Int)(h0: -9223372036854775808≤k)(h1:k≤9223372036854775807):Fn Tryz.prog 29 #[vi k] w (fun u w'=>u=vs (tyT k)∧Ext w w'):=by
 refine enter Tryz.func29 Tryz.ntmps29 rfl rfl ?_
 refine go trivial ?_
 refine rc trivial (zfA w) ?_
 rintro v w1 ⟨hR,hE1⟩
 refine rd trivial (zmL hR (by decide) k) ?_
 rintro _ w2 ⟨rfl,hE2⟩
 have hE12:=hE1.trans hE2
 have hi:=zjV h0 h1
 unfold tyT
 cases hf:(zbV k tyTab).2 with
 |true=>
  refine rgo hf ?_
  rw[if_pos rfl]
  refine rt0 Tryz.ntmps29 ?_
  exact⟨rfl,hE12⟩
 |false=>
  refine rgo hf ?_
  rw[if_neg (by decide)]
  refine rc trivial (zkn (hW.ext hE12) k h0 h1) ?_
  rintro _ w3 ⟨rfl,hE3⟩
  have l1:([84,89,80,69]:Lab).length+(Lib.itoa k).length≤9223372036854775807:=by simp;omega
  refine rgo l1 ?_
  refine rt0 Tryz.ntmps29 ?_
  exact⟨rfl,hE12.trans hE3⟩
theorem zgW{k:Int}(h0: -9223372036854775808≤k)(h1:k≤9223372036854775807):(tyT k).length≤40:=by
 have h2:=zjV h0 h1
 have:∀T:List (Int×Lab),(∀x∈T,x.2.length≤5)→(zbV k T).1.length≤5:=fun T=>by
  induction T with
  |nil=>intro _;exact Nat.zero_le _
  |cons x T ih=>
   intro h
   unfold zbV
   split
   ·exact h x (List.mem_cons_self ..)
   ·exact ih fun y hy=>h y (List.mem_cons_of_mem _ hy)
 have h3:=this tyTab (by decide)
 unfold tyT
 split
 ·omega
 ·simp only[List.length_append,List.length_cons,List.length_nil];omega
theorem za4(sep:Lab)(l:List Lab):(zaM sep l).length≤sep.length*l.length+zaG l:=by
 cases l with
 |nil=>exact Nat.zero_le _
 |cons x r=>
  have:=zhh sep r
  have e:zaG (x::r)=x.length+zaG r:=by simp[zaG]
  show(x++_).length≤_
  rw[List.length_append,this,e,List.length_cons,Nat.mul_succ];omega
def recT(r:RecL):Lab:=zaM [32] [zaV r.owner,numT r.ttl,[73,78],tyT r.dat.ty,za5 hexU r.dat]
structure RecT(r:RecL):Prop where
 ow:(∀l∈r.owner,l.length≤1000)∧r.owner.length≤1000
 tl:0≤r.ttl∧r.ttl≤4294967295
 ty: -9223372036854775808≤r.dat.ty∧r.dat.ty≤9223372036854775807
 dat:DatT r.dat
theorem zkC{w:World}(hW:WY w){cs:List Value}{r:RecL}(hR:RecAt w cs r)(hT:RecT r):Fn Tryz.prog 45 #[.agg cs.toArray] w (fun u w'=>u=vs (recT r)∧Ext w w'):=by
 obtain⟨ow,ds,rfl,how,hD⟩:=hR.ex
 obtain⟨nm,nu,tx,rw',rfl,_⟩:=hD.ex
 obtain⟨u,hu⟩:∃u:Nat,r.ttl=u:=⟨r.ttl.toNat,by have:=hT.tl;omega⟩
 have hu2:=hT.tl
 refine enter Tryz.func45 Tryz.ntmps45 rfl rfl ?_
 repeat refine c_r ?_
 refine rg0 ?_
 repeat refine c_r ?_
 refine zan ?_
 intro w1 hE1 hz1 hA
 have c0:zad w1 (some ⟨w.heap.size,0,Option.none⟩)=some ow:=zaa hA rfl
 have c1:zad w1 (some ⟨w.heap.size,1,Option.none⟩)=some (.int .u32 (u:Int)):=by rw[←hu];exact zaa hA rfl
 have c2:zad w1 (some ⟨w.heap.size,2,Option.none⟩)=some (vi r.dat.ty):=zaa hA rfl
 have c3:zar w1 (some ⟨w.heap.size,2,Option.none⟩) 5=some [vi r.dat.ty,nm,nu,tx,rw']:=zay (o:=2) (k:=5) hA (by simp)
 refine zaF (fun _=>false) [(0,true),(1,true),(3,true),(4,true),(5,true),(7,true),(8,true),(9,true),(11,true),(12,true),(2,false),(6,false),(10,false),(13,false),(14,false),(15,false),(16,true)] NoS mixed (by kernel_rfl) ?_;intro gd K x hgd hx hxe hK;have hx0:=zaT hxe;clear hxe
 have d0:=zab hx0 c0
 have d1:=zab hx0 c1
 have d2:=zab hx0 c2
 have d3:=zah hx0 c3
 simp (disch:=first|omega|assumption|rfl) only[go_sem,d0,d1,d2,d3,Nat.zero_add]
 have hWx:=(hW.ext hE1).ext hx0
 have hEx:=hE1.trans hx0
 obtain⟨g1,g2⟩:=zd7 (fx:=hexU) (fun u hu=>by have:=zcX 3 u (by simpa using hu);omega) hT.dat
 refine Fn.mono (zfw _ _ _ (how.ext hEx) (fun l hl=>by have:=hT.ow.1 l hl;omega) hT.ow.2) ?_
 rintro _ y1 ⟨rfl,hy1⟩
 refine⟨.inr hy1.keep,?_⟩
 have e1:=zab hy1 d1
 have e2:=zab hy1 d2
 have e3:=zah hy1 d3
 simp (disch:=first|omega|assumption|rfl) only[go_sem,e1,e2,e3,Nat.zero_add]
 refine Fn.mono (zcw (hWx.ext hy1) u (by omega)) ?_
 rintro _ y2 ⟨rfl,hy2⟩
 refine⟨.inr hy2.keep,?_⟩
 have f2:=zab hy2 e2
 have f3:=zah hy2 e3
 simp (disch:=first|omega|assumption|rfl) only[go_sem,f2,f3,Nat.zero_add]
 refine Fn.mono (zki ((hWx.ext hy1).ext hy2) r.dat.ty hT.ty.1 hT.ty.2) ?_
 rintro _ y3 ⟨rfl,hy3⟩
 refine⟨.inr hy3.keep,?_⟩
 have g3:=zah hy3 f3
 simp (disch:=first|omega|assumption|rfl) only[go_sem,g3,Nat.zero_add]
 refine Fn.mono (zgo (((hWx.ext hy1).ext hy2).ext hy3) (hD.ext (((hEx.trans hy1).trans hy2).trans hy3)) hT.dat) ?_
 rintro _ y4 ⟨rfl,hy4⟩
 refine⟨.inr hy4.keep,?_⟩
 simp (disch:=first|omega|assumption|rfl) only[go_sem]
 have a1:=zcd hT.ow.1 hT.ow.2
 have a2:=zbo 19 u (by omega)
 have a3:=zgW hT.ty.1 hT.ty.2
 have a4:(za5 hexU r.dat).length≤300000000:=by
  have:=za4 [32] (zbN hexU r.dat)
  unfold za5
  rw[show ([32]:Lab).length=1 from rfl]at this
  omega
 obtain⟨xs,hxs⟩:∃xs:List Lab,[zaV r.owner,Lib.decDigits u,[73,78],tyT r.dat.ty,za5 hexU r.dat]=xs:=⟨_,rfl⟩
 have hxl:xs.length=5:=by rw[←hxs];rfl
 have hln:zaG xs≤1000000000:=by
  rw[←hxs]
  simp only[zaG,List.map_cons,List.map_nil,List.sum_cons,List.sum_nil,List.length_cons,List.length_nil]
  omega
 have hrt:recT r=zaM [32] xs:=by unfold recT numT;rw[←hxs,hu,Int.toNat_natCast]
 refine zbQ (z:=vs []) (l:=xs.map vs) (by rw[List.length_map,hxl]) (by rw[←hxs];rfl) rfl rfl rfl rfl (fun v hv=>by obtain⟨q,_,rfl⟩:=List.mem_map.1 hv;rfl) (by rw[List.length_map];omega) ?_
 intro y5 hy5 hys5 hyo
 refine⟨.inr hy5.keep,?_⟩
 simp (disch:=first|omega|assumption|rfl) only[go_sem]
 refine Fn.mono (zeZ (sep:=[32]) hyo.row (by omega) (by decide) (by decide) hln) ?_
 rintro _ y6 ⟨rfl,hy6⟩
 refine⟨.inr hy6.keep,?_⟩
 simp (disch:=first|omega|assumption|rfl) only[go_sem]
 refine hK _ _ ?_;clear hK hgd;clear K;try clear gd
 repeat refine c_r ?_
 refine rt0 Tryz.ntmps45 ?_
 rw[hrt]
 exact⟨rfl,(((((hEx.trans hy1).trans hy2).trans hy3).trans hy4).trans hy5).trans hy6⟩
def zgC(R:List RecL):Lab:=R.flatMap fun r=>recT r++ [10]
theorem zjD{r:RecL}(hT:RecT r):(recT r).length≤400000000:=by
 obtain⟨g1,g2⟩:=zd7 (fx:=hexU) (fun u hu=>by have:=zcX 3 u (by simpa using hu);omega) hT.dat
 have a1:=zcd hT.ow.1 hT.ow.2
 have hu2:=hT.tl
 have a2:=zbo 19 r.ttl.toNat (by omega)
 have a3:=zgW hT.ty.1 hT.ty.2
 have a4:=za4 [32] (zbN hexU r.dat)
 have a5:=za4 [32] [zaV r.owner,numT r.ttl,[73,78],tyT r.dat.ty,za5 hexU r.dat]
 rw[show ([32]:Lab).length=1 from rfl]at a4 a5
 unfold recT
 simp only[zaG,List.map_cons,List.map_nil,List.sum_cons,List.sum_nil,List.length_cons,List.length_nil]at a5
 unfold za5 at a5 ⊢
 unfold numT at a5 ⊢
 omega
theorem zib{R:List RecL}(hT:∀r∈R,RecT r):(zgC R).length≤400000001*R.length:=by
 induction R with
 |nil=>exact Nat.zero_le _
 |cons r R ih=>
  have h1:=ih fun x hx=>hT x (List.mem_cons_of_mem _ hx)
  have h2:=zjD (hT r (List.mem_cons_self ..))
  unfold zgC at*
  rw[List.flatMap_cons,List.length_append,List.length_append,show([10]:Lab).length=1 from rfl]
  show _≤400000001*(R.length+1)
  omega
theorem Lines_ok{w:World}(hW:WY w){v:Value}{R:List RecL}(hR:Rows 7 (RecAt w) w v R)(hT:∀r∈R,RecT r)(hl:R.length≤100):Fn Tryz.prog 15 #[v] w (fun u w'=>u=vs (zgC R)∧Ext w w'):=by
 obtain⟨a,c,rfl,hc,hg⟩:=hR.open
 refine enter Tryz.func15 Tryz.ntmps15 rfl rfl ?_
 refine go trivial ?_
 refine zan ?_
 intro w1 hE1 hs1 hA
 refine go trivial ?_
 refine zbq R.length (fun i σ v=>σ 3= .pointer (some ⟨w.heap.size,0,Option.none⟩)∧σ 6= .slice a R.length c∧σ 7=vi R.length∧σ 8=vi i∧Ext w v∧w1.heap.size≤v.heap.size∧Bld w1.heap.size v w.heap.size (zgC (R.take i))) ?_ ?_ ?_
 ·exact⟨vr0,vr0,vr0,vr0,hE1,Nat.le_refl _,⟨⟨_,_,.inl rfl,hA,Own.nil _ _ _⟩⟩⟩
 ·rintro i σ v hi p ⟨s3,s6,s7,s8,hE,hsv,hB⟩
  obtain⟨cs,g0,hcs⟩:=hg i hi
  have g:=zah hE g0
  obtain⟨r,hr⟩:∃r,R[i]=r:=⟨_,rfl⟩
  rw[hr]at hcs
  have hrT:RecT r:=hr▸hT _ (List.getElem_mem hi)
  obtain⟨xa,rfl⟩:=Option.isSome_iff_exists.1 (zav g)
  obtain⟨xi,hxi⟩:∃xi,adr (some xa) (i*7)=some xi:=⟨_,rfl⟩
  rw[hxi]at g
  have hi0:(0:Int)≤(i:Int):=by omega
  have hi1:(i:Int)<(R.length:Int):=by omega
  have hi2:(i:Int)+1=((i+1:Nat):Int):=by push_cast;rfl
  have hc7:=hcs.len
  have hll:=zib (R:=R.take i) fun x hx=>hT x (List.mem_of_mem_take hx)
  have hrl:=zjD hrT
  rw[List.length_take]at hll
  have hmul:400000001*min i R.length≤400000001*100:=Nat.mul_le_mul_left _ (by omega)
  refine go (an5 s3 s6 s7 s8 p) ?_
  refine rq ?_;intro gd K hgd hK
  try simp (disch:=first|omega|assumption|rfl) only[go_sem,s3,s6,s8,hi0,hi1,hxi,g]
  refine zbm (P:=Tryz.prog) (l:=cs) (by rw[hc7];rfl) hcs.ones (by rw[hc7];rfl) rfl ?_
  intro v1 hEv1 hsv1 hBv
  try simp only[go_sem]
  refine hK _ _ ?_;clear hK hgd;clear K;try clear gd
  have q:=zal (n:=7) hBv hc7.symm
  have hWv:=(hW.ext hE).ext hEv1
  refine go trivial ?_
  refine rc q (zkC hWv (hcs.ext (hE.trans hEv1)) hrT) ?_
  rintro _ v2 ⟨rfl,hE2⟩
  have l1:(recT r).length+([10]:Lab).length≤9223372036854775807:=by simp;omega
  have hB2:=(hB.ext' hEv1).ext' hE2
  have hs2:=hE2.size
  refine rd (an2 s3 l1) (zaU (s:=recT r++ [10]) hB2 (by have:=hEv1.size;omega) (by rw[List.length_append,show([10]:Lab).length=1 from rfl];omega)) ?_
  rintro _ v3 ⟨hB3,hk3⟩
  have hs3:=hk3.size
  have hsx:=hEv1.size
  refine rgo (an5 s3 s6 s7 s8 hi2) ?_
  refine⟨rfl,(vq1 s3),(vq1 s6),(vq1 s7),(vq1 hi2),Keep.to_ext ((hE.trans hEv1).trans hE2) rfl (fun b hb=>by omega) hk3,by omega,?_⟩
  rw[zak hi,hr]
  unfold zgC at*
  rw[List.flatMap_append,List.flatMap_singleton]
  exact hB3
 ·rintro σ v p ⟨s3,s6,s7,s8,hE,hsv,hB⟩
  rw[List.take_length]at hB
  have hll:=zib hT
  have hmul:400000001*R.length≤400000001*100:=Nat.mul_le_mul_left _ hl
  refine go (an4 s6 s7 s8 p) ?_
  refine rc s3 (zcL hB (by omega)) ?_
  rintro _ v1 ⟨rfl,hk1⟩
  refine rgo trivial ?_
  refine rt0 Tryz.ntmps15 ?_
  exact⟨rfl,Keep.to_ext hE rfl (fun b hb=>by omega) hk1⟩
def zbe(n o:Nm):Lab:=if zaB n=zaB o then [64] else if zgp n o=true then zaM [46] ((n.take (n.length - o.length)).map zau) else zaV n
def NmT(n:Nm):Prop:=(∀l∈n,l.length≤1000)∧n.length≤1000
theorem NmT.lb{n:Nm}(h:NmT n):LB n:=fun l hl=>by have:=h.1 l hl;omega
theorem zhA{w:World}{nv ov:Value}{n o:Nm}(hn:Row w nv (n.map vs))(ho:Row w ov (o.map vs))(hnT:NmT n)(hoT:NmT o):Fn Tryz.prog 14 #[nv,ov] w (fun u w'=>u=vs (zbe n o)∧Ext w w'):=by
 have hn2:=hnT.2
 have ho2:=hoT.2
 refine enter Tryz.func14 Tryz.ntmps14 rfl rfl ?_
 refine go trivial ?_
 refine rc trivial (znj w nv ov n o hn ho hnT.lb hoT.lb (by omega) (by omega)) ?_
 rintro _ w1 ⟨rfl,hE1⟩
 unfold zbe
 by_cases hs:zaB n=zaB o
 ·rw[if_pos hs]
  refine rgo (decide_eq_true hs) ?_
  refine rt0 Tryz.ntmps14 ?_
  exact⟨rfl,hE1⟩
 rw[if_neg hs]
 refine rgo (decide_eq_false hs) ?_
 refine rc trivial (Under_ok w1 nv ov n o (hn.ext hE1) (ho.ext hE1) hnT.lb hoT.lb (by omega) (by omega)) ?_
 rintro _ w2 ⟨rfl,hE2⟩
 have hE12:=hE1.trans hE2
 cases hu:zgp n o with
 |false=>
  rw[if_neg (by decide)]
  refine rgo hu ?_
  refine rc trivial (zfw w2 nv n (hn.ext hE12) (fun l hl=>by have:=hnT.1 l hl;omega) hnT.2) ?_
  rintro _ w3 ⟨rfl,hE3⟩
  refine rgo trivial ?_
  refine rt0 Tryz.ntmps14 ?_
  exact⟨rfl,hE12.trans hE3⟩
 |true=>
 have hol:o.length≤n.length:=by
  have h:=hu
  unfold zgp at h
  simp only[Bool.and_eq_true,decide_eq_true_eq]at h
  exact h.1
 rw[if_pos rfl]
 obtain⟨an,cn,rfl,hcn,hgn⟩:=hn
 obtain⟨ao,co,rfl,hco,hgo⟩:=ho
 rw[List.length_map]at hcn hco
 rw[show (n.map vs).length=n.length from List.length_map ..,show(o.map vs).length=o.length from List.length_map ..]
 obtain⟨M,hM⟩:∃M,n.length - o.length=M:=⟨_,rfl⟩
 have e1:(n.length:Int) - (o.length:Int)=(M:Int):=by omega
 have z1:(0:Int)≤(M:Int):=by omega
 have l1:(M:Int)≤(cn:Int):=by omega
 have hite:(if cn=0 then an else an)=an:=ite_self _
 refine rgo (an7 hu e1 z1 l1 (zam an) hite (an2 (Nat.sub_zero M) (Nat.sub_zero cn))) ?_
 have hMn:M≤n.length:=by omega
 have hgx:∀i (hi:i<M),zad w2 (adr an i)=some (vs ((n.take M)[i]'(by rw[List.length_take];omega))):=fun i hi=>by
  have h1:=zab hE12 (hgn i (by rw[List.length_map];omega))
  rw[List.getElem_map]at h1
  rw[List.getElem_take];exact h1
 have htl:(n.take M).length=M:=by rw[List.length_take];omega
 obtain⟨N,hN⟩:∃N,n.take M=N:=⟨_,rfl⟩
 have hNT:∀l∈N,l.length≤1000:=fun l hl=>hnT.1 l (List.mem_of_mem_take (hN▸hl))
 simp only[hN]at hgx htl
 refine zbq M (fun i σ v=>σ 25= .slice an M cn∧σ 26=vi M∧σ 27=vi i∧(∃sv,σ 5=sv∧Own w2.heap.size v 9 sv (((N.take i).map zau).map vs))∧Ext w2 v) ?_ ?_ ?_
 ·exact⟨vr0,vr0,vr0,⟨_,vr0,Own.nil _ _ _⟩,Keep.refl _ _⟩
 ·rintro i σ v hi p ⟨s25,s26,s27,⟨sv,s5,hown⟩,hE⟩
  have hiN:i<N.length:=by omega
  have g:=zab hE (hgx i hi)
  obtain⟨l,hl⟩:∃l,N[i]=l:=⟨_,rfl⟩
  rw[hl]at g
  have hlT:=hNT l (hl▸List.getElem_mem hiN)
  obtain⟨xa,rfl⟩:=Option.isSome_iff_exists.1 (zai g)
  have hi0:(0:Int)≤(i:Int):=by omega
  have hi1:(i:Int)<(M:Int):=by omega
  have hi2:(i:Int)+1=((i+1:Nat):Int):=by push_cast;rfl
  have hsv:=hE.size
  refine go (an7 s25 s26 s27 s5 p g (an2 hi0 hi1)) ?_
  refine rq ?_;intro gd K hgd hK
  try simp (disch:=first|omega|assumption|rfl) only[go_sem,s5]
  refine Fn.mono (zkm v l (by omega)) ?_
  rintro _ y0 ⟨rfl,hy0⟩
  try simp (disch:=first|omega|assumption|rfl) only[go_sem,s5]
  refine zbk (z:=vs []) rfl rfl rfl rfl rfl ?_
  intro y1 hy1 hys1 hyo
  try simp (disch:=first|omega|assumption|rfl) only[go_sem,s5]
  have hsy0:=hy0.size
  have hxy1:=hy0.trans hy1
  refine za8 (e:=9) (hown.ext hxy1) hyo.row rfl rfl rfl rfl rfl rfl ((vr1 s5)) (vr0) (fun q hq=>by simp at hq;subst hq;rfl) (by simp;omega) (by decide) (by omega) ?_
  intro sv' y2 hown2 hX2 hK2 hb2
  try simp only[go_sem]
  refine hK _ _ ?_;clear hK hgd;clear K;try clear gd
  refine go (an5 s25 s26 s27 hi2 s5) ?_
  refine⟨rfl,(vq1 s25),(vq1 s26),(vq1 hi2),⟨sv',vr0,?_⟩,hX2 w2 (hE.trans hxy1) (Nat.le_refl _)⟩
  rw[show ((N.take (i+1)).map zau).map vs=((N.take i).map zau).map vs++ [vs (zau l)] by rw[zak hiN,hl];simp]
  exact hown2
 ·rintro σ v p ⟨s25,s26,s27,⟨sv,s5,hown⟩,hE⟩
  rw[←htl,List.take_length]at hown
  refine go (an5 s25 s26 s27 p s5) ?_
  have hln:zaG (N.map zau)≤4000*N.length:=zbj fun l hl=>by
   have h1:=zb0 l
   have h2:=hNT l hl
   omega
  have h4:4000*N.length≤4000*1000:=Nat.mul_le_mul_left _ (by omega)
  refine rc s5 (zeZ (sep:=[46]) hown.row (by rw[List.length_map];omega) (by decide) (by decide) (by omega)) ?_
  rintro _ v1 ⟨rfl,hE3⟩
  refine rgo trivial ?_
  refine rt0 Tryz.ntmps14 ?_
  rw[hM,hN]
  exact⟨rfl,(hE12.trans hE).trans hE3⟩
def digN(s:Lab):Nat:=((s.take 3).takeWhile digB).length
def escV(s:Lab):Nat:=match s with
 |a::b::c::_=>100*(a.toNat - 48)+10*(b.toNat - 48)+(c.toNat - 48)
 |_=>0
def escD(s:Lab):UInt8×Nat×Int:=if digN s=0 then(match s with
  | []=>(0,0,2)
  |c::_=>(c,1,0)) else if digN s=3 then(if 255<escV s then(0,0,7) else(UInt8.ofNat (escV s),3,0)) else(0,0,2)
def unD(bare:Lab):Nat→Lab→Lab→Lab×Int
 |_,[],acc=>(acc,0)
 |k+1,_::s,acc=>unD bare k s acc
 |0,c::s,acc=>if c=92 then(if (escD s).2.2=0 then unD bare (escD s).2.1 s (acc++ [(escD s).1]) else([],(escD s).2.2)) else if bare.contains c=true then([],2) else unD bare 0 s (acc++ [c])
def splD:Bool→Lab→Lab→List Lab×Bool
 |t,cur,[]=>([cur],t)
 |true,cur,c::s=>splD false (cur++ [c]) s
 |false,cur,c::s=>if c=92 then splD true (cur++ [c]) s else if c=46 then(cur::(splD false [] s).1,(splD false [] s).2) else splD false (cur++ [c]) s
def errP(p:Lab):Int:=if (unD [46] 0 p []).2=0 then errL (unD [46] 0 p []).1 else(unD [46] 0 p []).2
def labD(p:Lab):Lab×Int:=if errP p=0 then((unD [46] 0 p []).1,0) else([],errP p)
def zcf:Bool→List Lab→Nm→Nm×Bool×Int
 |_,[],out=>(out,false,0)
 |f,p::l,out=>if p=[]∧f=false∧l=[] then(out,true,0) else if (labD p).2=0 then zcf false l (out++ [(labD p).1]) else([],false,(labD p).2)
def zbz(s:Lab):Nm×Bool×Int:=if (splD false [] s).2=true then([],false,2) else zcf true (splD false [] s).1 []
def za6(s:Lab)(o:Nm):Nm×Int:=
 if s=[64] then(o,0) else if s=[46] then([],0) else if s=[] then([],8) else
 if (zbz s).2.2=0 then(if zaL ((zbz s).1++if (zbz s).2.1=true then [] else o)=0 then((zbz s).1++(if (zbz s).2.1=true then [] else o),0) else([],zaL ((zbz s).1++if (zbz s).2.1=true then [] else o))) else([],(zbz s).2.2)
theorem zgK{k:Nat}(h:k<10):(UInt8.ofNat (48+k)).toNat=48+k:=by
 rw[UInt8.toNat_ofNat_of_lt' (by simp[UInt8.size];omega)]
theorem zfX{k:Nat}(h:k<10):digB (UInt8.ofNat (48+k))=true:=by
 unfold digB;rw[zgK h];simp;omega
theorem zmN(c:UInt8)(r:Lab):escD ((escB c).tail++r)=(c,3,0):=by
 have hc:c.toNat<256:=c.toNat_lt
 have h1:=zgK (k:=c.toNat / 100) (by omega)
 have h2:=zgK (k:=c.toNat / 10 % 10) (by omega)
 have h3:=zgK (k:=c.toNat % 10) (by omega)
 have hd:digN ((escB c).tail++r)=3:=by
  unfold digN escB
  simp only[List.tail_cons,List.cons_append,List.nil_append,List.take_succ_cons,List.take_zero]
  rw[List.takeWhile_cons_of_pos (zfX (by omega)),List.takeWhile_cons_of_pos (zfX (by omega)),List.takeWhile_cons_of_pos (zfX (by omega))]
  rfl
 have hv:escV ((escB c).tail++r)=c.toNat:=by
  unfold escV escB
  simp only[List.tail_cons,List.cons_append,List.nil_append,h1,h2,h3]
  omega
 unfold escD
 rw[hd,if_neg (by decide),if_pos rfl,hv,if_neg (by omega)]
 simp
theorem zir{c:UInt8}(h:digB c=false)(r:Lab):escD (c::r)=(c,1,0):=by
 have hd:digN (c::r)=0:=by
  unfold digN
  rw[List.take_succ_cons,List.takeWhile_cons_of_neg (by rw[h];decide)]
  rfl
 unfold escD
 rw[hd,if_pos rfl]
theorem zmj{c:UInt8}(h:marksL.contains c=true):digB c=false:=by
 have:∀c∈marksL,digB c=false:=by decide
 exact this c (List.contains_iff_mem.1 h)
theorem un_lab(bare:Lab)(hb:∀c∈bare,c∈marksL)(c:UInt8)(r acc:Lab):unD bare 0 (labB c++r) acc=unD bare 0 r (acc++ [c]):=by
 unfold labB
 by_cases h1:c.toNat≤32∨127≤c.toNat
 ·rw[if_pos h1]
  have he:=zmN c r
  have e:escB c++r=92::((escB c).tail++r):=rfl
  rw[e,unD,if_pos rfl,he]
  simp only[if_true]
  have e2:(escB c).tail++r=UInt8.ofNat (48+c.toNat / 100)::UInt8.ofNat (48+c.toNat / 10 % 10)::UInt8.ofNat (48+c.toNat % 10)::r:=rfl
  rw[e2,unD,unD,unD]
 ·rw[if_neg h1]
  by_cases h2:marksL.contains c=true
  ·rw[if_pos h2]
   show unD bare 0 (92::(c::r)) acc=_
   rw[unD,if_pos rfl,zir (zmj h2)]
   simp only[if_true]
   rw[unD]
  ·rw[if_neg h2]
   have h92:¬c=92:=fun e=>h2 (by rw[e];decide)
   have hbc:¬bare.contains c=true:=fun e=>h2 (List.contains_iff_mem.2 (hb c (List.contains_iff_mem.1 e)))
   show unD bare 0 (c::r) acc=_
   rw[unD,if_neg h92,if_neg hbc]
theorem zlv(bare:Lab)(hb:∀c∈bare,c∈marksL):∀(l acc:Lab),unD bare 0 (zau l) acc=(acc++l,0)
 | [],acc=>by unfold zau unD;simp
 |c::l,acc=>by
  have e:zau (c::l)=labB c++zau l:=by unfold zau;rw[List.flatMap_cons]
  rw[e,un_lab bare hb,zlv bare hb l]
  simp
theorem spl_lab(c:UInt8)(cur r:Lab):splD false cur (labB c++r)=splD false (cur++labB c) r:=by
 unfold labB
 by_cases h1:c.toNat≤32∨127≤c.toNat
 ·rw[if_pos h1]
  have n1:=zgK (k:=c.toNat / 10 % 10) (by omega)
  have n2:=zgK (k:=c.toNat % 10) (by omega)
  have m1:¬UInt8.ofNat (48+c.toNat / 10 % 10)=92:=fun e=>by rw[e]at n1;simp at n1;omega
  have m2:¬UInt8.ofNat (48+c.toNat / 10 % 10)=46:=fun e=>by rw[e]at n1;simp at n1;omega
  have m3:¬UInt8.ofNat (48+c.toNat % 10)=92:=fun e=>by rw[e]at n2;simp at n2;omega
  have m4:¬UInt8.ofNat (48+c.toNat % 10)=46:=fun e=>by rw[e]at n2;simp at n2;omega
  unfold escB
  simp only[List.cons_append,List.nil_append,splD,if_true,m1,m2,m3,m4,if_false,List.append_assoc]
 ·rw[if_neg h1]
  by_cases h2:marksL.contains c=true
  ·rw[if_pos h2]
   simp only[List.cons_append,List.nil_append,splD,if_true,List.append_assoc]
  ·rw[if_neg h2]
   have m1:¬c=92:=fun e=>h2 (by rw[e];decide)
   have m2:¬c=46:=fun e=>h2 (by rw[e];decide)
   simp only[List.cons_append,List.nil_append,splD,m1,m2,if_false]
theorem zfj:∀(l cur r:Lab),splD false cur (zau l++r)=splD false (cur++zau l) r
 | [],cur,r=>by unfold zau;simp
 |c::l,cur,r=>by
  have e:zau (c::l)=labB c++zau l:=by unfold zau;rw[List.flatMap_cons]
  rw[e,List.append_assoc,spl_lab,zfj l,List.append_assoc]
theorem zg0:∀(n:Nm),splD false [] (n.flatMap fun l=>zau l++ [46])=(n.map zau++ [[]],false)
 | []=>rfl
 |l::n=>by
  rw[List.flatMap_cons,List.append_assoc,zfj]
  show splD false ([]++zau l) (46::n.flatMap fun l=>zau l++ [46])=_
  unfold splD
  rw[if_neg (by decide),if_pos rfl,zg0 n]
  simp
theorem spl_join(l:Lab):∀(n:Nm),splD false [] (zaM [46] ((l::n).map zau))=((l::n).map zau,false):=fun n=>by
 have:∀(n:Nm) (cur:Lab),splD false cur ((n.map zau).flatMap fun y=>[46]++y)=(cur::n.map zau,false):=fun n=>by
  induction n with
  |nil=>intro cur;rfl
  |cons m n ih=>
   intro cur
   rw[List.map_cons,List.flatMap_cons]
   show splD false cur (46::(zau m++_))=_
   unfold splD
   rw[if_neg (by decide),if_pos rfl,zfj,ih]
   simp
 show splD false [] (zau l++_)=_
 rw[zfj,this]
 simp
theorem zjT{l:Lab}(h:errL l=0):labD (zau l)=(l,0):=by
 have hu:=zlv [46] (by decide) l []
 rw[List.nil_append]at hu
 unfold labD errP
 rw[hu]
 simp[h]
theorem zhK{l:Lab}(h:zau l=[]):l=[]:=by
 cases l with
 |nil=>rfl
 |cons c l=>
  have e:zau (c::l)=labB c++zau l:=by unfold zau;rw[List.flatMap_cons]
  rw[e]at h
  have h1:labB c=[]:=(List.append_eq_nil_iff.1 h).1
  unfold labB escB at h1
  split at h1
  ·cases h1
  ·split at h1<;>cases h1
theorem zhZ:∀(n:Nm) (out:Nm) (f:Bool),(∀l∈n,errL l=0)→zcf f (n.map zau) out=(out++n,false,0)
 | [],out,f,_=>by simp[zcf]
 |l::n,out,f,h=>by
  have hl:=h l (List.mem_cons_self ..)
  rw[List.map_cons,zcf,if_neg,zjT hl]
  ·simp only[if_true]
   rw[zhZ n _ _ (fun x hx=>h x (List.mem_cons_of_mem _ hx))]
   simp
  ·rintro⟨h1,_⟩
   rw[zhK h1]at hl
   unfold errL at hl;simp at hl
theorem zeM:∀(n:Nm) (out:Nm) (f:Bool),(∀l∈n,errL l=0)→(n=[]→f=false)→zcf f (n.map zau++ [[]]) out=(out++n,true,0)
 | [],out,f,_,hf=>by
  rw[hf rfl]
  show zcf false [[]] out=_
  unfold zcf
  rw[if_pos ⟨rfl,rfl,rfl⟩]
  simp
 |l::n,out,f,h,_=>by
  have hl:=h l (List.mem_cons_self ..)
  rw[List.map_cons,List.cons_append,zcf,if_neg,zjT hl]
  ·simp only[if_true]
   rw[zeM n _ _ (fun x hx=>h x (List.mem_cons_of_mem _ hx)) (fun _=>rfl)]
   simp
  ·rintro⟨h1,_⟩
   rw[zhK h1]at hl
   unfold errL at hl;simp at hl
theorem zci{n:Nm}(h:zaL n=0):(∀l∈n,errL l=0)∧lenN n≤255:=by
 unfold zaL at h
 split at h
 ·rename_i l hl
  have:=List.find?_some hl
  simp at this
  exact absurd h this
 ·rename_i hl
  rw[List.find?_eq_none]at hl
  refine⟨fun l hm=>by have:=hl l hm;simpa using this,?_⟩
  split at h
  ·cases h
  ·omega
theorem zm2{n:Nm}(h1:∀l∈n,errL l=0)(h2:lenN n≤255):zaL n=0:=by
 unfold zaL
 have:n.find? (fun l=>decide (errL l≠0))=Option.none:=by
  rw[List.find?_eq_none]
  intro l hl
  simp[h1 l hl]
 rw[this]
 simp only
 rw[if_neg (by omega)]
theorem zmo{a b:Nm}(h:zaB a=zaB b):lenN a=lenN b:=by
 unfold lenN
 have e:∀n:Nm,(n.map fun l=>1+l.length)=(zaB n).map fun l=>1+l.length:=fun n=>by
  unfold zaB
  rw[List.map_map]
  refine List.map_congr_left fun l _=>?_
  simp[zaI]
 rw[e a,e b,h]
theorem zmv(c:UInt8):∃d r,labB c=d::r∧d≠46∧d≠64:=by
 unfold labB
 split
 ·exact⟨92,_,rfl,by decide,by decide⟩
 ·split
  ·exact⟨92,_,rfl,by decide,by decide⟩
  ·rename_i h
   exact⟨c,[],rfl,fun e=>h (by rw[e];decide),fun e=>h (by rw[e];decide)⟩
theorem zeb{l:Lab}(h:l≠ [])(r:Lab):¬zau l++r=[64]∧¬zau l++r=[46]∧¬zau l++r=[]:=by
 cases l with
 |nil=>exact absurd rfl h
 |cons c l=>
  have e:zau (c::l)=labB c++zau l:=by unfold zau;rw[List.flatMap_cons]
  obtain⟨d,q,hq,h1,h2⟩:=zmv c
  rw[e,hq]
  refine⟨fun e=>?_,fun e=>?_,fun e=>?_⟩
  ·simp only[List.cons_append,List.cons.injEq]at e;exact h2 e.1
  ·simp only[List.cons_append,List.cons.injEq]at e;exact h1 e.1
  ·cases e
theorem zhp{l:Lab}(h:errL l=0):l≠ []:=fun e=>by rw[e]at h;unfold errL at h;simp at h
theorem zky{n o:Nm}(hn:zaL n=0)(ho:zaL o=0):(za6 (zbe n o) o).2=0∧zaB (za6 (zbe n o) o).1=zaB n:=by
 obtain⟨n1,n2⟩:=zci hn
 obtain⟨o1,_⟩:=zci ho
 unfold zbe
 by_cases h1:zaB n=zaB o
 ·rw[if_pos h1]
  unfold za6
  rw[if_pos rfl]
  exact⟨rfl,h1.symm⟩
 rw[if_neg h1]
 by_cases h2:zgp n o=true
 ·rw[if_pos h2]
  unfold zgp at h2
  simp only[Bool.and_eq_true,decide_eq_true_eq]at h2
  obtain⟨g1,g2⟩:=h2
  obtain⟨t,ht⟩:∃t,n.take (n.length - o.length)=t:=⟨_,rfl⟩
  have hnt:n=t++n.drop (n.length - o.length):=by rw[←ht,List.take_append_drop]
  have hft:zaB (t++o)=zaB n:=by
   rw[show zaB n=zaB (t++n.drop (n.length - o.length)) by rw[←hnt]]
   unfold zaB at g2 ⊢
   rw[List.map_append,List.map_append,g2]
  have tl:∀l∈t,errL l=0:=fun l hl=>n1 l (List.mem_of_mem_take (ht▸hl))
  rw[ht]
  cases t with
  |nil=>exact absurd hft.symm h1
  |cons l t=>
   have hl:=zhp (tl l (List.mem_cons_self ..))
   obtain⟨k1,k2,k3⟩:=zeb hl ((t.map zau).flatMap fun y=>[46]++y)
   have hs:zaM [46] ((l::t).map zau)=zau l++(t.map zau).flatMap fun y=>[46]++y:=rfl
   have hsp:=spl_join l t
   have hp:zbz (zaM [46] ((l::t).map zau))=(l::t,false,0):=by
    unfold zbz
    rw[hsp]
    simp only[Bool.false_eq_true,if_false]
    rw[zhZ _ _ _ tl];rfl
   have hck:zaL (l::t++o)=0:=zm2 (fun x hx=>by
    rcases List.mem_append.1 hx with hx|hx
    ·exact tl x hx
    ·exact o1 x hx) (by rw[zmo hft];exact n2)
   unfold za6
   rw[if_neg (by rw[hs];exact k1),if_neg (by rw[hs];exact k2),if_neg (by rw[hs];exact k3),hp]
   simp only[if_true,Bool.false_eq_true,if_false]
   rw[if_pos hck]
   exact⟨rfl,hft⟩
 ·rw[if_neg h2]
  unfold zaV
  cases n with
  |nil=>rw[if_pos rfl];unfold za6;rw[if_neg (by decide),if_pos rfl];exact⟨rfl,rfl⟩
  |cons l t=>
   rw[if_neg (by simp)]
   have hl:=zhp (n1 l (List.mem_cons_self ..))
   have hs:((l::t).flatMap fun l=>zau l++ [46])=zau l++([46]++t.flatMap fun l=>zau l++ [46]):=by rw[List.flatMap_cons,List.append_assoc]
   obtain⟨k1,k2,k3⟩:=zeb hl ([46]++t.flatMap fun l=>zau l++ [46])
   have hp:zbz ((l::t).flatMap fun l=>zau l++ [46])=(l::t,true,0):=by
    unfold zbz
    rw[zg0]
    simp only[Bool.false_eq_true,if_false]
    rw[zeM _ _ _ n1 (by simp)];rfl
   unfold za6
   rw[if_neg (by rw[hs];exact k1),if_neg (by rw[hs];exact k2),if_neg (by rw[hs];exact k3),hp]
   simp only[if_true,List.append_nil]
   rw[if_pos hn]
   exact⟨rfl,rfl⟩
end Go.Proofs.YtkpdfhbpdkifoaaGreatDoor
