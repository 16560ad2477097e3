/-
  Texts of a proof, joined: GI, GJ, GK, GL, GM, GN, GO, GP, HE, L2, B1, HF, HG, HB, HH, GQ, GR, GS, GT, GU, GX, HI.
  Conditions: none.
-/
import Derived.Test.YtihbdhjibplldaaGreatDoorQLM03
import Derived.Test.YtihbdhjibplldaaGreatDoorQLM02
import Derived.Lib.AppendIntMem
import Derived.Test.YtihbdhjibplldaaGreatDoorProg
import Derived.Shelf.Small.Strs
import Derived.Shelf.Strings.Builder1
set_option linter.unusedVariables false
set_option linter.unusedSimpArgs false
set_option linter.defProp false
set_option linter.unnecessarySimpa false
set_option maxHeartbeats 8000000
namespace Go.Proofs.YtihbdhjibplldaaGreatDoor
open Go
set_option maxRecDepth 10000
section
variable {P : Program} {d : Option Tmp} {ty : TypeId} {ps : String} {af : Array Edge} {g : Option (Nat × Bool)} {ρ : Operand → Value} {w : World} {K : Value → World → Prop}
theorem zd5{x y:Operand}{ts:Array TypeId}{a b:Int}{k:IntKind}(hx:ρ x= .int k a)(hy:ρ y= .int k b)(h:K (.int k (max a b)) w):
  opW P ⟨d,.call ⟨.builtin .max,#[x,y],ts⟩,ty,ps,af,g⟩ ρ w K:=by
 have hr:(Builtin.max_ ts ty #[.int k a,.int k b]).run P w= .ok (.int k (max a b)) w:=by
  have h:=run_max_int2 (P:=P) w ts ty k k a b
  rw[h]
  congr 2
  rw[Int.max_def]
  split<;>split<;>omega
 simp only[opW,execOp,Sem.run_bind,resolve]
 simp only[Sem.run_pure,Result.andThen_ok,invoke,builtin]
 exact zaw (s:=Builtin.max_ ts ty (Array.map ρ #[x,y])) (by simpa [hx,hy] using hr) h
end
def wst(X:List Lab):Int:=X.foldl (fun m x=>max m (decP zar x).2) 0
theorem wst_app(X:List Lab)(x:Lab):wst (X++ [x])=max (wst X) (decP zar x).2:=by
 unfold wst;rw[List.foldl_append];rfl
theorem zcB(m:Nat)(s:Lab):(decP m s).2=0∨(decP m s).2=2∨(decP m s).2=7:=by
 unfold decP
 split
 ·split<;>simp
 ·simp
theorem bdR(x y z:Int):bdV Tryz.prog 187 [(0,vi x),(1,vi y),(2,vi z)]=some (.agg #[vi x,vi y,vi z]):=by kernel_rfl
theorem ones3(x y z:Int):∀v∈ [vi x,vi y,vi z],one v=true:=fun v h=>by
 simp at h
 rcases h with rfl|rfl|rfl<;>rfl
theorem zbS(m:Nat)(s:Lab):(decP m s).1≤m:=by
 unfold decP
 split
 ·split<;>simp_all
 ·simp
theorem Parse_ok{w:World}(hW:WX w)(s:Lab)(hs:s.length≤1000000):
  Fn Tryz.prog 124 #[vs s] w (fun v w'=>v= .tuple #[.agg #[vi (zbc s).1.1,vi (zbc s).1.2.1,vi (zbc s).1.2.2],vi (zbc s).2]∧Ext w w'):=by
 refine enter Tryz.func124 Tryz.ntmps124 rfl rfl ?_
 refine go trivial ?_
 refine zam ?_
 intro w1 hE1 hs1 hA
 obtain⟨l1,l2⟩:=zdR 47 s
 refine rc trivial (zhH (hW.ext hE1) s 47 (by omega)) ?_
 rintro _ w2 ⟨rfl,hE2⟩
 obtain⟨a,st,so,hx⟩:∃a st b,cutB 47 s=(a,st,b):=⟨(cutB 47 s).1,(cutB 47 s).2.1,(cutB 47 s).2.2,rfl⟩
 rw[hx]at l1 l2
 simp only at l1 l2
 simp only[hx]
 obtain⟨m1,m2⟩:=zdR 45 a
 refine rgo trivial ?_
 refine rc trivial (zhH ((hW.ext hE1).ext hE2) a 45 (by omega)) ?_
 rintro _ w3 ⟨rfl,hE3⟩
 obtain⟨f,t,ok,hy⟩:∃f t b,cutB 45 a=(f,t,b):=⟨(cutB 45 a).1,(cutB 45 a).2.1,(cutB 45 a).2.2,rfl⟩
 rw[hy]at m1 m2
 simp only at m1 m2
 simp only[hy]
 refine rgo trivial ?_
 have hE13:Ext w w3:=(hE1.trans hE2).trans hE3
 have hB0:w3.heap[w.heap.size]? =some (.cells #[vi 0,vi 0,vi 0] 187 (0,0)):=hE3.at (hE2.at hA)
 have hlt0:=(Array.getElem?_eq_some_iff.1 hB0).1
 obtain⟨u,hu⟩:∃u,(if so=true then st else [49])=u:=⟨_,rfl⟩
 have hul:u.length≤1000000:=by
  rw[←hu]
  split
  ·omega
  ·simp
 refine zav (Q:=fun e σ ds v=>e= .normal∧ds=[]∧σ 2= .pointer (some ⟨w.heap.size,0,Option.none⟩)∧σ 5=vs u∧σ 7=vs f∧σ 8=vs t∧σ 9= .bool ok∧w3=v) ?_ ?_
 ·cases so with
  |true=>
   refine go trivial ?_
   rw[←hu]
   exact⟨rfl,rfl,vr0,vr0,vr0,vr0,vr0,rfl⟩
  |false=>
   refine go trivial ?_
   rw[←hu]
   exact⟨rfl,rfl,vr0,vr0,vr0,vr0,vr0,rfl⟩
 rintro _ σ _ _ ⟨rfl,rfl,s2,s5,s7,s8,s9,rfl⟩
 have hR:zbc s=(if ok=false then((0,0,0),2)
   else if (decP zar f).2=2∨(decP zar t).2=2∨(decP zar u).2=2 then((0,0,0),2)
   else if (decP zar f).2=7∨(decP zar t).2=7∨(decP zar u).2=7 then((0,0,0),7)
   else if (decP zar f).1≤(decP zar t).1∧1≤(decP zar u).1 then(((decP zar f).1,(decP zar t).1,(decP zar u).1),0) else((0,0,0),1)):=by
  unfold zbc
  simp only[hx,hy]
  rw[hu]
 have zero:∀(σ:Sto) (v:World) (z:Int) (e:Int),zbc s=((0,0,0),e)→Ext w v→v.heap[w.heap.size]? =some (.cells #[vi 0,vi 0,vi 0] 187 (0,0))→σ 2= .pointer (some ⟨w.heap.size,0,Option.none⟩)→σ 3=vi e→ 
   retQ Tryz.prog Tryz.f124 (fun v w'=>v= .tuple #[.agg #[vi (zbc s).1.1,vi (zbc s).1.2.1,vi (zbc s).1.2.2],vi (zbc s).2]∧Ext w w') .ret σ [] v:=fun σ v z e hr hE hB h2 h3=>by
  refine zaf (.inr rfl) Tryz.ntmps124 rfl (zaL (k:=3) (cs:=[vi 0,vi 0,vi 0]) ((vq1 h2)) rfl rfl (zai (l:=[vi 0,vi 0,vi 0]) hB rfl) (zac (v:=vi e) ((vq1 h3)) zae)) ?_
  rw[hr]
  exact⟨rfl,hE⟩
 cases ok with
 |false=>
  refine go (an2 s9 s2) ?_
  refine rq ?_;intro gd K hgd hK
  try simp (disch:=first|omega|assumption|rfl) only[go_sem,s2]
  refine⟨by kernel_rfl,?_⟩
  rw[show bdV Tryz.prog 187 []=some (.agg #[vi 0,vi 0,vi 0]) from rfl]
  try simp (disch:=first|omega|assumption|rfl) only[go_sem,s2]
  refine zaK (P:=Tryz.prog) (l:=[vi 0,vi 0,vi 0]) hB0 rfl (fun q hq=>by simp at hq;subst hq;rfl) rfl rfl ?_
  intro w4 hs4 hB4 hk4
  try simp only[go_sem]
  refine hK _ _ ?_;clear hK hgd;clear K;try clear gd
  repeat (with_reducible first|refine zeS ?_|refine zic ?_|refine zeT ?_|refine zaE ?_|refine zbU ?_|refine zcd ?_|refine zbn ?_|refine zb1 ?_|refine zbt ?_|refine zbf rfl ?_)
  exact zero _ w4 0 2 (by rw[hR];rfl) (Keep.to_ext hE13 rfl (fun b (hb:b=w.heap.size)=>by omega) hk4) hB4 ((vq1 s2)) (vr0)
 |true=>
 refine go (an5 s9 s2 s5 s7 s8) ?_
 refine zam ?_
 intro w4 hE4 hs4 hB1
 refine rq ?_;intro gd K hgd hK
 try simp (disch:=first|omega|assumption|rfl) only[go_sem,s5,s7,s8]
 refine zft (z:=vs []) (l:=[vs f,vs t,vs u]) rfl rfl rfl rfl rfl rfl (fun v hv=>by simp at hv;rcases hv with rfl|rfl|rfl<;>rfl) (by simp) ?_
 intro w5 hE5 hs5 hown
 try simp only[go_sem]
 refine hK _ _ ?_;clear hK hgd;clear K;try clear gd
 obtain⟨B,hB⟩:∃B,w3.heap.size=B:=⟨_,rfl⟩
 rw[hs4,hB]
 rw[hs4]at hs5 hown
 rw[hB]at hs5 hown hB1
 rw[hB]at hlt0
 have hE15:Ext w w5:=(hE13.trans hE4).trans hE5
 have hB05:=hE5.at (hE4.at hB0)
 have hB15:=hE5.at hB1
 obtain⟨X,hX⟩:∃X,[f,t,u]=X:=⟨_,rfl⟩
 have hXl:X.length=3:=by rw[←hX];rfl
 have hXs:∀x∈X,x.length≤1000000:=by
  rw[←hX];intro x hx
  simp at hx
  rcases hx with rfl|rfl|rfl<;>omega
 have hrow:Row w5 (.slice (some ⟨B+1,0,Option.none⟩) 3 3) (X.map vs):=by rw[←hX];exact hown.row
 clear hown
 refine go trivial ?_
 refine zbq 3 (fun i σ v=>σ 2= .pointer (some ⟨w.heap.size,0,Option.none⟩)∧σ 10= .pointer (some ⟨B,0,Option.none⟩)∧σ 37= .slice (some ⟨B+1,0,Option.none⟩) 3 3∧σ 38=vi 3∧σ 39=vi i∧σ 11=vi (wst (X.take i))∧
  (∃cs:List Value,v.heap[B]? =some (.cells cs.toArray 214 (0,0))∧cs.length=3∧∀j,j<i→∀(h:j<X.length),cs[j]? =some (vi (decP zar X[j]).1))∧(∀x∈X.take i,(decP zar x).2≠2)∧KeepB (B+2) (fun b=>b=B) w5 v) ?_ ?_ ?_
 ·exact⟨(vq1 s2),vr0,vr0,vr0,vr0,vr0,⟨[vi 0,vi 0,vi 0],hB15,rfl,fun j h=>absurd h (by omega)⟩,fun x h=>absurd h (by simp),KeepB.refl _ _ _⟩
 ·rintro i σ v hi p ⟨r2,r10,r37,r38,r39,r11,⟨cs,hcs,hcl,hcv⟩,hno,hk⟩
  have hiX:i<X.length:=by omega
  have hEv:Ext w v:=⟨hk.os.trans hE15.os,hk.tape.trans hE15.tape,hk.output.trans hE15.output,Nat.le_trans hE15.size hk.size,fun b hb hn=>(hk.block b (by omega) (by omega)).trans (hE15.block b hb hn),Nat.le_trans hE15.drawn hk.drawn⟩
  have d1:decide ((i:Int)<3)=true:=decide_eq_true (by omega)
  have hcell:zad v (some ⟨B+1,i,Option.none⟩)=some (vs X[i]):=by
   obtain⟨a,c,e,hc,hg⟩:=hrow
   injection e with e1 e2 e3
   have h2:=hg i (by simpa using hiX)
   rw[←e1,List.getElem_map,zaZ,Nat.zero_add]at h2
   exact zbs hk (by show B+1<B+2;omega) (by show¬B+1=B;omega) h2
  have hi0:(0:Int)≤(i:Int):=by omega
  have hi3:(i:Int)<((3:Nat):Int):=by omega
  refine go (an9 r2 r10 r37 r38 r39 r11 d1 hcell (an2 hi0 hi3)) ?_
  have hxs:=hXs _ (List.getElem_mem hiX)
  refine rc (an5 r2 r10 r37 r38 (an2 r39 r11)) (zbh (hW.ext hEv) X[i] zar (by decide) (by omega)) ?_
  rintro _ v1 ⟨rfl,hE1v⟩
  refine rgo (an2 r10 r11) ?_
  by_cases he:(decP zar X[i]).2=2
  ·refine wt (decide_eq_true he) ?_
   repeat refine c_r ?_
   refine rq ?_;intro gd K hgd hK
   try simp only[go_sem]
   refine⟨by kernel_rfl,?_⟩
   rw[show bdV Tryz.prog 187 []=some (.agg #[vi 0,vi 0,vi 0]) from rfl]
   try simp (disch:=first|omega|assumption|rfl) only[go_sem,r2]
   refine zaK (P:=Tryz.prog) (l:=[vi 0,vi 0,vi 0]) (hE1v.at ((hk.block _ (by omega) (by omega)).trans hB05)) rfl (fun q hq=>by simp at hq;subst hq;rfl) rfl rfl ?_
   intro w6 hs6 hB6 hk6
   try simp only[go_sem]
   refine hK _ _ ?_;clear hK hgd;clear K;try clear gd
   repeat (with_reducible first|refine zeS ?_|refine zic ?_|refine zeT ?_|refine zaE ?_|refine zbU ?_|refine zcd ?_|refine zbn ?_|refine zb1 ?_|refine zbt ?_|refine zbf rfl ?_)
   have hmem:X[i]=f∨X[i]=t∨X[i]=u:=by
    have h2:∀x∈X,x=f∨x=t∨x=u:=by rw[←hX];simp
    exact h2 _ (List.getElem_mem hiX)
   refine zero _ w6 0 2 ?_ (Keep.to_ext (hEv.trans hE1v) rfl (fun b (hb:b=w.heap.size)=>by omega) hk6) hB6 ((vq1 r2)) (by rw[←he];first| (simp only[go_sem];done)| (simp only[go_sem];rfl))
   rw[hR,if_neg (by simp),if_pos]
   rcases hmem with h|h|h<;>rw[h]at he<;>simp[he]
  have hne:decide ((decP zar X[i]).2=2)=false:=decide_eq_false he
  refine wf hne ?_
  have hle:=zbS zar X[i]
  have hm:zar=2147483647:=rfl
  have hwr:IntKind.i64.wrap ((decP zar X[i]).1:Int)=((decP zar X[i]).1:Int):=zby (by omega) (by rw[hm]at hle ⊢;omega)
  repeat refine c_r ?_
  refine rq ?_;intro gd K hgd hK
  try simp (disch:=first|omega|assumption|rfl) only[go_sem,r10,r39,hi0,hi3,hwr]
  refine zan (P:=Tryz.prog) (b:=B) (j:=i) rfl rfl rfl (hE1v.at hcs) (by simp[hcl];omega) (.inl (Nat.zero_le _)) ?_
  intro v2 hs2 hb2 hk2
  try simp only[go_sem]
  refine hK _ _ ?_;clear hK hgd;clear K;try clear gd
  repeat refine c_r ?_
  refine rq ?_;intro gd K hgd hK
  try simp (disch:=first|omega|assumption|rfl) only[go_sem,r11]
  refine zd5 (k:= .i64) (a:=wst (X.take i)) (b:=(decP zar X[i]).2) (vq0) (vq0) ?_
  try simp only[go_sem]
  refine hK _ _ ?_;clear hK hgd;clear K;try clear gd
  have hi1:(i:Int)+1=((i+1:Nat):Int):=by push_cast;rfl
  refine go (an3 r39 hi1 hi0) ?_
  refine⟨rfl,(vq1 r2),(vq1 r10),(vq1 r37),(vq1 r38),vq0,?_,⟨cs.set i (vi (decP zar X[i]).1),?_,by simp[hcl],?_⟩,?_,?_⟩
  ·rw[zal hiX,wst_app];simp only[go_sem]
  ·rw[hb2];simp
  ·intro j hj hjX
   rw[List.getElem?_set]
   by_cases e:i=j
   ·subst e;simp[hcl,hi]
   ·rw[if_neg e];exact hcv j (by omega) hjX
  ·rw[zal hiX]
   intro x hx
   rcases List.mem_append.1 hx with hx|hx
   ·exact hno x hx
   ·rw[List.mem_singleton.1 hx];exact he
  ·have hsz:=hk.size
   have hsz1:=hE1v.size
   exact hk.trans ((hE1v.toB (by omega) (fun _ _ h=>h.elim)).trans (hk2.toB (by omega) (fun _ _ h=>h)))
 ·rintro σ v p ⟨r2,r10,r37,r38,r39,r11,⟨cs,hcs,hcl,hcv⟩,hno,hk⟩
  have d1:decide ((3:Int)<3)=false:=rfl
  have hEv:Ext w v:=⟨hk.os.trans hE15.os,hk.tape.trans hE15.tape,hk.output.trans hE15.output,Nat.le_trans hE15.size hk.size,fun b hb hn=>(hk.block b (by omega) (by omega)).trans (hE15.block b hb hn),Nat.le_trans hE15.drawn hk.drawn⟩
  have hB0v:=(hk.block w.heap.size (by omega) (by omega)).trans hB05
  have c0:zad v (some ⟨B,0,Option.none⟩)=some (vi (decP zar f).1):=zaa hcs (by have:=hcv 0 (by omega) (by omega);simpa [←hX] using this)
  have c1:zad v (some ⟨B,1,Option.none⟩)=some (vi (decP zar t).1):=zaa hcs (by have:=hcv 1 (by omega) (by omega);simpa [←hX] using this)
  have c2:zad v (some ⟨B,2,Option.none⟩)=some (vi (decP zar u).1):=zaa hcs (by have:=hcv 2 (by omega) (by omega);simpa [←hX] using this)
  have t1:(1:Int).toNat=1:=rfl
  have t2:(2:Int).toNat=2:=rfl
  have z0:(0:Int)≤0:=Int.le_refl _
  have hw3:wst (X.take 3)=max (max (max 0 (decP zar f).2) (decP zar t).2) (decP zar u).2:=by rw[←hX];rfl
  have hn2:(decP zar f).2≠2∧(decP zar t).2≠2∧(decP zar u).2≠2:=by
   rw[←hX]at hno
   simpa using hno
  refine go (an7 r2 r10 r37 r38 r39 r11 d1) ?_
  refine rq ?_;intro gd K hgd hK
  try simp (disch:=first|omega|assumption|rfl) only[go_sem,r10,c0,c1,c2,t1,t2,z0,Int.toNat_zero,Nat.zero_add]
  refine⟨by kernel_rfl,?_⟩
  rw[bdR]
  try simp (disch:=first|omega|assumption|rfl) only[go_sem,r2]
  refine zbj (P:=Tryz.prog) (l:=[vi (decP zar f).1,vi (decP zar t).1,vi (decP zar u).1]) rfl (ones3 _ _ _) rfl rfl ?_
  intro w6 hE6 hs6 hB6
  try simp only[go_sem]
  refine hK _ _ ?_;clear hK hgd;clear K;try clear gd
  have hcs6:=zai (n:=3) hB6 rfl
  have hB06:=hE6.at hB0v
  have fin:∀(σ:Sto) (z:Int),zbc s=((0,0,0),z)→σ 2= .pointer (some ⟨w.heap.size,0,Option.none⟩)→∀x,Ext w6 x→∀x',x'.heap[w.heap.size]? =some (.cells [vi 0,vi 0,vi 0].toArray 187 (0,0))→Keep (fun b=>b=w.heap.size) x x'→σ 3=vi z→
    retQ Tryz.prog Tryz.f124 (fun v w'=>v= .tuple #[.agg #[vi (zbc s).1.1,vi (zbc s).1.2.1,vi (zbc s).1.2.2],vi (zbc s).2]∧Ext w w') .ret σ [] x':=fun σ z hr h2 x hx x' hB hk h3=>
   zero σ x' 0 z hr (Keep.to_ext ((hEv.trans hE6).trans hx) rfl (fun b (hb:b=w.heap.size)=>by omega) hk) hB h2 h3
  by_cases h7:(decP zar f).2=7∨(decP zar t).2=7∨(decP zar u).2=7
  ·have hw7:wst (X.take 3)=7:=by
    rw[hw3]
    have e1:=zcB zar f;have e2:=zcB zar t;have e3:=zcB zar u
    omega
   rw[hw7]at r11
   have d7:decide ((7:Int)=0)=false:=rfl
   refine go (an2 r11 d7) ?_
   refine rq ?_;intro gd K hgd hK
   try simp (disch:=first|omega|assumption|rfl) only[go_sem,r11]
   refine⟨by kernel_rfl,?_⟩
   rw[show bdV Tryz.prog 187 []=some (.agg #[vi 0,vi 0,vi 0]) from rfl]
   try simp (disch:=first|omega|assumption|rfl) only[go_sem,r2,r11]
   refine zaK (P:=Tryz.prog) (l:=[vi 0,vi 0,vi 0]) hB06 rfl (ones3 _ _ _) rfl rfl ?_
   intro w7 hs7 hB7 hk7
   try simp only[go_sem]
   refine hK _ _ ?_;clear hK hgd;clear K;try clear gd
   repeat (with_reducible first|refine zeS ?_|refine zic ?_|refine zeT ?_|refine zaE ?_|refine zbU ?_|refine zcd ?_|refine zbn ?_|refine zb1 ?_|refine zbt ?_|refine zbf rfl ?_)
   refine fin _ 7 ?_ ((vq1 r2)) w6 (Keep.refl _ _) w7 hB7 hk7 ((vq1 r11))
   rw[hR,if_neg (by simp),if_neg (by simpa using hn2),if_pos h7]
  have hw0:wst (X.take 3)=0:=by
   rw[hw3]
   have e1:=zcB zar f;have e2:=zcB zar t;have e3:=zcB zar u
   omega
  rw[hw0]at r11
  have d0:decide ((0:Int)=0)=true:=rfl
  refine go (an2 r11 d0) ?_
  refine rc hcs6 (zha w6 _ _ _) ?_
  rintro _ w7 ⟨rfl,hE7⟩
  have l1':=zbS zar f;have l2':=zbS zar t
  have hm:zar=2147483647:=rfl
  rw[hm]at l1' l2'
  by_cases hab:(decP zar f).1≤(decP zar t).1∧1≤(decP zar u).1
  ·have hb:zci (decP zar f).1 (decP zar t).1 (decP zar u).1=true:=by
    unfold zci
    rw[decide_eq_true (by omega),decide_eq_true (by omega),decide_eq_true (by rw[hm]at*;omega),decide_eq_true (by omega)]
    rfl
   refine rgo hb ?_
   repeat refine c_r ?_
   refine rq ?_;intro gd K hgd hK
   try simp (disch:=first|omega|assumption|rfl) only[go_sem,zaj hE7 hcs6,r2]
   refine zaK (P:=Tryz.prog) (l:=[vi (decP zar f).1,vi (decP zar t).1,vi (decP zar u).1]) (hE7.at hB06) rfl (ones3 _ _ _) rfl rfl ?_
   intro w8 hs8 hB8 hk8
   try simp only[go_sem]
   refine hK _ _ ?_;clear hK hgd;clear K;try clear gd
   repeat (with_reducible first|refine zeS ?_|refine zic ?_|refine zeT ?_|refine zaE ?_|refine zbU ?_|refine zcd ?_|refine zbn ?_|refine zb1 ?_|refine zbt ?_|refine zbf rfl ?_)
   refine zaf (.inr rfl) Tryz.ntmps124 rfl (zaL (k:=3) (cs:=[vi (decP zar f).1,vi (decP zar t).1,vi (decP zar u).1]) ((vq1 r2)) rfl rfl (zai (l:=[vi (decP zar f).1,vi (decP zar t).1,vi (decP zar u).1]) hB8 rfl) (zac (v:=vi 0) (vr0) zae)) ?_
   rw[hR,if_neg (by simp),if_neg (by simpa using hn2),if_neg h7,if_pos hab]
   exact⟨rfl,Keep.to_ext ((hEv.trans hE6).trans hE7) rfl (fun b (hb:b=w.heap.size)=>by omega) hk8⟩
  ·have hb:zci (decP zar f).1 (decP zar t).1 (decP zar u).1=false:=by
    unfold zci
    by_cases h1:(decP zar f).1≤(decP zar t).1
    ·have h2:¬1≤(decP zar u).1:=fun h=>hab ⟨h1,h⟩
     rw[decide_eq_false (show¬(1:Int)≤((decP zar u).1:Int) by omega)]
     simp
    ·rw[decide_eq_false (show¬((decP zar f).1:Int)≤((decP zar t).1:Int) by omega)]
     simp
   refine rgo hb ?_
   repeat refine c_r ?_
   refine rq ?_;intro gd K hgd hK
   try simp only[go_sem]
   refine⟨by kernel_rfl,?_⟩
   rw[show bdV Tryz.prog 187 []=some (.agg #[vi 0,vi 0,vi 0]) from rfl]
   try simp (disch:=first|omega|assumption|rfl) only[go_sem,r2]
   refine zaK (P:=Tryz.prog) (l:=[vi 0,vi 0,vi 0]) (hE7.at hB06) rfl (ones3 _ _ _) rfl rfl ?_
   intro w8 hs8 hB8 hk8
   try simp only[go_sem]
   refine hK _ _ ?_;clear hK hgd;clear K;try clear gd
   repeat (with_reducible first|refine zeS ?_|refine zic ?_|refine zeT ?_|refine zaE ?_|refine zbU ?_|refine zcd ?_|refine zbn ?_|refine zb1 ?_|refine zbt ?_|refine zbf rfl ?_)
   refine fin _ 1 ?_ ((vq1 r2)) w7 hE7 w8 hB8 hk8 (vr0)
   rw[hR,if_neg (by simp),if_neg (by simpa using hn2),if_neg h7,if_neg hab]
def encNum(x:Int)(_:World)(args:Array Value):Prop:=args=#[vi x]
theorem zgF{W0:World}{n0:Nat}{C:Nat→Prop}{c a b d:Nat}{T:TypeId}{fr:Nat×Nat}(hb:W0.heap[c]? =some (.cells #[vi a,vi b,vi d] T fr))(hbn:c<n0)(hbC:¬C c)(hab:a≤b)(hbm:b≤2147483647)(hd:1≤d)(hdm:d≤9223372036854775807):
  Iter Tryz.prog 169 #[.pointer (some ⟨c,0,Option.none⟩)] W0 n0 C (zbV a b d) encNum:=by
 intro lp J Jx W hW hnW hJ hJx hY h0
 have hlen:=zc6 a b d
 have cell:∀{v:World},KeepB n0 C W v→∀(j:Nat) (u:Value),#[vi a,vi b,vi d][j]? =some u→zad v (some ⟨c,j,Option.none⟩)=some u:=fun hk j u hu=>
  zbs hk hbn hbC (zaa (hW.at hb) hu)
 have c0:=cell (KeepB.refl _ _ _) 0 (vi a) rfl
 refine enter Tryz.func169 Tryz.ntmps169 rfl rfl ?_
 refine go c0 ?_
 refine zbg (fun m σ ds v=>ds=[]∧∃i,i+m=(b - a) / d∧σ 3=vi ((a+i*d:Nat):Int)∧σ 0= .func (.yield lp) #[] #[]∧σ 1= .pointer (some ⟨c,0,Option.none⟩)∧J ((zbV a b d).take i) v∧KeepB n0 C W v) ((b - a) / d) ?_ ?_
 ·refine⟨rfl,0,by omega,?_,?_,?_,by simpa using h0,KeepB.refl _ _ _⟩
  ·simp only[Nat.zero_mul,Nat.add_zero];simp only[go_sem]
  ·simp only[go_sem]
  ·simp only[go_sem]
 ·rintro m σ ds v ⟨rfl,i,him,h3,hf0,hf1,hj,hK0⟩
  have hi:i<(zbV a b d).length:=by omega
  repeat refine c_r ?_
  refine rq ?_;intro gd K hgd hK
  have hg3:∀n σ b,zaJ gd n σ (some (3,b))=zat (ev n σ (.tmp 9)) b:=(fun n σ b=>by rw[zag,show gd 3=some 9 from(by rw[hgd];rfl)];rfl)
  try simp (disch:=first|omega|assumption|rfl) only[go_sem,h3,hf0,hf1]
  refine Yld.mono (hY ((zbV a b d).take i) (zbV a b d)[i] ((zbV a b d).drop (i+1)) v _ (zbM hi) hj hK0 (by rw[zf1];rfl)) ?_
  rintro u x (⟨rfl,hj',hk'⟩| ⟨rfl,hjx⟩)
  ·have c1:=cell (hK0.trans hk') 1 (vi b) rfl
   have c2:=cell (hK0.trans hk') 2 (vi d) rfl
   have hin:=zi1 hd hab (i:=i) (by omega)
   have hwr:IntKind.i64.wrap ((b:Int) - ((a+i*d:Nat):Int))=(b:Int) - ((a+i*d:Nat):Int):=zby (by omega) (by omega)
   by_cases hmore:d≤b - (a+i*d)
   ·have d1:decide ((d:Int)≤(b:Int) - ((a+i*d:Nat):Int))=true:=decide_eq_true (by omega)
    try simp (disch:=first|omega|assumption|rfl) only[go_sem,h3,hf0,hf1,c1,c2,hwr,d1,↓hg3]
    refine hK _ _ ?_;clear hK hgd;clear K;try clear gd
    have e1:((a+i*d:Nat):Int)+(d:Int)=((a+(i+1)*d:Nat):Int):=by rw[Nat.add_mul];push_cast;omega
    have hw2:IntKind.i64.wrap (((a+i*d:Nat):Int)+(d:Int))=((a+(i+1)*d:Nat):Int):=by rw[zby (by omega) (by omega),e1]
    refine go (an4 h3 hf1 c2 hw2) ?_
    have hnm:i+1≤(b - a) / d:=zi0 hd (by rw[Nat.add_mul];omega)
    refine⟨m - 1,by omega,rfl,i+1,by omega,vq0,(vq1 hf0),(vq1 hf1),?_,hK0.trans hk'⟩
    rw[zal hi];exact hj'
   ·have d1:decide ((d:Int)≤(b:Int) - ((a+i*d:Nat):Int))=false:=decide_eq_false (by omega)
    try simp (disch:=first|omega|assumption|rfl) only[go_sem,h3,hf0,hf1,c1,c2,hwr,d1,↓hg3]
    refine hK _ _ ?_;clear hK hgd;clear K;try clear gd
    refine go trivial ?_
    refine zaA (by simp) rfl (.inl ?_)
    have hend:i+1=(zbV a b d).length:=by
     rw[hlen]
     by_cases h:i+1≤(b - a) / d
     ·have:=zi1 hd hab h
      rw[Nat.add_mul]at this
      omega
     ·omega
    have e2:(zbV a b d).take i++ [(zbV a b d)[i]]=zbV a b d:=by rw[←zal hi,hend,List.take_length]
    rw[e2]at hj';exact hj'
  ·try simp (disch:=first|omega|assumption|rfl) only[go_sem,↓hg3]
   refine hK _ _ ?_;clear hK hgd;clear K;try clear gd
   refine go trivial ?_
   refine zaA (by simp) rfl (.inr ⟨_,_,_,zbM hi,hjx⟩)
theorem zhQ(w:World){a b d:Nat}(hab:a≤b)(hbm:b≤2147483647)(hd:1≤d)(hdm:d≤9223372036854775807):
  Fn Tryz.prog 146 #[.agg #[vi a,vi b,vi d]] w (fun v w'=>Ext w w'∧∃cap,v= .func (.func 169) #[] cap∧
   ∀C:Nat→Prop,(∀i,C i→i<w.heap.size)→Iter Tryz.prog 169 cap w' w'.heap.size C (zbV a b d) encNum):=by
 refine enter Tryz.func146 Tryz.ntmps146 rfl rfl ?_
 refine go trivial ?_
 refine rt0 Tryz.ntmps146 ?_
 exact⟨Ext.alloc _ _,_,rfl,fun C hC=>zgF (zax _ _) (by simp) (fun h=>by have:=hC _ h;omega) hab hbm hd hdm⟩
def numI(a b d:Int):List Int×Int:=
 if zci a b d=false then([],1) else if 4096≤(b - a) / d then([],11) else(zbV a.toNat b.toNat d.toNat,0)
theorem zeF{a b d:Int}:zci a b d=true↔0≤a∧a≤b∧b≤2147483647∧1≤d:=by
 unfold zci;simp[and_assoc]
theorem zfM{a b d:Int}(h:zci a b d=true):∃x y z:Nat,a=x∧b=y∧d=z∧x≤y∧y≤2147483647∧1≤z:=by
 obtain⟨h1,h2,h3,h4⟩:=zeF.1 h
 exact⟨a.toNat,b.toNat,d.toNat,by omega,by omega,by omega,by omega,by omega,by omega⟩
theorem rowNil(w:World):Row w (.slice Option.none 0 0) []:=⟨Option.none,0,rfl,Nat.le_refl _,fun j h=>absurd h (by simp)⟩
theorem zgV(w:World)(a b d:Int)(hdm:d≤9223372036854775807):
  Fn Tryz.prog 125 #[.agg #[vi a,vi b,vi d]] w (fun v w'=>∃lv,v= .tuple #[lv,vi (numI a b d).2]∧Row w' lv ((numI a b d).1.map vi)∧Ext w w'∧∀x n c,lv= .slice (some x) n c→w.heap.size≤x.block∧x.block<w'.heap.size):=by
 refine enter Tryz.func125 Tryz.ntmps125 rfl rfl ?_
 refine go trivial ?_
 refine zam ?_
 intro w1 hE1 hs1 hA
 have q3:=zai (n:=3) (l:=[vi a,vi b,vi d]) hA rfl
 refine rc q3 (zha w1 a b d) ?_
 rintro _ w2 ⟨rfl,hE2⟩
 unfold numI
 cases hr:zci a b d with
 |false=>
  refine rgo hr ?_
  refine zaf (.inr rfl) Tryz.ntmps125 rfl (zac (v:= .slice Option.none 0 0) (vr0) (zac (vr0) zae)) ?_
  exact⟨_,rfl,rowNil _,hE1.trans hE2,fun _ _ _ h=>by cases h⟩
 |true=>
 obtain⟨x,y,z,rfl,rfl,rfl,hxy,hy,hz⟩:=zfM hr
 have hA2:=hE2.at hA
 have c0:zad w2 (some ⟨w.heap.size,0,Option.none⟩)=some (vi x):=zaa hA2 rfl
 have c1:zad w2 (some ⟨w.heap.size,1,Option.none⟩)=some (vi y):=zaa hA2 rfl
 have c2:zad w2 (some ⟨w.heap.size,2,Option.none⟩)=some (vi z):=zaa hA2 rfl
 have q32:=zai (n:=3) (l:=[vi x,vi y,vi z]) hA2 rfl
 refine rgo hr ?_
 have hwr:IntKind.i64.wrap ((y:Int) - (x:Int))=((y - x:Nat):Int):=by rw[zby (by omega) (by omega)];omega
 have hdv:((y:Int) - (x:Int)) / (z:Int)=(((y - x) / z:Nat):Int):=by rw[Int.natCast_ediv];congr 1;omega
 rw[hdv]
 have hq:IntKind.i64.wrap (((y - x:Nat):Int).tdiv (z:Int))=(((y - x) / z:Nat):Int):=by
  have h1:((y - x:Nat):Int).tdiv (z:Int)=(((y - x) / z:Nat):Int):=by
   rw[Int.tdiv_eq_ediv_of_nonneg (by omega),Int.natCast_ediv]
  have h2:(y - x) / z≤y - x:=Nat.div_le_self _ _
  rw[h1]
  revert h2
  generalize (y - x) / z=k
  intro h2
  exact zby (by omega) (by omega)
 have hz0:¬(z:Int)=0:=by omega
 by_cases hbig:(4096:Int)≤(((y - x) / z:Nat):Int)
 ·rw[if_neg (by simp),if_pos hbig]
  refine go (an8 c0 c1 c2 hwr hq (decide_eq_true hbig) hz0 (an2 (Nat.zero_add 1) (Nat.zero_add 2))) ?_
  refine zaf (.inr rfl) Tryz.ntmps125 rfl (zac (v:= .slice Option.none 0 0) (vr0) (zac (vr0) zae)) ?_
  exact⟨_,rfl,rowNil _,hE1.trans hE2,fun _ _ _ h=>by cases h⟩
 rw[if_neg (by simp),if_neg hbig]
 refine go (an8 c0 c1 c2 hwr hq (decide_eq_false hbig) hz0 (an2 (Nat.zero_add 1) (Nat.zero_add 2))) ?_
 refine zam ?_
 intro w3 hE3 hs3 hB3
 refine rc (zaj hE3 q32) (zhQ w3 hxy hy hz (by omega)) ?_
 rintro _ w4 ⟨hE4,cap,rfl,hit⟩
 refine rgo trivial ?_
 simp only[Int.toNat_natCast]
 obtain⟨xs,hxs⟩:∃xs,zbV x y z=xs:=⟨_,rfl⟩
 have hxl:xs.length≤4096:=by rw[←hxs,zc6];omega
 rw[hxs]at hit ⊢
 have hE14:Ext w w4:=((hE1.trans hE2).trans hE3).trans hE4
 have hs4:=hE4.size
 have hs2w:=(hE1.trans hE2).size
 have hB4:=hE4.at hB3
 refine zcs (g:=169) (cap:=cap) (vq0) rfl (hit (fun b=>b=w2.heap.size) (fun b hb=>by omega)) (Keep.refl _ _) (Nat.le_refl _) (fun b hb=>by omega)
  (fun x A args h=>by rw[h];rfl)
  (fun pre A=>Ext w A∧∃sv,A.heap[w2.heap.size]? =some (.cells #[sv] 56 (0,0))∧Own (w4.heap.size+2) A 3 sv (pre.map vi))
  (fun _ _ _=>False) ?_ (fun _ _ _ _ h _=>h.elim) ?_ ?_ ?_ (fun _ _ _ _ _ _ _ h _=>h.elim)
 ·rintro pre A B ⟨h1,sv,h2,h3⟩ hk
  have:=hE14.size
  exact⟨Keep.to_ext h1 rfl (fun b hb=>by unfold two at hb;omega) hk,sv,(hk.block _ (Array.getElem?_eq_some_iff.1 h2).1 (by unfold two;omega)).trans h2,h3.keep hk (fun b hb h=>by have:=(h3.ge hb).1;unfold two at h;omega)⟩
 ·exact⟨hE14,_,hB4,Own.nil _ _ _⟩
 ·rintro lp pre x suf A args hxs hszA ⟨hEA,sv,hb,hown⟩ rfl
  have hpl:pre.length+1≤xs.length:=by
   have:=congrArg List.length hxs
   simp at this;omega
  refine rq ?_;intro gd K hgd hK
  try simp only[go_sem]
  refine hK _ _ ?_;clear hK hgd;clear K;try clear gd
  refine zaE ?_
  refine⟨rfl,KeepB.refl _ _ _,fun Y hY=>?_⟩
  have hw4:=hE14.size
  have hbY:=(hY.block _ (Array.getElem?_eq_some_iff.1 hb).1 (by unfold two;omega)).trans hb
  have hEY:Ext w Y:=Keep.to_ext hEA rfl (fun b hb=>by unfold two at hb;omega) hY
  have hownY:=hown.keep hY (fun b hb h=>by have:=(hown.ge hb).1;unfold two at h;omega)
  have hsY:=hY.size
  have q0:zad Y (some ⟨w2.heap.size,0,Option.none⟩)=some sv:=zaa hbY rfl
  repeat refine c_r ?_
  refine rq ?_;intro gd K hgd hK
  try simp (disch:=first|omega|assumption|rfl) only[go_sem,q0]
  refine za5 rfl rfl rfl rfl rfl ?_
  intro y1 hEy1 hsy1 hown1
  try simp (disch:=first|omega|assumption|rfl) only[go_sem,q0]
  refine za2 (e:=3) (hownY.ext hEy1) hown1.row rfl rfl rfl rfl rfl rfl (vq0) (vq0) (fun q hq=>by simp at hq;subst hq;rfl) (by simp;omega) (by decide) (by omega) ?_
  intro sv' y2 hown2 hX2 hK2 hb2
  try simp only[go_sem]
  have hb2Y:=(hK2.block w2.heap.size (by have:=(Array.getElem?_eq_some_iff.1 (hEy1.at hbY)).1;omega) (fun hh=>by have:=(hownY.ge hh).1;omega)).trans (hEy1.at hbY)
  refine zan (P:=Tryz.prog) rfl rfl (by obtain⟨a,c,rfl⟩:=hown2.slice;rfl) hb2Y (by simp) (by simp) ?_
  intro y3 hs3' hb3 hk3
  try simp only[go_sem]
  refine hK _ _ ?_;clear hK hgd;clear K;try clear gd
  repeat refine c_r ?_
  have hs2:=hK2.size
  refine⟨⟨Keep.to_ext (hX2 w (hEY.trans hEy1) (by omega)) rfl (fun b hb=>by have:=hE14.size;omega) hk3,sv',hb3,?_⟩,?_⟩
  ·rw[List.map_append];exact hown2.keep hk3 (fun b hb h=>by have:=(hown2.ge hb).1;omega)
  ·exact(hEy1.toB (by omega) (fun _ _ h=>h.elim)).trans ((hK2.toB (by omega) (fun i hi h=>by have:=(hownY.ge h).1;omega)).trans (hk3.toB (by omega) (fun _ _ h=>h)))
 ·intro A hszA ⟨hEA,sv,hb,hown⟩ hD
  have q0:zad A (some ⟨w2.heap.size,0,Option.none⟩)=some sv:=zaa hb rfl
  repeat refine c_r ?_
  refine rg1 q0 ?_
  repeat refine c_r ?_
  refine zcw (.inr rfl) Tryz.ntmps125 rfl hD ?_
  intro Z hkZ hsZ
  refine⟨_,zac (v:=sv) (vq0) (zac (v:=vi 0) (vr0) zae),?_⟩
  have hoZ:=hown.keep hkZ (fun b hb h=>by have:=(hown.ge hb).1;omega)
  exact⟨sv,rfl,hoZ.row,Keep.to_ext hEA rfl (fun b hb=>by omega) hkZ,fun x n c h=>by have:=hoZ.ge (b:=x.block) (by rw[h];rfl);omega⟩
def hiD(m:Nat):Lab:=if m<10 then [] else Lib.decDigits (m / 10)
theorem dec_hi(m:Nat):Lib.decDigits m=hiD m++ [UInt8.ofNat (48+m % 10)]:=by
 rw[Lib.decDigits]
 unfold hiD
 by_cases h:m<10
 ·rw[dif_pos h,if_pos h,Nat.mod_eq_of_lt h];rfl
 ·rw[dif_neg h,if_neg h]
theorem ziC{w:World}{B b k n c:Nat}{v:Value}(h:Own B w 5 v [.int .u8 k])(hk:k<256)(hv:v= .slice (some ⟨b,0,Option.none⟩) n c):∀j (hj:j< [UInt8.ofNat k].length),zad w (adr (some ⟨b,0,Option.none⟩) j)=some (zao [UInt8.ofNat k][j]):=by
 intro j hj
 have h0:j=0:=by simpa using hj
 subst h0
 obtain⟨a,c2,e,hc2,hgt⟩:=h.row
 rw[hv]at e
 injection e with e1
 have h2:=hgt 0 (by simp)
 rw[←e1]at h2
 rw[h2]
 show some (Value.int .u8 k)=some (Value.int .u8 ((UInt8.ofNat k).toNat:Int))
 rw[UInt8.toNat_ofNat',Nat.mod_eq_of_lt hk]
theorem zcb(w:World)(n:Nat)(hn:n≤4000000000000000000)(hn1:n≤9223372036854775807):
  Fn Tryz.prog 18 #[vi n] w (fun v w'=>v=vs (Lib.decDigits n)∧Ext w w'):=by
 have d0:decide ((n:Int)= -9223372036854775808)=false:=decide_eq_false (by omega)
 have d1:decide ((n:Int)<0)=false:=decide_eq_false (by omega)
 refine enter Tryz.func18 Tryz.ntmps18 rfl rfl ?_
 refine go (an2 d0 d1) ?_
 have e1:∀m:Nat,(m:Int).tmod 10=((m % 10:Nat):Int):=fun m=>by rw[Int.tmod_eq_emod_of_nonneg (by omega)];omega
 have w1:∀m:Nat,IntKind.i64.wrap (48+((m % 10:Nat):Int))=((48+m % 10:Nat):Int):=fun m=>by rw[zby (by omega) (by omega)];omega
 have w2:∀m:Nat,IntKind.u8.wrap ((48+m % 10:Nat):Int)=((48+m % 10:Nat):Int):=fun m=>zgx (by omega) (by omega)
 have nz:¬(10:Int)=0:=by decide
 refine rq ?_;intro gd K hgd hK
 try simp (disch:=first|omega|assumption|rfl) only[go_sem,e1,w1,w2,nz]
 refine za5 rfl rfl rfl rfl rfl ?_
 intro x1 hX1 hXs hXo
 try simp only[go_sem]
 refine zb7 (l:=[UInt8.ofNat (48+n % 10)]) (a:=some ⟨w.heap.size,0,Option.none⟩) (c:=1) rfl rfl rfl (vr0) (ziC hXo (by omega) rfl) ?_
 try simp only[go_sem]
 refine hK _ _ ?_;clear hK hgd;clear K;try clear gd
 refine go trivial ?_
 refine zbg (fun M σ ds v=>ds=[]∧∃(m:Nat) (t:Lab),M=m∧σ 0=vi m∧σ 3=vs t∧m≤n∧m+t.length≤n+1∧Lib.decDigits n=hiD m++t∧Ext w v) n ?_ ?_
 ·exact⟨rfl,n,_,rfl,vr0,vr0,Nat.le_refl _,by simp,dec_hi n,hX1⟩
 ·rintro m σ ds v ⟨rfl,_,t,rfl,h0,h3,hm,hl,ht,hE⟩
  by_cases h10:10≤m
  ·have d2:decide ((10:Int)≤(m:Int))=true:=decide_eq_true (by omega)
   have hq:(m:Int).tdiv 10=((m / 10:Nat):Int):=by rw[Int.tdiv_eq_ediv_of_nonneg (by omega)];omega
   have hw:IntKind.i64.wrap ((m / 10:Nat):Int)=((m / 10:Nat):Int):=zby (by omega) (by omega)
   refine go (an6 h0 h3 d2 hq hw nz) ?_
   refine rq ?_;intro gd K hgd hK
   try simp (disch:=first|omega|assumption|rfl) only[go_sem,e1,w1,w2,nz,h3]
   refine za5 rfl rfl rfl rfl rfl ?_
   intro x2 hX2 hXs2 hXo2
   try simp only[go_sem]
   refine zb7 (l:=[UInt8.ofNat (48+m / 10 % 10)]) (a:=some ⟨v.heap.size,0,Option.none⟩) (c:=1) rfl rfl rfl (vr0) (ziC hXo2 (by omega) rfl) ?_
   have hadd:([UInt8.ofNat (48+m / 10 % 10)]:Lab).length+t.length≤9223372036854775807:=by simp;omega
   try simp (disch:=first|omega|assumption|rfl) only[go_sem,h3,hadd]
   refine hK _ _ ?_;clear hK hgd;clear K;try clear gd
   repeat refine c_r ?_
   refine⟨m / 10,by omega,rfl,m / 10,_,rfl,vr0,vr0,by omega,by simp;omega,?_,hE.trans hX2⟩
   rw[ht]
   have:hiD m=Lib.decDigits (m / 10):=by unfold hiD;rw[if_neg (by omega)]
   rw[this,dec_hi (m / 10),List.append_assoc];rfl
  ·have d2:decide ((10:Int)≤(m:Int))=false:=decide_eq_false (by omega)
   refine go (an3 h0 h3 d2) ?_
   refine rt1 h3 Tryz.ntmps18 ?_
   refine⟨?_,hE⟩
   rw[ht]
   unfold hiD
   rw[if_pos (by omega)]
   rfl
theorem isPow16(w:World):Calls Tryz.prog 96 #[vi 16] w (fun e w'=>e= .returned (.bool true)∧w'=w):=by
 go_enter Tryz.func96,Tryz.ntmps96
 go_wp2
 go_ret
 exact⟨rfl,rfl⟩
section
variable {P : Program} {d : Option Tmp} {ty : TypeId} {ps : String} {af : Array Edge} {g : Option (Nat × Bool)} {ρ : Operand → Value} {w : World} {K : Value → World → Prop}
theorem op_slAl{t e:TypeId}{x y:Operand}{n l:Nat}{a:Addr}{inf:TypeInfo}(ht:P.underlying t=some (.array n e))(hn:n≠0)(hi:P.info? e=some inf)(hs:inf.size=1)(hl:l<n)
  (hx:ρ x= .pointer (some a)) (hy:ρ y=vi l) (h:K (.slice (some (a.add l)) (n - l) (n - l)) w):opW P ⟨d,.slice t x (some y) Option.none Option.none,ty,ps,af,g⟩ ρ w K:=by
 refine zaw (s:=Instr.sliceAt t (ρ x) (some (ρ y)) Option.none Option.none) (v:= .slice (some (a.add l)) (n - l) (n - l)) (w':=w) ?_ h
 have e1:=zbk (P:=P) (w:=w) (sl:=false) (n:=n) (c:=n) (lo:=some (vi l)) (hi:=Option.none) (mx:=Option.none) (l:=l) (h:=n) (m:=n) rfl rfl rfl (by omega) (Nat.le_refl _) (Nat.le_refl _) (by simp)
 simp[Instr.sliceAt,underlying,program,Sem.run,ht,hx,hy,Instr.sureAddr,e1,sizeOf,typeInfo,hi,hs,hn]
 omega
end
theorem isPow16F(w:World):Fn Tryz.prog 96 #[vi 16] w (fun v w'=>v= .bool true∧w=w'):=
 Fn.of_calls ((isPow16 w).mono fun _ _ ⟨he,hw⟩=>⟨_,he,rfl,hw.symm⟩)
structure WY(w:World):Prop where
 p10:∃t fr,w.heap[0]? =some (.cells (Lib.pow10Tab.map fun z=>Value.int .u64 z).toArray t fr)
 tz:w.cell? ⟨3,15,Option.none⟩=some (.int .u8 4)
theorem WY.ext{w x:World}(h:WY w)(hE:Ext w x):WY x:=by
 obtain⟨t,fr,h2⟩:=h.p10
 exact⟨⟨t,fr,hE.at h2⟩,zb8 hE h.tz⟩
instance WY.tr:Tr WY:=⟨fun hE h=>h.ext hE⟩
theorem WY.tab{w:World}(h:WY w){name:String}(hn:Tryz.prog.globalNamed name=some 0):Lib.TabIs Tryz.prog w name .u64 Lib.pow10Tab:=by
 obtain⟨t,fr,h⟩:=h.p10
 unfold Lib.TabIs World.var?
 rw[hn,Option.bind_some,h]
theorem zhG{w:World}(hW:WY w)(n:Int)(h0: -9223372036854775808≤n)(h1:n≤9223372036854775807):Fn Tryz.prog 41 #[vi n] w (fun v w'=>v=vs (Lib.itoa n)∧Ext w w'):=
 Fn.of_calls (Calls.mono (Any.strconv_Itoa Tryz.laysM171 n h0 h1 w (hW.tab (by kernel_rfl))) fun _ _ ⟨he,k,os,hw⟩=>⟨_,he,rfl,hw▸Ext.grow w k os⟩)
section
variable {P : Program} {d : Option Tmp} {ty : TypeId} {ps : String} {af : Array Edge} {g : Option (Nat × Bool)} {ρ : Operand → Value} {w : World} {K : Value → World → Prop}
theorem ziS{t e:TypeId}{x y:Operand}{n h0:Nat}{a:Addr}{inf:TypeInfo}(ht:P.underlying t=some (.array n e))(hn:n≠0)(hi:P.info? e=some inf)(hs:inf.size=1)(hl:h0≤n)
  (hx:ρ x= .pointer (some a)) (hy:ρ y=vi h0) (h:K (.slice (some a) h0 n) w):opW P ⟨d,.slice t x Option.none (some y) Option.none,ty,ps,af,g⟩ ρ w K:=by
 refine zaw (s:=Instr.sliceAt t (ρ x) Option.none (some (ρ y)) Option.none) (v:= .slice (some a) h0 n) (w':=w) ?_ h
 have e1:=zbk (P:=P) (w:=w) (sl:=false) (n:=n) (c:=n) (lo:=Option.none) (hi:=some (vi h0)) (mx:=Option.none) (l:=0) (h:=h0) (m:=n) rfl rfl rfl (by omega) hl (Nat.le_refl _) (by simp)
 simp[Instr.sliceAt,underlying,program,Sem.run,ht,hx,hy,Instr.sureAddr,e1,sizeOf,typeInfo,hi,hs,hn,Addr.add]
end
theorem Small_ok(w:World)(u:Nat)(hu:u<100):Fn Tryz.prog 69 #[vi u] w (fun v w'=>v=vs (Lib.decDigits u)∧w=w'):=
 Fn.of_calls (Calls.mono (Any.internal_strconv_small {Tryz.laysM171 with} u hu w) fun _ _ ⟨he,hw⟩=>⟨_,he,rfl,hw.symm⟩)
theorem zjZ{w:World}(hW:WY w)(u:Nat)(h1:1≤u)(h2:u<18446744073709551616):Fn Tryz.prog 70 #[.int .u64 u] w (fun v w'=>v=vi (Lib.nDigits u:Nat)∧w=w'):=
 Fn.of_calls (Calls.mono (Any.internal_strconv_numDigits {Tryz.laysM171 with} u h1 h2 w (hW.tab (by kernel_rfl))) fun _ _ ⟨he,hw⟩=>⟨_,he,rfl,hw.symm⟩)
theorem zkd{w:World}{b:Nat}{T:TypeId}(hA:w.heap[b]? =some (.cells Lib.zeros24 T (0,0)))(u:Nat)(hu1:1≤u)(hu:u<18446744073709551616):
  Fn Tryz.prog 71 #[.slice (some ⟨b,0,Option.none⟩) (Lib.nDigits u) 24,.int .u64 u] w (fun _ w'=>Keep (fun i=>i=b) w w'∧∀j (h:j<(Lib.decDigits u).length),zad w' (some ⟨b,j,Option.none⟩)=some (zao (Lib.decDigits u)[j])):=by
 have hnd20:Lib.nDigits u≤20:=by have:=Lib.numDigits_eq u hu1 hu;split at this<;>omega
 have hH:Go.Sort.Holds (fun (b:UInt8)=>Value.int .u8 (b.toNat:Int)) w b 0 (Array.replicate (Lib.nDigits u) (0:UInt8)):=fun j hj=>by
  have hj':j<Lib.nDigits u:=by simpa using hj
  refine⟨?_,Lib.frozen_of_heap hA _⟩
  rw[Nat.zero_add,getElem!_pos _ j hj]
  have:w.cell? ⟨b,j,Option.none⟩=some (.int .u8 0):=zaa hA (Lib.zeros24_at j (by omega))
  rw[this]
  simp
 have hfmt:=Any.internal_strconv_formatBase10 {Tryz.laysM171 with} b 0 24 u (Array.replicate (Lib.nDigits u) 0) w hH (by rw[Array.size_replicate];exact Lib.lt_pow_nDigits u) hu (by rw[Array.size_replicate];omega)
 rw[Array.size_replicate]at hfmt
 refine Fn.of_calls (hfmt.mono ?_)
 rintro e w' ⟨rfl,k,v',dk,rfl,hF⟩
 refine⟨_,rfl,?_,fun j hj=>?_⟩
 ·refine Keep.trans (b:=Go.Sort.putRow (fun (b:UInt8)=>Value.int .u8 (b.toNat:Int)) w b 0 dk) ?_ ((Ext.drewN _ k).mono fun _ _ h=>h.elim)
  refine⟨rfl,rfl,rfl,?_,fun i hi hS=>?_,Nat.le_refl _⟩
  ·show _≤(Array.modify _ _ _).size
   simp
  ·show(Array.modify _ _ _)[i]? =_
   rw[Array.getElem?_modify,if_neg (fun h=>hS h.symm)]
 ·rw[Lib.row_is_numeral hF j hj]
  show World.cell? _ _=_
  rw[World.cell?_drewN,←Nat.zero_add j]
  have:=Go.Sort.cell?_putRow (fun (b:UInt8)=>Value.int .u8 (b.toNat:Int)) w b 0 _ dk hH (by rw[hF.size,Array.size_replicate]) j (by rw[hF.size];rw[Lib.decDigits_length]at hj;exact hj)
  rw[this,Nat.zero_add]
  rfl
theorem zfC{w:World}(hW:WY w)(u:Nat)(hu:u<18446744073709551616):Fn Tryz.prog 49 #[.int .u64 u,vi 10] w (fun v w'=>v=vs (Lib.decDigits u)∧Ext w w'):=by
 refine enter Tryz.func49 Tryz.ntmps49 rfl rfl ?_
 have d1:decide ((10:Int)=10)=true:=rfl
 by_cases h100:u<100
 ·have d2:decide ((u:Int)<100)=true:=decide_eq_true (by omega)
  refine go (an2 d1 d2) ?_
  refine rc trivial (Small_ok w u h100) ?_
  rintro _ _ ⟨rfl,rfl⟩
  refine rgo trivial ?_
  refine rt0 Tryz.ntmps49 ?_
  exact⟨rfl,Keep.refl _ _⟩
 have d2:decide ((u:Int)<100)=false:=decide_eq_false (by omega)
 have hu1:1≤u:=by omega
 have hnd20:Lib.nDigits u≤20:=by have:=Lib.numDigits_eq u hu1 hu;split at this<;>omega
 refine go (an2 d1 d2) ?_
 refine zam ?_
 intro w1 hE1 hs1 hA
 refine rc trivial (zjZ (hW.ext hE1) u hu1 hu) ?_
 rintro _ _ ⟨rfl,rfl⟩
 refine rgo trivial ?_
 repeat refine c_r ?_
 refine rq ?_;intro gd K hgd hK
 try simp only[go_sem]
 refine ziS (n:=24) (h0:=Lib.nDigits u) (a:=⟨w.heap.size,0,Option.none⟩) rfl (by decide) rfl rfl (by omega) (vr0) (vr0) ?_
 try simp only[go_sem]
 refine Fn.mono (zkd hA u hu1 hu) ?_
 rintro _ w2 ⟨hk2,hat⟩
 try simp only[go_sem]
 refine hK _ _ ?_;clear hK hgd;clear K;try clear gd
 repeat refine c_r ?_
 refine rq ?_;intro gd K hgd hK
 try simp only[go_sem]
 refine ziS (n:=24) (h0:=Lib.nDigits u) (a:=⟨w.heap.size,0,Option.none⟩) rfl (by decide) rfl rfl (by omega) (vr0) (vr0) ?_
 try simp only[go_sem]
 refine zb7 (l:=Lib.decDigits u) (a:=some ⟨w.heap.size,0,Option.none⟩) (c:=24) rfl rfl rfl (by rw[Lib.decDigits_length];first| (simp only[go_sem];done)| (simp only[go_sem];rfl)) (fun j hj=>?_) ?_
 ·rw[zaZ];simpa [Addr.add] using hat j hj
 try simp only[go_sem]
 refine hK _ _ ?_;clear hK hgd;clear K;try clear gd
 repeat refine c_r ?_
 refine rt0 Tryz.ntmps49 ?_
 exact⟨rfl,Keep.to_ext hE1 rfl (fun b (hb:b=w.heap.size)=>by omega) hk2⟩
theorem zcu{w:World}(hW:WY w)(u:Nat)(hu:u<18446744073709551616):Fn Tryz.prog 26 #[.int .u64 u,vi 10] w (fun v w'=>v=vs (Lib.decDigits u)∧Ext w w'):=by
 refine enter Tryz.func26 Tryz.ntmps26 rfl rfl ?_
 refine go trivial ?_
 refine rc trivial (zfC hW u hu) ?_
 rintro _ w1 ⟨rfl,hE1⟩
 refine rgo trivial ?_
 refine rt0 Tryz.ntmps26 ?_
 exact⟨rfl,hE1⟩
end Go.Proofs.YtihbdhjibplldaaGreatDoor
namespace Go.Proofs
open Go.Shelf
def Tryz.lays137_ren:Go.Shelf.Ren:=⟨fun|137=>67|217=>92|266=>115|n=>n,fun|9=>9|5=>5|3=>3|n=>n,fun|n=>n⟩
theorem Tryz.lays137:Go.Proofs.Lays.n137 Tryz.prog Tryz.lays137_ren:={
 mixed:=by kernel_rfl
 f137:=Tryz.func67.trans (congrArg some (by kernel_rfl))
 f217:=Tryz.func92.trans (congrArg some (by kernel_rfl))
 f266:=Tryz.func115.trans (congrArg some (by kernel_rfl))
 t3:=Tryz.underlying3
 a3:=Tryz.isAgg3
 z3:=Tryz.sizeOf3
 v3:=Tryz.zeroValue3
 t5:=Tryz.underlying5
 a5:=Tryz.isAgg5
 z5:=Tryz.sizeOf5
 v5:=Tryz.zeroValue5
 t9:=Tryz.underlying9
 a9:=Tryz.isAgg9
 z9:=Tryz.sizeOf9
 v9:=Tryz.zeroValue9}
end Go.Proofs
namespace Go.Proofs.YtihbdhjibplldaaGreatDoor
open Go
set_option maxRecDepth 10000
def escB(c:UInt8):List UInt8:=[92,UInt8.ofNat (48+c.toNat / 100),UInt8.ofNat (48+c.toNat / 10 % 10),UInt8.ofNat (48+c.toNat % 10)]
def marksL:List UInt8:=[46,92,34,40,41,59,64,36]
def labB(c:UInt8):List UInt8:=if c.toNat≤32∨127≤c.toNat then escB c else if marksL.contains c then [92,c] else [c]
def zas(l:Lab):List UInt8:=l.flatMap labB
def za7(n:Nm):List UInt8:=if n=[] then [46] else n.flatMap fun l=>zas l++ [46]
theorem zb9{k:Nat}(h:k<256):zao (UInt8.ofNat k)= .int .u8 (k:Int):=by
 unfold zao
 rw[UInt8.toNat_ofNat_of_lt' (by simpa [UInt8.size] using h)]
theorem zdb(l:List UInt8)(c:UInt8):decide (0≤Lib.indexByte l c)=l.contains c:=by
 induction l with
 |nil=>rfl
 |cons b l ih=>
  unfold Lib.indexByte
  rw[List.contains_cons]
  by_cases h:b==c
  ·rw[if_pos h]
   have h':b=c:=by simpa using h
   subst h'
   simp
  ·rw[if_neg h]
   have:(c==b)=false:=by
    have h':¬b=c:=by simpa using h
    exact beq_eq_false_iff_ne.2 (fun e=>h' e.symm)
   rw[this,Bool.false_or,←ih]
   have hge:=Lib.indexByte_ge l c
   by_cases h2:(Lib.indexByte l c== -1)=true
   ·rw[if_pos h2]
    have h3:Lib.indexByte l c= -1:=by simpa using h2
    rw[h3]
   ·rw[if_neg h2]
    have h3:Lib.indexByte l c≠ -1:=by simpa using h2
    exact decide_eq_decide.2 ⟨fun _=>by omega,fun _=>by omega⟩
theorem labB_len(c:UInt8):(labB c).length≤4:=by
 unfold labB escB
 by_cases h1:c.toNat≤32∨127≤c.toNat
 ·rw[if_pos h1];exact Nat.le_refl _
 ·rw[if_neg h1]
  by_cases h2:marksL.contains c=true
  ·rw[if_pos h2];exact(by decide:2≤4)
  ·rw[if_neg h2];exact(by decide:1≤4)
theorem zce(l:Lab):(zas l).length≤4*l.length:=by
 induction l with
 |nil=>simp[zas]
 |cons c l ih=>
  have:=labB_len c
  unfold zas at*
  rw[List.flatMap_cons,List.length_append,List.length_cons];omega
theorem zew(w:World)(c:UInt8):Fn Tryz.prog 66 #[zao c] w (fun v w'=>v=vs (escB c)∧Ext w w'):=by
 have hc:c.toNat<256:=c.toNat_lt
 obtain⟨n,hn⟩:∃n,c.toNat=n:=⟨_,rfl⟩
 have e0:zao c= .int .u8 (n:Int):=by unfold zao;rw[hn]
 rw[e0]
 rw[hn]at hc
 have h100:¬(100:Int)=0:=by decide
 have h10:¬(10:Int)=0:=by decide
 have e1:((n:Nat):Int).tdiv 100=((n / 100:Nat):Int):=by rw[Int.tdiv_eq_ediv_of_nonneg (by omega)];omega
 have e2:((n:Nat):Int).tdiv 10=((n / 10:Nat):Int):=by rw[Int.tdiv_eq_ediv_of_nonneg (by omega)];omega
 have e3:((n / 10:Nat):Int).tmod 10=((n / 10 % 10:Nat):Int):=by rw[Int.tmod_eq_emod_of_nonneg (by omega)];omega
 have e4:((n:Nat):Int).tmod 10=((n % 10:Nat):Int):=by rw[Int.tmod_eq_emod_of_nonneg (by omega)];omega
 have w1:IntKind.u8.wrap ((n / 100:Nat):Int)=((n / 100:Nat):Int):=zgx (by omega) (by omega)
 have w2:IntKind.u8.wrap ((n / 10:Nat):Int)=((n / 10:Nat):Int):=zgx (by omega) (by omega)
 have w3:IntKind.u8.wrap (48+((n / 100:Nat):Int))=((48+n / 100:Nat):Int):=by rw[zgx (by omega) (by omega)];push_cast;rfl
 have w4:IntKind.u8.wrap (48+((n / 10 % 10:Nat):Int))=((48+n / 10 % 10:Nat):Int):=by rw[zgx (by omega) (by omega)];push_cast;rfl
 have w5:IntKind.u8.wrap (48+((n % 10:Nat):Int))=((48+n % 10:Nat):Int):=by rw[zgx (by omega) (by omega)];push_cast;rfl
 have hl:escB c=[92,UInt8.ofNat (48+n / 100),UInt8.ofNat (48+n / 10 % 10),UInt8.ofNat (48+n % 10)]:=by unfold escB;rw[hn]
 refine enter Tryz.func66 Tryz.ntmps66 rfl rfl ?_
 repeat refine c_r ?_
 refine rg0 ?_
 repeat refine c_r ?_
 refine rq ?_;intro gd K hgd hK
 try simp (disch:=assumption) only[go_sem,b_quo,b_rem,e1,e2,e3,e4,w1,w2,↓w3,↓w4,↓w5]
 refine zft (z:= .int .u8 0) (l:=(escB c).map zao) (by rw[hl];rfl) ?_ (by rfl) (by rfl) (by rfl) (by rfl) (fun v hv=>?_) (by rw[hl];simp) ?_
 ·rw[hl]
  simp only[List.map_cons,List.map_nil]
  rw[zb9 (by omega),zb9 (by omega),zb9 (by omega)];rfl
 ·obtain⟨d,_,rfl⟩:=List.mem_map.1 hv;rfl
 intro x1 hX1 hXs hXo
 try simp only[go_sem]
 have hlen4:(escB c).length=4:=rfl
 refine zb7 (l:=escB c) rfl rfl rfl (vr0) (fun j hj=>?_) ?_
 ·obtain⟨a,c2,e,hc2,hgt⟩:=hXo.row
  injection e with e1
  have h2:=hgt j (by simpa using hj)
  rw[←e1,List.getElem_map]at h2
  exact h2
 try simp only[go_sem]
 refine hK _ _ ?_;clear hK hgd;clear K;try clear gd
 repeat refine c_r ?_
 refine rt0 Tryz.ntmps66 ?_
 exact⟨rfl,hX1⟩
theorem zgu(w:World)(c:UInt8):Fn Tryz.prog 67 #[vs marksL,zao c] w (fun v w'=>v=vi (Lib.indexByte marksL c)∧w'=w):=
 Fn.of_calls (Calls.mono (Any.strings_IndexByte Tryz.lays137 ⟨marksL.toArray⟩ (c.toNat:Int) w) fun _ _ ⟨he,hw⟩=>⟨_,he,by simp,hw⟩)
theorem Bld.ext'{B:Nat}{w x:World}{b:Nat}{bs:List UInt8}(h:Bld B w b bs)(hE:Ext w x):Bld B x b bs:=by
 obtain⟨p,v,hp,hb,hown⟩:=h.ex
 exact⟨p,v,hp,hE.at hb,hown.ext hE⟩
theorem LText_ok(w:World)(l:Lab)(hl:l.length≤1000000000):Fn Tryz.prog 48 #[vs l] w (fun v w'=>v=vs (zas l)∧Ext w w'):=by
 refine enter Tryz.func48 Tryz.ntmps48 rfl rfl ?_
 repeat refine c_r ?_
 refine rg0 ?_
 repeat refine c_r ?_
 refine rg0 ?_
 refine zam ?_
 intro w1 hE1 hs1 hA
 repeat refine c_r ?_
 refine rq ?_;intro gd K hgd hK
 try simp only[go_sem]
 refine Fn.mono (zc5 _ _ (by omega)) ?_
 rintro _ w3 ⟨hE3,cap,rfl,hit⟩
 try simp only[go_sem]
 refine hK _ _ ?_;clear hK hgd;clear K;try clear gd
 have hA3:=hE3.at hA
 have s3:=hE3.size
 repeat refine c_r ?_
 refine zcs (g:=91) (cap:=cap) (vq0) rfl (hit (fun b=>b=w.heap.size) (fun b hb=>by omega)) (Keep.refl _ _) (Nat.le_refl _) (fun b hb=>by omega)
  (fun x A args h=>by rw[h];rfl)
  (fun pre A=>Ext w A∧Bld (w3.heap.size+2) A w.heap.size (zas (l.take pre.length)))
  (fun _ _ _=>False) ?_ (fun _ _ _ _ h _=>h.elim) ?_ ?_ ?_ (fun _ _ _ _ _ _ _ h _=>h.elim)
 ·rintro pre A B ⟨h1,p,v,hp,hb,hown⟩ hk
  refine⟨Keep.to_ext h1 rfl (fun b hb=>by unfold two at hb;omega) hk,p,v,hp,(hk.block _ (Array.getElem?_eq_some_iff.1 hb).1 (by unfold two;omega)).trans hb,hown.keep hk (fun b hb h=>by have:=(hown.ge hb).1;unfold two at h;omega)⟩
 ·exact⟨hE1.trans hE3,_,_,.inl rfl,hA3,Own.nil _ _ _⟩
 ·rintro lp pre x suf A args hxs hszA ⟨hEA,hB⟩ rfl
  obtain⟨hk,rfl⟩:=zbL hxs
  dsimp only
  refine rq ?_;intro gd K hgd hK
  try simp only[go_sem]
  refine hK _ _ ?_;clear hK hgd;clear K;try clear gd
  refine zaE ?_
  refine⟨rfl,KeepB.refl _ _ _,fun A2 hA2=>?_⟩
  obtain⟨c,hc⟩:∃c,l[pre.length]=c:=⟨_,rfl⟩
  rw[hc]
  have hK2:Bld (w3.heap.size+2) A2 w.heap.size (zas (l.take pre.length)):=by
   obtain⟨p,v,hp,hb,hown⟩:=hB
   exact⟨p,v,hp,(hA2.block _ (Array.getElem?_eq_some_iff.1 hb).1 (by unfold two;omega)).trans hb,hown.keep hA2 (fun b hb h=>by have:=(hown.ge hb).1;unfold two at h;omega)⟩
  have hE2:Ext w A2:=Keep.to_ext hEA rfl (fun b hb=>by unfold two at hb;omega) hA2
  have hsA2:=hA2.size
  have htl:(zas (l.take pre.length)).length≤4*l.length:=by
   have h1:=zce (l.take pre.length)
   rw[List.length_take]at h1;omega
  have htk:zas (l.take (pre.length+1))=zas (l.take pre.length)++labB c:=by
   rw[zal hk,hc];unfold zas;rw[List.flatMap_append];simp
  have fin:∀{z:World} {bs:List UInt8},bs=labB c→Bld (w3.heap.size+2) z w.heap.size (zas (l.take pre.length)++bs)→Keep (fun i=>i=w.heap.size∨w3.heap.size+2≤i) A2 z→
    (Ext w z∧Bld (w3.heap.size+2) z w.heap.size (zas (l.take (pre++ [(c,pre.length)]).length)))∧KeepB (w3.heap.size+2) (fun b=>b=w.heap.size) A2 z:=fun {z bs} hbs hBz hkz=>by
   refine⟨⟨Keep.to_ext hE2 rfl (fun b hb=>by omega) hkz,?_⟩,hkz.toB (by omega) (fun i hi h=>by omega)⟩
   rw[List.length_append,List.length_singleton,htk,←hbs];exact hBz
  repeat refine c_r ?_
  refine zav (Q:=fun e σ' ds' v'=>e= .normal∧ds'=[]∧v'=A2∧σ' 5=zao c∧σ' 3= .pointer (some ⟨w.heap.size,0,Option.none⟩)∧σ' 10= .bool (decide (c.toNat≤32∨127≤c.toNat))) ?_ ?_
  ·refine rq ?_;intro gd K hgd hK
   have hg2:∀n σ b,zaJ gd n σ (some (2,b))=zat (ev n σ (.tmp 13)) b:=(fun n σ b=>by rw[zag,show gd 2=some 13 from(by rw[hgd];rfl)];rfl)
   by_cases c1:(c.toNat:Int)≤32
   ·try simp (disch:=first|omega|assumption|rfl) only[go_sem,zao,decide_eq_true c1,↓hg2]
    refine hK _ _ ?_;clear hK hgd;clear K;try clear gd
    refine⟨rfl,rfl,rfl,by simp only[go_sem,zao],vq0,?_⟩
    rw[show decide (c.toNat≤32∨127≤c.toNat)=true from decide_eq_true (.inl (by omega))]
    simp only[go_sem]
   ·try simp (disch:=first|omega|assumption|rfl) only[go_sem,zao,decide_eq_false c1,↓hg2]
    refine hK _ _ ?_;clear hK hgd;clear K;try clear gd
    refine⟨rfl,rfl,rfl,by simp only[go_sem,zao],vq0,?_⟩
    rw[show decide (c.toNat≤32∨127≤c.toNat)=decide ((127:Int)≤(c.toNat:Int)) from decide_eq_decide.2 ⟨fun h=>by omega,fun h=> .inr (by omega)⟩]
    simp only[go_sem]
  rintro _ σ1 _ v1 ⟨rfl,rfl,hv1,h5,h3,h10⟩
  rw[hv1]
  clear hv1 v1
  repeat refine c_r ?_
  refine zes (t:=decide (c.toNat≤32∨127≤c.toNat)) ((vq1 h10)) ?_ ?_
  ·intro hcc
   simp only[decide_eq_true_eq]at hcc
   have hlb:labB c=escB c:=by unfold labB;rw[if_pos hcc]
   repeat refine c_r ?_
   refine rq ?_;intro gd K hgd hK
   try simp (disch:=first|omega|assumption|rfl) only[go_sem,h5,h3]
   refine Fn.mono (zew A2 c) ?_
   rintro _ z1 ⟨rfl,hz1⟩
   try simp (disch:=first|omega|assumption|rfl) only[go_sem,h3]
   have hBz:=hK2.ext' hz1
   refine Fn.mono (zay hBz (by have:=hz1.size;omega) (by have:(escB c).length=4:=rfl;omega)) ?_
   rintro _ z2 ⟨hBz2,hkz2⟩
   try simp only[go_sem]
   refine hK _ _ ?_;clear hK hgd;clear K;try clear gd
   repeat refine c_r ?_
   exact fin hlb.symm hBz2 ((hz1.mono (fun i _ h=>h.elim)).trans hkz2)
  ·intro hcc
   simp only[decide_eq_false_iff_not]at hcc
   repeat refine c_r ?_
   refine rq ?_;intro gd K hgd hK
   try simp (disch:=first|omega|assumption|rfl) only[go_sem,h5]
   refine Fn.mono (zgu A2 c) ?_
   rintro _ y0 ⟨rfl,hy0⟩
   try simp only[go_sem]
   rw[hy0]
   clear hy0 y0
   refine hK _ _ ?_;clear hK hgd;clear K;try clear gd
   have hhas:=zdb marksL c
   have tail:∀{z:World} {σ':Sto} {bs:List UInt8},bs++ [c]=labB c→Bld (w3.heap.size+2) z w.heap.size (zas (l.take pre.length)++bs)→Keep (fun i=>i=w.heap.size∨w3.heap.size+2≤i) A2 z→σ' 5=zao c→σ' 3= .pointer (some ⟨w.heap.size,0,Option.none⟩)→bs.length≤4→
     Fn Tryz.prog 68 #[.pointer (some ⟨w.heap.size,0,Option.none⟩),zao c] z (fun _ z'=>(Ext w z'∧Bld (w3.heap.size+2) z' w.heap.size (zas (l.take (pre++ [(c,pre.length)]).length)))∧KeepB (w3.heap.size+2) (fun b=>b=w.heap.size) A2 z'):=fun {z σ' bs} hbs hBz hkz _ _ hb4=>by
    refine Fn.mono (zaH hBz (by have:=hkz.size;omega) (by simp;omega)) ?_
    rintro _ z' ⟨h1,h2⟩
    exact fin hbs (by rw[←List.append_assoc];exact h1) (hkz.trans h2)
   repeat refine c_r ?_
   refine zes (t:=marksL.contains c) (by rw[←hhas];simp only[go_sem]) ?_ ?_
   ·intro hm
    have hlb:labB c=[92,c]:=by unfold labB;rw[if_neg hcc,if_pos hm]
    repeat refine c_r ?_
    refine rq ?_;intro gd K hgd hK
    try simp (disch:=first|omega|assumption|rfl) only[go_sem,h3]
    refine Fn.mono (zaH (c:=92) hK2 (by omega) (by omega)) ?_
    rintro _ z1 ⟨hBz1,hkz1⟩
    try simp only[go_sem]
    refine hK _ _ ?_;clear hK hgd;clear K;try clear gd
    repeat refine c_r ?_
    refine rq ?_;intro gd K hgd hK
    try simp (disch:=first|omega|assumption|rfl) only[go_sem,h3,h5]
    refine Fn.mono (tail (σ':=σ1) (bs:=[92]) hlb.symm hBz1 hkz1 h5 h3 (by decide)) ?_
    rintro _ z2 hz2
    try simp only[go_sem]
    refine hK _ _ ?_;clear hK hgd;clear K;try clear gd
    repeat refine c_r ?_
    exact hz2
   ·intro hm
    have hlb:labB c=[c]:=by unfold labB;rw[if_neg hcc,if_neg (by rw[hm];exact Bool.false_ne_true)]
    repeat refine c_r ?_
    refine rq ?_;intro gd K hgd hK
    try simp (disch:=first|omega|assumption|rfl) only[go_sem,h3,h5]
    refine Fn.mono (tail (σ':=σ1) (bs:=[]) hlb.symm (by simpa using hK2) (Keep.refl _ _) h5 h3 (by decide)) ?_
    rintro _ z2 hz2
    try simp only[go_sem]
    refine hK _ _ ?_;clear hK hgd;clear K;try clear gd
    repeat refine c_r ?_
    exact hz2
 ·intro A hszA ⟨hEA,hB⟩ hD
  rw[List.take_of_length_le (by simp)]at hB
  have hlt:=zce l
  repeat refine c_r ?_
  refine rq ?_;intro gd K hgd hK
  try simp only[go_sem]
  refine Fn.mono (zb3 hB (by omega)) ?_
  rintro _ z ⟨rfl,hkz⟩
  try simp only[go_sem]
  refine hK _ _ ?_;clear hK hgd;clear K;try clear gd
  repeat refine c_r ?_
  refine ze0 (v:=vs (zas l)) (.inr rfl) (by rfl) Tryz.ntmps48 (vq0) ((hkz.block _ (by omega) (by omega)).trans hD) ?_
  intro Z hkZ hsZ
  exact⟨rfl,Keep.to_ext (Keep.to_ext hEA rfl (fun b hb=>by omega) hkz) rfl (fun b hb=>by omega) hkZ⟩
def quoB(c:UInt8):Lab:=if c.toNat<32∨126<c.toNat then escB c else if c=34∨c=92 then [92,c] else [c]
def quoL(l:Lab):Lab:=l.flatMap quoB
def quoT(l:Lab):Lab:=34::(quoL l++ [34])
theorem quoB_len(c:UInt8):(quoB c).length≤4:=by
 unfold quoB escB
 split
 ·exact Nat.le_refl _
 ·split
  ·exact(by decide:2≤4)
  ·exact(by decide:1≤4)
theorem zdO(l:Lab):(quoL l).length≤4*l.length:=by
 induction l with
 |nil=>simp[quoL]
 |cons c l ih=>
  have:=quoB_len c
  unfold quoL at*
  rw[List.flatMap_cons,List.length_append,List.length_cons];omega
theorem quote_ok(w:World)(l:Lab)(hl:l.length≤1000000000):Fn Tryz.prog 74 #[vs l] w (fun v w'=>v=vs (quoT l)∧Ext w w'):=by
 refine enter Tryz.func74 Tryz.ntmps74 rfl rfl ?_
 refine go trivial ?_
 refine zam ?_
 intro w1 hE1 hs1 hA
 repeat refine c_r ?_
 refine rq ?_;intro gd K hgd hK
 try simp only[go_sem]
 refine zfr rfl rfl rfl (vr0) ?_
 intro c cur w2 hlc hcs hct hE2 hs2 hb2
 try simp only[go_sem]
 refine hK _ _ ?_;clear hK hgd;clear K;try clear gd
 have hgx:∀i (h:i<l.length),zad w2 (some ⟨w1.heap.size,i,Option.none⟩)=some (zao l[i]):=fun i hi=>by
  refine zaa hb2 ?_
  have:(cur.toList.take l.length)[i]? =some (zao l[i]):=by rw[hct,List.getElem?_map,List.getElem?_eq_getElem hi];rfl
  rw[List.getElem?_take,if_pos hi]at this
  simpa using this
 have hE12:=hE1.trans hE2
 have hB0:Bld (w.heap.size+1) w2 w.heap.size []:=⟨_,_,.inl rfl,hE2.at hA,Own.nil _ _ _⟩
 refine go trivial ?_
 refine zbq l.length (fun i σ v=>σ 3= .pointer (some ⟨w.heap.size,0,Option.none⟩)∧σ 7= .slice (some ⟨w1.heap.size,0,Option.none⟩) l.length c∧σ 8=vi l.length∧σ 9=vi i∧Ext w v∧(∀i (h:i<l.length),zad v (some ⟨w1.heap.size,i,Option.none⟩)=some (zao l[i]))∧Bld (w2.heap.size) v w.heap.size (quoL (l.take i))∧w2.heap.size≤v.heap.size) ?_ ?_ ?_
 ·exact⟨vr0,vr0,vr0,vr0,hE12,hgx,⟨⟨_,_,.inl rfl,hE2.at hA,Own.nil _ _ _⟩⟩,Nat.le_refl _⟩
 ·rintro i σ v hi p ⟨s3,s7,s8,s9,hE,hat,hB,hsv⟩
  have g:=hat i hi
  obtain⟨d,hd⟩:∃d,l[i]=d:=⟨_,rfl⟩
  rw[hd]at g
  replace g:zad v (some ⟨w1.heap.size,i,Option.none⟩)=some (.int .u8 (d.toNat:Int)):=g
  have hi0:(0:Int)≤(i:Int):=by omega
  have hi1:(i:Int)<(l.length:Int):=by omega
  have hi2:(i:Int)+1=((i+1:Nat):Int):=by push_cast;rfl
  have htl:(quoL (l.take i)).length≤4*l.length:=by
   have h1:=zdO (l.take i)
   rw[List.length_take]at h1;omega
  have htk:quoL (l.take (i+1))=quoL (l.take i)++quoB d:=by
   rw[zal hi,hd];unfold quoL;rw[List.flatMap_append,List.flatMap_singleton]
  -- one more
  have fin:∀{z:World} {bs:List UInt8},bs=quoB d→Bld w2.heap.size z w.heap.size (quoL (l.take i)++bs)→Keep (fun i=>i=w.heap.size∨w2.heap.size≤i) v z→
    Ext w z∧(∀i (h:i<l.length),zad z (some ⟨w1.heap.size,i,Option.none⟩)=some (zao l[i]))∧Bld (w2.heap.size) z w.heap.size (quoL (l.take (i+1)))∧w2.heap.size≤z.heap.size:=fun {z bs} hbs hBz hkz=>
   ⟨Keep.to_ext hE rfl (fun b hb=>by omega) hkz,fun j hj=>by
    have h1:=hkz.block w1.heap.size (by omega) (by omega)
    have h2:=hat j hj
    show z.cell? _=_
    rw[zb0 (a:=⟨w1.heap.size,j,Option.none⟩) h1]
    exact h2,by rw[htk,←hbs];exact hBz,by have:=hkz.size;omega⟩
  refine go (an8 s3 s7 s8 s9 p g Nat.zero_add (an2 hi0 hi1)) ?_
  by_cases c1:(d.toNat:Int)<32
  ·refine rgg [(2,16)] (decide_eq_true c1) ?_
   have hq:quoB d=escB d:=by unfold quoB;rw[if_pos (.inl (by omega))]
   refine go trivial ?_
   refine rc trivial (zew v d) ?_
   rintro _ v1 ⟨rfl,hEv1⟩
   refine rd s3 (zay (s:=escB d) (hB.ext' hEv1) (by have:=hEv1.size;omega) (by have:(escB d).length=4:=rfl;omega)) ?_
   rintro _ v2 ⟨hB2,hk2⟩
   refine rgo (an5 s3 s7 s8 s9 hi2) ?_
   obtain⟨f1,f2,f3,f4⟩:=fin hq.symm hB2 ((hEv1.mono fun _ _ h=>h.elim).trans hk2)
   exact⟨rfl,(vq1 s3),(vq1 s7),(vq1 s8),(vq1 hi2),f1,f2,f3,f4⟩
  by_cases c2:(126:Int)<(d.toNat:Int)
  ·refine rgg [(2,16)] (an2 (decide_eq_false c1) (decide_eq_true c2)) ?_
   have hq:quoB d=escB d:=by unfold quoB;rw[if_pos (.inr (by omega))]
   refine go trivial ?_
   refine rc trivial (zew v d) ?_
   rintro _ v1 ⟨rfl,hEv1⟩
   refine rd s3 (zay (s:=escB d) (hB.ext' hEv1) (by have:=hEv1.size;omega) (by have:(escB d).length=4:=rfl;omega)) ?_
   rintro _ v2 ⟨hB2,hk2⟩
   refine rgo (an5 s3 s7 s8 s9 hi2) ?_
   obtain⟨f1,f2,f3,f4⟩:=fin hq.symm hB2 ((hEv1.mono fun _ _ h=>h.elim).trans hk2)
   exact⟨rfl,(vq1 s3),(vq1 s7),(vq1 s8),(vq1 hi2),f1,f2,f3,f4⟩
  refine rgg [(2,16)] (an2 (decide_eq_false c1) (decide_eq_false c2)) ?_
  refine go trivial ?_
  by_cases c3:d=34
  ·have hq:quoB d=[92,d]:=by subst c3;rfl
   refine rgg [(2,23)] (show decide ((d.toNat:Int)=34)=true by subst c3;rfl) ?_
   refine go trivial ?_
   refine rc s3 (zaH (c:=92) hB hsv (by omega)) ?_
   rintro _ v1 ⟨hB1,hk1⟩
   refine rgo trivial ?_
   refine rc s3 (zaH (c:=d) hB1 (by have:=hk1.size;omega) (by simp;omega)) ?_
   rintro _ v2 ⟨hB2,hk2⟩
   refine rgo (an5 s3 s7 s8 s9 hi2) ?_
   rw[List.append_assoc]at hB2
   obtain⟨f1,f2,f3,f4⟩:=fin hq.symm hB2 (hk1.trans hk2)
   exact⟨rfl,(vq1 s3),(vq1 s7),(vq1 s8),(vq1 hi2),f1,f2,f3,f4⟩
  have d3:decide ((d.toNat:Int)=34)=false:=decide_eq_false fun h=>c3 (UInt8.toNat_inj.1 (by have:(34:UInt8).toNat=34:=rfl;omega))
  by_cases c4:d=92
  ·have hq:quoB d=[92,d]:=by subst c4;rfl
   refine rgg [(2,23)] (an2 d3 (show decide ((d.toNat:Int)=92)=true by subst c4;rfl)) ?_
   refine go trivial ?_
   refine rc s3 (zaH (c:=92) hB hsv (by omega)) ?_
   rintro _ v1 ⟨hB1,hk1⟩
   refine rgo trivial ?_
   refine rc s3 (zaH (c:=d) hB1 (by have:=hk1.size;omega) (by simp;omega)) ?_
   rintro _ v2 ⟨hB2,hk2⟩
   refine rgo (an5 s3 s7 s8 s9 hi2) ?_
   rw[List.append_assoc]at hB2
   obtain⟨f1,f2,f3,f4⟩:=fin hq.symm hB2 (hk1.trans hk2)
   exact⟨rfl,(vq1 s3),(vq1 s7),(vq1 s8),(vq1 hi2),f1,f2,f3,f4⟩
  have d4:decide ((d.toNat:Int)=92)=false:=decide_eq_false fun h=>c4 (UInt8.toNat_inj.1 (by have:(92:UInt8).toNat=92:=rfl;omega))
  have hq:quoB d=[d]:=by unfold quoB;rw[if_neg (by omega),if_neg (by simp[c3,c4])]
  refine rgg [(2,23)] (an2 d3 d4) ?_
  refine go trivial ?_
  refine rc s3 (zaH (c:=d) hB hsv (by omega)) ?_
  rintro _ v2 ⟨hB2,hk2⟩
  refine rgo (an5 s3 s7 s8 s9 hi2) ?_
  obtain⟨f1,f2,f3,f4⟩:=fin hq.symm hB2 hk2
  exact⟨rfl,(vq1 s3),(vq1 s7),(vq1 s8),(vq1 hi2),f1,f2,f3,f4⟩
 ·rintro σ v p ⟨s3,s7,s8,s9,hE,hat,hB,hsv⟩
  rw[List.take_length]at hB
  have hql:=zdO l
  refine go (an4 s7 s8 s9 p) ?_
  refine rc s3 (zb3 hB (by omega)) ?_
  rintro _ v1 ⟨rfl,hk1⟩
  have l1:([34]:Lab).length+(quoL l).length≤9223372036854775807:=by simp;omega
  have l2:(34::quoL l:Lab).length+([34]:Lab).length≤9223372036854775807:=by simp;omega
  refine rgo (an2 l1 l2) ?_
  refine rt0 Tryz.ntmps74 ?_
  exact⟨rfl,Keep.to_ext hE rfl (fun b hb=>by omega) hk1⟩
def zaM(k:Nat)(l:List UInt8):List (List UInt8):=(List.range ((l.length+(k - 1)) / k)).map fun i=>(l.drop (i*k)).take k
def encCh(w0:World)(x:List UInt8)(_:World)(args:Array Value):Prop:=∃v,args=#[v]∧Row w0 v (x.map zao)
theorem zbY(k:Nat)(l:List UInt8):(zaM k l).length=(l.length+(k - 1)) / k:=by unfold zaM;simp
theorem zdr{k:Nat}{l:List UInt8}{i:Nat}(h:i<(zaM k l).length):(zaM k l)[i]=(l.drop (i*k)).take k:=by
 simp[zaM]
theorem zjF{k:Nat}(hk:1≤k){l:List UInt8}{i:Nat}:i<(zaM k l).length↔i*k<l.length:=by
 rw[zbY]
 constructor
 ·intro h
  have h1:(i+1)*k≤l.length+(k - 1):=(Nat.le_div_iff_mul_le (by omega)).1 h
  rw[Nat.add_mul]at h1
  omega
 ·intro h
  have:(i+1)≤(l.length+(k - 1)) / k:=(Nat.le_div_iff_mul_le (by omega)).2 (by rw[Nat.add_mul];omega)
  omega
theorem s_sl3{P:Program}{e:TypeId}{ad:Option Addr}{n c:Nat}{k k' k2:IntKind}{l m x:Int}(h1:0≤l)(h3:l≤m)(h4:m≤x)(h5:x≤(c:Int)):
  slD P (some (.slice e)) (.slice ad n c) (some (.int k l)) (some (.int k' m)) (some (.int k2 x))=
   (bif (P.info? e).isSome then some (.slice (if x.toNat=l.toNat then ad else adr ad (l.toNat*tyS P e)) (m.toNat - l.toNat) (x.toNat - l.toNat)) else Option.none):=by
 have g1:slB (some (Value.int k l))=some l.toNat:=by simp[slB,h1]
 have g2:slH (some (Value.int k' m)) n=some m.toNat:=by simp[slH,show 0≤m by omega]
 have g3:slH (some (Value.int k2 x)) c=some x.toNat:=by simp[slH,show 0≤x by omega]
 unfold slD
 simp only[g1,g2,g3]
 rw[if_pos (by refine⟨by omega,by omega,by omega,fun _=>rfl⟩)]
theorem zjG{w0 W0:World}{n0:Nat}{C:Nat→Prop}{b1 b2 k:Nat}{T1 T2:TypeId}{fr1 fr2:Nat×Nat}{v:Value}{l:List UInt8}(hE0:Ext w0 W0)(hrow:Row w0 v (l.map zao))(h1:W0.heap[b1]? =some (.cells #[v] T1 fr1))(h2:W0.heap[b2]? =some (.cells #[vi k] T2 fr2))
  (hb1:b1<n0) (hb2:b2<n0) (hc1:¬C b1) (hc2:¬C b2) (hC:∀b,C b→w0.heap.size≤b) (hn0:w0.heap.size≤n0) (hk:1≤k) (hk1:k≤1000) (hl:l.length≤1000000):
  Iter Tryz.prog 118 #[.pointer (some ⟨b1,0,Option.none⟩),.pointer (some ⟨b2,0,Option.none⟩)] W0 n0 C (zaM k l) (encCh w0):=by
 intro lp J Jx W hW hnW hJ hJx hY h0
 obtain⟨a,c,rfl,hc,hg⟩:=hrow
 rw[List.length_map]at hc h1
 have cell1:∀{v:World},KeepB n0 C W v→zad v (some ⟨b1,0,Option.none⟩)=some (.slice a l.length c):=fun hk=>zbs hk hb1 hc1 (zaa (hW.at h1) rfl)
 have cell2:∀{v:World},KeepB n0 C W v→zad v (some ⟨b2,0,Option.none⟩)=some (vi k):=fun hk=>zbs hk hb2 hc2 (zaa (hW.at h2) rfl)
 obtain⟨L,hL⟩:∃L,l.length=L:=⟨_,rfl⟩
 rw[hL]at cell1 hc hl
 refine enter Tryz.func118 Tryz.ntmps118 rfl rfl ?_
 refine go trivial ?_
 refine zbg (fun m σ ds v=>ds=[]∧∃i,i+m=(zaM k l).length∧σ 4=vi (i*k:Nat)∧σ 0= .func (.yield lp) #[] #[]∧σ 1= .pointer (some ⟨b1,0,Option.none⟩)∧σ 2= .pointer (some ⟨b2,0,Option.none⟩)∧J ((zaM k l).take i) v∧KeepB n0 C W v) (zaM k l).length ?_ ?_
 ·exact⟨rfl,0,by omega,by simp only[Nat.zero_mul];first| (simp only[go_sem];done)| (simp only[go_sem];rfl),vr0,vr0,vr0,by simpa using h0,KeepB.refl _ _ _⟩
 rintro m σ ds v ⟨rfl,i,him,h4,f0,f1,f2,hj,hK0⟩
 have p1:=cell1 hK0
 have p2:=cell2 hK0
 have hlt:=zjF hk (l:=l) (i:=i)
 rw[hL]at hlt
 by_cases hi:i<(zaM k l).length
 ·have hik:=hlt.1 hi
  have d1:decide (((i*k:Nat):Int)<(L:Int))=true:=decide_eq_true (by omega)
  refine go (an6 h4 f0 f1 f2 p1 d1) ?_
  obtain⟨e,he⟩:∃e,min k (L - i*k)=e:=⟨_,rfl⟩
  have hikm:i*k≤1000000:=by omega
  have z:(0:Int)≤((i*k:Nat):Int):=by omega
  have zl:((i*k:Nat):Int)≤(L:Int):=by omega
  have em:min (k:Int) ((L - i*k:Nat):Int)=(e:Int):=by omega
  have hsum:((i*k:Nat):Int)+(e:Int)=((i*k+e:Nat):Int):=by omega
  have hsl:slD Tryz.prog (some (.slice 5)) (.slice a L c) (some (vi (i*k:Nat))) (some (vi (i*k+e:Nat))) (some (vi (i*k+e:Nat)))=some (.slice (adr a (i*k)) e e):=by
   rw[s_sl3 z (by omega) (Int.le_refl _) (by omega)]
   simp only[Int.toNat_natCast,Nat.add_sub_cancel_left]
   rw[if_neg (by omega),show tyS Tryz.prog 5=1 from rfl,Nat.mul_one]
   rfl
  refine zaS (fun _=>false) [(0,true),(1,true),(2,true),(3,true),(4,true),(5,false),(6,true)] NoS mixed (by kernel_rfl) ?_;intro gd K x hgd hx hxe hK;have hx0:=zaP hxe;clear hxe
  have q1:=zab hx0 p1
  have q2:=zab hx0 p2
  simp (disch:=first|omega|assumption|rfl) only[go_sem,f1,f2,q1,q2,h4,z,zl]
  refine zfU (vr0) (vr0) ?_
  rw[em]
  refine⟨.inr (Keep.refl _ _),?_⟩
  simp (disch:=first|omega|assumption|rfl) only[go_sem]
  refine hK _ _ ?_;clear hK hgd;clear K;try clear gd
  have hKx:KeepB n0 C W x:=hK0.trans (hx0.toB (by have:=hK0.size;omega) (fun _ _ h=>h.elim))
  repeat refine c_r ?_
  refine rq ?_;intro gd K hgd hK
  try simp (disch:=first|omega|assumption|rfl) only[go_sem,f0,f1,q1,h4,hsum,hsl]
  have hcg:=zdr hi
  have hel:((l.drop (i*k)).take k).length=e:=by rw[List.length_take,List.length_drop,hL];exact he
  refine Yld.mono (hY ((zaM k l).take i) (zaM k l)[i] ((zaM k l).drop (i+1)) x _ (zbM hi) (hJ _ _ _ hj hx0) hKx ⟨_,rfl,adr a (i*k),e,by rw[hcg,List.length_map,hel],by rw[hcg,List.length_map,hel];exact Nat.le_refl _,fun j hjj=>?_⟩) ?_
  ·rw[hcg,List.length_map,hel]at hjj
   have:=hg (i*k+j) (by rw[List.length_map];omega)
   rw[List.getElem_map]at this
   rw[zdw]
   simp only[hcg,List.getElem_map,List.getElem_take,List.getElem_drop]
   exact this
  rintro u y (⟨rfl,hj',hk'⟩| ⟨rfl,hjx⟩)
  ·try simp only[go_sem]
   refine hK _ _ ?_;clear hK hgd;clear K;try clear gd
   have hK1:=hKx.trans hk'
   have q3:=cell2 hK1
   have hnx:((i*k:Nat):Int)+(k:Int)=(((i+1)*k:Nat):Int):=by rw[Nat.add_mul,Nat.one_mul];omega
   refine go (an5 f0 f1 f2 h4 (an2 q3 hnx)) ?_
   refine⟨m - 1,by omega,rfl,i+1,by omega,(vq1 hnx),(vq1 f0),(vq1 f1),(vq1 f2),?_,hK1⟩
   rw[zal hi];exact hj'
  ·try simp only[go_sem]
   refine hK _ _ ?_;clear hK hgd;clear K;try clear gd
   refine go trivial ?_
   exact zaA (by simp) rfl (.inr ⟨_,_,_,zbM hi,hjx⟩)
 ·have hik:¬i*k<L:=fun h=>hi (hlt.2 h)
  have d1:decide (((i*k:Nat):Int)<(L:Int))=false:=decide_eq_false (by omega)
  refine go (an6 h4 f0 f1 f2 p1 d1) ?_
  refine zaA (by simp) rfl (.inl ?_)
  rw[List.take_of_length_le (by omega)]at hj
  exact hj
theorem Chunk_ok{w0 w:World}(hE0:Ext w0 w){v:Value}{l:List UInt8}(hrow:Row w0 v (l.map zao)){k:Nat}(hk:1≤k)(hk1:k≤1000)(hl:l.length≤1000000):
  Fn Tryz.prog 98 #[v,vi k] w (fun u w'=>Ext w w'∧∃cap,u= .func (.func 118) #[] cap∧
   ∀C:Nat→Prop,(∀b,C b→w0.heap.size≤b∧b<w.heap.size)→Iter Tryz.prog 118 cap w' w'.heap.size C (zaM k l) (encCh w0)):=by
 have hs0:=hE0.size
 obtain⟨a,c,hv,hc,hg⟩:=id hrow
 have d0:decide ((k:Int)<1)=false:=decide_eq_false (by omega)
 refine enter Tryz.func98 Tryz.ntmps98 rfl rfl ?_
 repeat refine c_r ?_
 refine rg0 ?_
 repeat refine c_r ?_
 rw[zaB,hv]
 refine zfy ?_
 intro w2 hE2 hs2 hA1 hA2
 have q2:zad w2 (some ⟨w.heap.size+1,0,Option.none⟩)=some (vi k):=zaa hA2 rfl
 refine go (an2 q2 d0) ?_
 refine rt0 Tryz.ntmps98 ?_
 exact⟨hE2,_,rfl,fun C hC=>zjG (hE0.trans hE2) (hv▸hrow) hA1 hA2 (by omega) (by omega) (fun h=>by have:=hC _ h;omega) (fun h=>by have:=hC _ h;omega) (fun b h=>(hC b h).1) (by omega) hk hk1 hl⟩
def hexS:Lab:=[48,49,50,51,52,53,54,55,56,57,97,98,99,100,101,102]
def hexD(k:Nat):UInt8:=hexS.getD k 0
def hexB(c:UInt8):Lab:=[hexD (c.toNat / 16),hexD (c.toNat % 16)]
def hexT(l:List UInt8):Lab:=l.flatMap hexB
theorem hexS_get{k:Nat}(h:k<hexS.length):hexS[k]=hexD k:=by
 unfold hexD
 rw[List.getD_eq_getElem?_getD,List.getElem?_eq_getElem h];rfl
theorem ix_hex{k:Nat}(h:k<16):ixSD (some .string) (.string ⟨#[48,49,50,51,52,53,54,55,56,57,97,98,99,100,101,102]⟩) (.int .u8 (k:Int))=some (zao (hexD k)):=by
 have h2:((k:Nat):Int).toNat<hexS.length:=by rw[Int.toNat_natCast];exact h
 show ixSD (some .string) (vs hexS) (.int .u8 (k:Int))=_
 rw[zhU (by omega) h2]
 have:hexS[((k:Nat):Int).toNat]'h2=hexD k:=hexS_get h2
 rw[this];rfl
theorem b_and15{P:Program}{t:TypeId}{n:Nat}(h:n<256):binV P .and t (.int .u8 (n:Int)) (.int .u8 15)=some (.int .u8 ((n % 16:Nat):Int)):=by
 have:=(by decide+kernel:∀n,n<256→IntKind.u8.wrap ((BitVec.ofInt 8 ((n:Nat):Int) &&& BitVec.ofInt 8 15).toNat:Int)=((n % 16:Nat):Int)) n h
 show some (Value.int .u8 (IntKind.u8.wrap ((BitVec.ofInt 8 ((n:Nat):Int) &&& BitVec.ofInt 8 15).toNat:Int)))=_
 rw[this]
theorem b_shr4{P:Program}{t:TypeId}{n:Nat}:binV P .shr t (.int .u8 (n:Int)) (.int .u64 4)=some (.int .u8 ((n / 16:Nat):Int)):=by
 show some (Value.int .u8 (Int.fdiv (n:Int) (2 ^ (min (Int.toNat 4) 8))))=_
 have:(2:Int) ^ (min (Int.toNat 4) 8)=((16:Nat):Int):=by decide
 rw[this,Int.fdiv_eq_ediv_of_nonneg _ (by omega)];rfl
theorem zcy(l:List UInt8):(hexT l).length=2*l.length:=by
 induction l with
 |nil=>rfl
 |cons c l ih=>unfold hexT at*;rw[List.flatMap_cons,List.length_append,ih,List.length_cons];simp[hexB];omega
theorem hex_ok{w:World}{v:Value}{l:List UInt8}(h:Row w v (l.map zao))(hl:l.length≤1000000):Fn Tryz.prog 77 #[v] w (fun u w'=>u=vs (hexT l)∧Ext w w'):=by
 obtain⟨a,c,rfl,hc,hg⟩:=h
 rw[List.length_map]at hc
 rw[List.length_map]
 refine enter Tryz.func77 Tryz.ntmps77 rfl rfl ?_
 refine go trivial ?_
 refine zbq l.length (fun i σ x=>σ 6= .slice a l.length c∧σ 7=vi l.length∧σ 8=vi i∧(∃ov,σ 3=ov∧Own w.heap.size x 5 ov ((hexT (l.take i)).map zao))∧Ext w x) ?_ ?_ ?_
 ·exact⟨vr0,vr0,vr0,⟨_,vr0,Own.nil _ _ _⟩,Keep.refl _ _⟩
 ·rintro i σ x hi p ⟨h6,h7,h8,⟨ov,h3,ho⟩,hE⟩
  have g:=zab hE (hg i (by rw[List.length_map];exact hi))
  rw[List.getElem_map]at g
  obtain⟨xa,rfl⟩:=Option.isSome_iff_exists.1 (zap g)
  obtain⟨k,hk⟩:∃k,l[i].toNat=k:=⟨_,rfl⟩
  have hk256:k<256:=hk▸l[i].toNat_lt
  have g':zad x (adr (some xa) i)=some (.int .u8 (k:Int)):=by rw[g,←hk];rfl
  have hi0:(0:Int)≤(i:Int):=by omega
  have hi1:(i:Int)<(l.length:Int):=by omega
  have hi2:(i:Int)+1=((i+1:Nat):Int):=by push_cast;rfl
  have u1:=ix_hex (k:=k / 16) (by omega)
  have u2:=ix_hex (k:=k % 16) (by omega)
  have ha:=b_and15 (P:=Tryz.prog) (t:=5) hk256
  have hs4:=b_shr4 (P:=Tryz.prog) (t:=5) (n:=k)
  have hs:=hE.size
  obtain⟨ao,co,hov⟩:=ho.slice
  refine go (an8 h6 h7 h8 p hi0 hi1 g' h3) ?_
  refine zaS (fun _=>false) [(0,true),(1,true),(2,true),(3,true),(4,true),(5,true),(6,true),(7,false),(8,false),(9,true)] (zdx w.heap.size) mixed (by kernel_rfl) ?_;intro gd K x hgd hx hxe hK;have hx0:=zaP hxe;clear hxe
  simp (disch:=first|omega|assumption|rfl) only[go_sem,h3,ha,hs4,u1,u2]
  refine zjJ (z:= .int .u8 0) (u:=zao (hexD (k / 16))) (v:=zao (hexD (k % 16))) (by rfl) (by rfl) (by rfl) (by rfl) rfl rfl ?_
  intro y1 hy1 hys1 hyo
  refine⟨.inr hy1.keep,?_⟩
  simp (disch:=first|omega|assumption|rfl) only[go_sem]
  have hsx1:=hx0.size
  obtain⟨inf,hi9,hz,hsz,hby⟩:=info_parts (P:=Tryz.prog) (e:=5) (z:= .int .u8 0) (size:=1) (bytes:=1) (by kernel_rfl)
  have hlk:((hexT (l.take i)).map zao).length≤2000000:=by rw[List.length_map,zcy,List.length_take];omega
  refine za2 (B:=w.heap.size) ((ho.ext hx0).ext hy1) hyo.row (by rfl) hi9 hz hsz hby (by rfl) (vr0) (vr0) (zfY [hexD (k / 16),hexD (k % 16)]) (by simp at hlk ⊢;omega) (by decide) (by have:=hy1.size;omega) ?_
  intro v2 y2 hown2 hE2 hk2' hfr
  refine⟨.inr (hk2'.mono fun b _ hb=>by have:=(ho.ge hb).1;show _≤_;omega),?_⟩
  simp (disch:=first|omega|assumption|rfl) only[go_sem]
  refine hK _ _ ?_;clear hK hgd;clear K;try clear gd
  have hEy:=hE2 w ((hE.trans hx0).trans hy1) (Nat.le_refl _)
  refine go (an3 h6 h7 h8) ?_
  refine⟨rfl,(vq1 h6),(vq1 h7),(vq1 hi2),⟨v2,vr0,?_⟩,hEy⟩
  rw[zal hi]
  unfold hexT
  rw[List.flatMap_append,List.map_append,List.flatMap_singleton]
  unfold hexB
  rw[hk]
  exact hown2
 ·rintro σ x p ⟨h6,h7,h8,⟨ov,h3,ho⟩,hE⟩
  rw[List.take_length]at ho
  obtain⟨ao,co,hov,hcl,hat⟩:=ho.row
  rw[List.length_map]at hov
  refine go (an4 h6 h7 h8 p) ?_
  refine rq ?_;intro gd K hgd hK
  try simp (disch:=first|omega|assumption|rfl) only[go_sem,h3,hov]
  refine zb7 (l:=hexT l) rfl rfl rfl (vr0) (fun j hj=>?_) ?_
  ·have:=hat j (by rw[List.length_map];exact hj)
   rw[List.getElem_map]at this
   exact this
  try simp only[go_sem]
  refine hK _ _ ?_;clear hK hgd;clear K;try clear gd
  repeat refine c_r ?_
  refine rt0 Tryz.ntmps77 ?_
  exact⟨rfl,hE⟩
def valB(x:List UInt8):Nat:=x.foldl (fun n c=>n*256+c.toNat) 0
def zck(fm:Nat→Lab)(k:Nat)(sep:Lab)(raw:List UInt8):Lab:=zaU sep ((zaM k raw).map fun x=>fm (valB x))
theorem zio(x:List UInt8)(c:UInt8):valB (x++ [c])=valB x*256+c.toNat:=by unfold valB;rw[List.foldl_append];rfl
theorem zhs:∀(x:List UInt8) (n k:Nat),n<256 ^ k→x.foldl (fun n c=>n*256+c.toNat) n<256 ^ (k+x.length)
 | [],n,k,h=>h
 |c::x,n,k,h=>by
  have hc:=c.toNat_lt
  have:=zhs x (n*256+c.toNat) (k+1) (by rw[Nat.pow_succ];omega)
  rw[List.foldl_cons,List.length_cons]
  rw[show k+(x.length+1)=k+1+x.length by omega];exact this
theorem zgz{x:List UInt8}{k:Nat}(h:x.length≤k):valB x<256 ^ k:=by
 have:=zhs x 0 0 (by decide)
 rw[Nat.zero_add]at this
 exact Nat.lt_of_lt_of_le this (Nat.pow_le_pow_right (by decide) h)
theorem b_shl8{P:Program}{t:TypeId}{n:Nat}(h:n<72057594037927936):binV P .shl t (.int .u64 (n:Int)) (.int .u64 8)=some (.int .u64 ((n*256:Nat):Int)):=by
 show some (Value.int .u64 (IntKind.u64.wrap ((n:Int)*2 ^ (min (Int.toNat 8) 64))))=_
 have:(2:Int) ^ (min (Int.toNat 8) 64)=((256:Nat):Int):=by decide
 rw[this,←Int.natCast_mul,zcV (by omega) (by omega)]
theorem b_or8{P:Program}{t:TypeId}{n c:Nat}(h:n<72057594037927936)(hc:c<256):binV P .or t (.int .u64 ((n*256:Nat):Int)) (.int .u64 (c:Int))=some (.int .u64 ((n*256+c:Nat):Int)):=by
 show some (Value.int .u64 (IntKind.u64.wrap ((BitVec.ofInt 64 ((n*256:Nat):Int)|||BitVec.ofInt 64 (c:Int)).toNat:Int)))=_
 have e:(BitVec.ofInt 64 ((n*256:Nat):Int)|||BitVec.ofInt 64 (c:Int)).toNat=n*256+c:=by
  rw[BitVec.toNat_or,BitVec.ofInt_natCast,BitVec.ofInt_natCast,BitVec.toNat_ofNat,BitVec.toNat_ofNat,Nat.mod_eq_of_lt (by omega),Nat.mod_eq_of_lt (by omega)]
  have:=Nat.shiftLeft_add_eq_or_of_lt (i:=8) (b:=c) hc n
  rw[Nat.shiftLeft_eq]at this
  exact this.symm
 rw[e,zcV (by omega) (by omega)]
theorem zbG{m:Nat}:∀{l:List Lab},(∀x∈l,x.length≤m)→zaz l≤m*l.length
 | [],_=>Nat.zero_le _
 |x::l,h=>by
  have h1:=zbG (l:=l) fun y hy=>h y (List.mem_cons_of_mem _ hy)
  have h2:=h x (List.mem_cons_self ..)
  have:zaz (x::l)=x.length+zaz l:=by simp[zaz]
  rw[this,List.length_cons,Nat.mul_succ];omega
theorem zf5{w:World}(hW:WY w){cs:List Value}{d:DatL}(hD:DatAt w cs d){k:Nat}(hk:1≤k)(hk2:k≤2){base:Int}{sep:Lab}{fm:Nat→Lab}(hraw:d.raw.length≤2000)(hs1:1≤sep.length)(hs2:sep.length≤1000)(hfm:∀u,u<65536→(fm u).length≤100)
  (hF:∀v u,WY v→u<65536→Fn Tryz.prog 26 #[.int .u64 (u:Nat),vi base] v (fun r v'=>r=vs (fm u)∧Ext v v')):
  Fn Tryz.prog 75 #[.agg cs.toArray,vi k,vi base,vs sep] w (fun u w'=>u=vs (zck fm k sep d.raw)∧Ext w w'):=by
 obtain⟨nm,nu,tx,rw',rfl,_,_,_,hrow⟩:=hD.ex
 obtain⟨ar,cr,hrv,hcr,_⟩:=id hrow
 refine enter Tryz.func75 Tryz.ntmps75 rfl rfl ?_
 repeat refine c_r ?_
 refine rg0 ?_
 repeat refine c_r ?_
 rw[zaB]
 refine zfy ?_
 intro w1 hE1 hz1 hA hB
 refine rg0 ?_
 repeat refine c_r ?_
 refine zam ?_
 intro w2 hE2 hz2 hC
 have hE12:=hE1.trans hE2
 have hA2:=hE2.at hA
 have hB2:=hE2.at hB
 have q4:zad w2 (some ⟨w.heap.size,4,Option.none⟩)=some rw':=zaa hA2 rfl
 rw[hrv]at q4
 rw[hrv]at hrow
 refine rq ?_;intro gd K hgd hK
 try simp (disch:=first|omega|assumption|rfl) only[go_sem,q4,Nat.zero_add]
 refine Fn.mono (Chunk_ok hE12 hrow hk (by omega) (by omega)) ?_
 rintro _ w3 ⟨hE3,cap,rfl,hit⟩
 try simp only[go_sem]
 refine hK _ _ ?_;clear hK hgd;clear K;try clear gd
 repeat refine c_r ?_
 have hE13:=hE12.trans hE3
 have hz3:=hE3.size
 have hC3:=hE3.at hC
 have hcb3:zad w3 (some ⟨w.heap.size+1,0,Option.none⟩)=some (vi base):=zab hE3 (zaa hB2 rfl)
 obtain⟨xs,hxs0⟩:∃xs,zaM k d.raw=xs:=⟨_,rfl⟩
 have hxl:xs.length≤2001:=by
  rw[←hxs0,zbY]
  exact Nat.le_trans (Nat.div_le_self _ _) (by omega)
 have hxk:∀x∈xs,x.length≤2:=fun x hx=>by
  rw[←hxs0]at hx
  unfold zaM at hx
  obtain⟨i,_,rfl⟩:=List.mem_map.1 hx
  rw[List.length_take];omega
 have hxv:∀x∈xs,valB x<65536:=fun x hx=>zgz (k:=2) (hxk x hx)
 rw[hxs0]at hit
 refine zcs (g:=118) (cap:=cap) (vq0) rfl (hit (fun b=>b=w1.heap.size) (fun b hb=>by omega)) (Keep.refl _ _) (Nat.le_refl _) (fun b hb=>by omega)
  (fun x A args h=>by obtain⟨v,h,_⟩:=h;rw[h];rfl)
  (fun pre A=>Ext w A∧zad A (some ⟨w.heap.size+1,0,Option.none⟩)=some (vi base)∧∃sv,A.heap[w1.heap.size]? =some (.cells #[sv] 23 (0,0))∧Own (w3.heap.size+2) A 9 sv (pre.map fun x=>vs (fm (valB x))))
  (fun _ _ _=>False) ?_ (fun _ _ _ _ h _=>h.elim) ?_ ?_ ?_ (fun _ _ _ _ _ _ _ h _=>h.elim)
 ·rintro pre A B ⟨h1,hc,sv,h2,h3⟩ hkk
  refine⟨Keep.to_ext h1 rfl (fun b hb=>by unfold two at hb;omega) hkk,?_,sv,(hkk.block _ (Array.getElem?_eq_some_iff.1 h2).1 (by unfold two;omega)).trans h2,h3.keep hkk (fun b hb h=>by have:=(h3.ge hb).1;unfold two at h;omega)⟩
  show B.cell? _=_
  rw[zb0 (a:=⟨w.heap.size+1,0,Option.none⟩) (hkk.block _ (zfs hc) (by unfold two;show¬(w.heap.size+1=_∨w.heap.size+1=_);omega))]
  exact hc
 ·exact⟨hE13,hcb3,_,hC3,Own.nil _ _ _⟩
 ·rintro lp pre x suf A args hxs hszA ⟨hEA,hcb,sv,hb,hown⟩ ⟨v,rfl,hv⟩
  have hpl:pre.length+1≤xs.length:=by
   have:=congrArg List.length hxs
   simp at this;omega
  have hxm:x∈xs:=by rw[hxs];simp
  have hx2:=hxk x hxm
  refine rq ?_;intro gd K hgd hK
  try simp only[go_sem]
  refine hK _ _ ?_;clear hK hgd;clear K;try clear gd
  refine zaE ?_
  refine⟨rfl,KeepB.refl _ _ _,fun Y hY=>?_⟩
  have hbY:=(hY.block _ (Array.getElem?_eq_some_iff.1 hb).1 (by unfold two;omega)).trans hb
  have hEY:Ext w Y:=Keep.to_ext hEA rfl (fun b hb=>by unfold two at hb;omega) hY
  have hcbY:zad Y (some ⟨w.heap.size+1,0,Option.none⟩)=some (vi base):=by
   show Y.cell? _=_
   rw[zb0 (a:=⟨w.heap.size+1,0,Option.none⟩) (hY.block _ (zfs hcb) (by unfold two;show¬(w.heap.size+1=_∨w.heap.size+1=_);omega))]
   exact hcb
  have hownY:=hown.keep hY (fun b hb h=>by have:=(hown.ge hb).1;unfold two at h;omega)
  have hsY:=hY.size
  obtain⟨av,cv,rfl,hcv,hgv⟩:=hv.ext hEY
  rw[List.length_map]at hcv
  rw[show (x.map zao).length=x.length from List.length_map ..]
  have v0:valB (x.take 0)=0:=rfl
  refine go trivial ?_
  refine zav (Q:=fun e σ' ds' v'=>e= .exit 2∧ds'=[]∧σ' 11= .int .u64 (valB x:Nat)∧σ' 9= .pointer (some ⟨w1.heap.size,0,Option.none⟩)∧σ' 6= .pointer (some ⟨w.heap.size+1,0,Option.none⟩)∧Y=v') ?_ ?_
  ·refine zbq x.length (fun i σ v=>σ 19= .slice av x.length cv∧σ 20=vi x.length∧σ 21=vi i∧σ 11= .int .u64 (valB (x.take i):Nat)∧σ 9= .pointer (some ⟨w1.heap.size,0,Option.none⟩)∧σ 6= .pointer (some ⟨w.heap.size+1,0,Option.none⟩)∧Y=v) ?_ ?_ ?_
   ·exact⟨vr0,vr0,vr0,vr0,vr0,vr0,rfl⟩
   ·rintro i σ v hi p ⟨s19,s20,s21,s11,s9,s6,rfl⟩
    have g:=hgv i (by rw[List.length_map];exact hi)
    rw[List.getElem_map]at g
    obtain⟨c,hc⟩:∃c,x[i]=c:=⟨_,rfl⟩
    rw[hc]at g
    replace g:zad Y (adr av i)=some (.int .u8 (c.toNat:Int)):=g
    obtain⟨xa,rfl⟩:=Option.isSome_iff_exists.1 (zap g)
    have hc256:=c.toNat_lt
    obtain⟨n,hn⟩:∃n,valB (x.take i)=n:=⟨_,rfl⟩
    have hn2:n<65536:=hn▸zgz (k:=2) (by rw[List.length_take];omega)
    rw[hn]at s11
    have e1:=b_shl8 (P:=Tryz.prog) (t:=71) (n:=n) (by omega)
    have e2:=b_or8 (P:=Tryz.prog) (t:=71) (n:=n) (c:=c.toNat) (by omega) hc256
    have e3:valB (x.take (i+1))=n*256+c.toNat:=by rw[zal hi,hc,zio,hn]
    have hi0:(0:Int)≤(i:Int):=by omega
    have hi1:(i:Int)<(x.length:Int):=by omega
    have hi2:(i:Int)+1=((i+1:Nat):Int):=by push_cast;rfl
    refine go (an9 s19 s20 s21 s11 s9 s6 p g (an5 hi0 hi1 hi2 e1 e2)) ?_
    exact⟨rfl,(vq1 s19),(vq1 s20),(vq1 hi2),by rw[e3];first| (simp only[go_sem];done)| (simp only[go_sem];rfl),(vq1 s9),(vq1 s6),rfl⟩
   ·rintro σ v p ⟨s19,s20,s21,s11,s9,s6,rfl⟩
    rw[List.take_length]at s11
    refine go (an4 s19 s20 s21 p) ?_
    exact⟨rfl,rfl,(vq1 s11),(vq1 s9),(vq1 s6),rfl⟩
  rintro _ σ1 _ _ ⟨rfl,rfl,s11,s9,s6,rfl⟩
  repeat refine c_r ?_
  have q9:zad Y (some ⟨w1.heap.size,0,Option.none⟩)=some sv:=zaa hbY rfl
  have hvx:=hxv x hxm
  obtain⟨NB,hNB⟩:∃NB,w3.heap.size+2=NB:=⟨_,rfl⟩
  have o9:w1.heap.size<NB:=by omega
  have o6:w.heap.size+1<NB:=by omega
  refine zaS (fun i=>i==6) [(0,true),(1,true),(2,true),(3,false),(4,false),(5,false),(6,false)] (zdx NB) mixed (by kernel_rfl) ?_;intro gd K x hgd hx hxe hK;have hx0:=zaP hxe;clear hxe
  have q9x:=zab hx0 q9
  have q6x:=zab hx0 hcbY
  have hsx0:=hx0.size
  simp (disch:=first|omega|assumption|rfl) only[go_sem,s11,s9,s6,q9x,q6x]
  refine⟨zbw o9,zbw o6,?_⟩
  refine Fn.mono (hF _ _ (hW.ext (hEY.trans hx0)) hvx) ?_
  rintro _ y0 ⟨rfl,hy0⟩
  refine⟨.inr hy0.keep,?_⟩
  simp (disch:=first|omega|assumption|rfl) only[go_sem]
  refine za5 (z:=vs []) rfl rfl rfl rfl rfl ?_
  intro y1 hy1 hys1 hyo
  refine⟨.inr hy1.keep,?_⟩
  simp (disch:=first|omega|assumption|rfl) only[go_sem]
  have hsy0:=hy0.size
  have hxy1:=(hx0.trans hy0).trans hy1
  refine za2 (e:=9) (hownY.ext hxy1) hyo.row rfl rfl rfl rfl rfl rfl (vr0) (vr0) (fun q hq=>by simp at hq;subst hq;rfl) (by rw[List.length_map];show pre.length+1≤_;omega) (by decide) (by omega) ?_
  intro sv' y2 hown2 hX2 hK2 hb2
  refine⟨.inr (hK2.mono fun b _ hb=>by have:=(hownY.ge hb).1;show _≤_;omega),?_⟩
  simp (disch:=first|omega|assumption|rfl) only[go_sem,s9]
  have hs2:=hK2.size
  have hb2Y:=(hK2.block w1.heap.size (by omega) (fun hh=>by have:=(hownY.ge hh).1;omega)).trans (Ext.at hxy1 hbY)
  refine zan (P:=Tryz.prog) rfl rfl (by obtain⟨a,c,rfl⟩:=hown2.slice;rfl) hb2Y (by simp) (by simp) ?_
  intro y3 hs3' hb3 hk3
  refine⟨.inl rfl,?_⟩
  simp (disch:=first|omega|assumption|rfl) only[go_sem]
  refine hK _ _ ?_;clear hK hgd;clear K;try clear gd
  repeat refine c_r ?_
  refine⟨⟨Keep.to_ext (hX2 w (hEY.trans hxy1) (by omega)) rfl (fun b hb=>by omega) hk3,?_,sv',hb3,?_⟩,?_⟩
  ·have h1:=zab hxy1 hcbY
   show y3.cell? _=_
   rw[zb0 (a:=⟨w.heap.size+1,0,Option.none⟩) (hk3.block _ (by show w.heap.size+1<_;omega) (by show¬w.heap.size+1=_;omega)),zb0 (a:=⟨w.heap.size+1,0,Option.none⟩) (hK2.block _ (by show w.heap.size+1<_;omega) (fun hh=>by have h2:w3.heap.size+2≤w.heap.size+1:=(hownY.ge hh).1;omega))]
   exact h1
  ·rw[List.map_append];exact hown2.keep hk3 (fun b hb h=>by have:=(hown2.ge hb).1;omega)
  ·exact(hxy1.toB (by omega) (fun _ _ h=>h.elim)).trans ((hK2.toB (by omega) (fun i hi h=>by have:=(hownY.ge h).1;omega)).trans (hk3.toB (by omega) (fun _ _ h=>h)))
 ·intro A hszA ⟨hEA,hcb,sv,hb,hown⟩ hDf
  have q9:zad A (some ⟨w1.heap.size,0,Option.none⟩)=some sv:=zaa hb rfl
  have hr:Row A sv ((xs.map fun x=>fm (valB x)).map vs):=by rw[List.map_map];exact hown.row
  have hln:zaz (xs.map fun x=>fm (valB x))≤100*(xs.map fun x=>fm (valB x)).length:=zbG fun y hy=>by
   obtain⟨x,hx,rfl⟩:=List.mem_map.1 hy
   exact hfm _ (hxv x hx)
  rw[List.length_map]at hln
  refine go trivial ?_
  refine rc q9 (zgY hr (by rw[List.length_map];omega) hs1 hs2 (by omega)) ?_
  rintro _ A1 ⟨rfl,hEA1⟩
  refine rgo trivial ?_
  refine zcw (.inr rfl) Tryz.ntmps75 rfl (hEA1.at hDf) ?_
  intro Z hkZ hsZ
  refine⟨_,zac (v:=vs (zaU sep (xs.map fun x=>fm (valB x)))) (vr0) zae,?_⟩
  exact⟨by unfold zck;rw[hxs0];rfl,Keep.to_ext (hEA.trans hEA1) rfl (fun b hb=>by omega) hkZ⟩
def offF(s:Lab):Int×Int:=let p:=decP zar (Lib.trimPrefix s [45]);(if [45].isPrefixOf s then -(p.1:Int) else p.1,p.2)
theorem zex(s p:Lab):(Lib.trimPrefix s p).length≤s.length:=by
 unfold Lib.trimPrefix
 split
 ·rw[List.length_drop];omega
 ·exact Nat.le_refl _
theorem ziX{w:World}(hW:WX w)(s:Lab)(hs:s.length≤1000000):Fn Tryz.prog 171 #[vs s] w (fun v w'=>v= .tuple #[vi (offF s).1,vi (offF s).2]∧Ext w w'):=by
 have hl:=zex s [45]
 have hle:=zbS zar (Lib.trimPrefix s [45])
 rw[show zar=2147483647 from rfl]at hle
 have hw1:IntKind.i64.wrap ((decP zar (Lib.trimPrefix s [45])).1:Int)=((decP zar (Lib.trimPrefix s [45])).1:Int):=zby (by omega) (by rw[show zar=2147483647 from rfl];omega)
 have hw2:IntKind.i64.wrap (0 - ((decP zar (Lib.trimPrefix s [45])).1:Int))= -((decP zar (Lib.trimPrefix s [45])).1:Int):=by rw[zby (by rw[show zar=2147483647 from rfl];omega) (by omega)];omega
 refine enter Tryz.func171 Tryz.ntmps171 rfl rfl ?_
 refine go trivial ?_
 refine rc trivial (zdG w s [45]) ?_
 rintro _ _ ⟨rfl,rfl⟩
 refine rgo trivial ?_
 refine rc trivial (zbh hW (Lib.trimPrefix s [45]) zar (by decide) (by omega)) ?_
 rintro _ w2 ⟨rfl,hE2⟩
 unfold offF
 cases hm:([45]:Lab).isPrefixOf s with
 |true=>
  refine rgo (an3 hw1 hw2 hm) ?_
  refine zaf (.inr rfl) Tryz.ntmps171 rfl (zac (vr0) (zac (vr0) zae)) ?_
  exact⟨rfl,hE2⟩
 |false=>
  refine rgo (an3 hw1 hw2 hm) ?_
  refine zaf (.inr rfl) Tryz.ntmps171 rfl (zac (vr0) (zac (vr0) zae)) ?_
  exact⟨rfl,hE2⟩
theorem zjO(w:World)(s:Lab)(k:Int)(h:(s=[100]∧k=10)∨(s=[120]∧k=16)∨(s=[113]∧k=0)):Fn Tryz.prog 172 #[vs s] w (fun v w'=>v=vi k∧w=w'):=by
 rcases h with ⟨rfl,rfl⟩| ⟨rfl,rfl⟩| ⟨rfl,rfl⟩
 ·have d1:decide (([100]:Lab)=[100])=true:=rfl
  refine enter Tryz.func172 Tryz.ntmps172 rfl rfl ?_
  refine go d1 ?_
  refine rt0 Tryz.ntmps172 ?_
  exact⟨rfl,rfl⟩
 ·have d1:decide (([120]:Lab)=[100])=false:=rfl
  have d2:decide (([120]:Lab)=[111])=false:=rfl
  have d3:decide (([120]:Lab)=[120])=true:=rfl
  refine enter Tryz.func172 Tryz.ntmps172 rfl rfl ?_
  refine go (an3 d1 d2 d3) ?_
  refine rt0 Tryz.ntmps172 ?_
  exact⟨rfl,rfl⟩
 ·have d1:decide (([113]:Lab)=[100])=false:=rfl
  have d2:decide (([113]:Lab)=[111])=false:=rfl
  have d3:decide (([113]:Lab)=[120])=false:=rfl
  have d4:decide (([113]:Lab)=[88])=false:=rfl
  refine enter Tryz.func172 Tryz.ntmps172 rfl rfl ?_
  refine go (an4 d1 d2 d3 d4) ?_
  refine rt0 Tryz.ntmps172 ?_
  exact⟨rfl,rfl⟩
theorem Mul_ok(w:World)(x y:Nat)(hx:x<18446744073709551616)(hy:y<18446744073709551616)(h:x*y<18446744073709551616):Fn Tryz.prog 199 #[.int .u64 x,.int .u64 y] w (fun v w'=>v= .tuple #[.int .u64 0,.int .u64 ((x*y:Nat):Int)]∧w=w'):=by
 refine Fn.of_calls ((Any.bits_Mul Tryz.lays212 x y hx hy w).mono fun e w' ⟨he,hw⟩=>⟨_,he,?_,hw.symm⟩)
 rw[Nat.div_eq_of_lt h,Nat.mod_eq_of_lt h];rfl
theorem zev(w:World)(c:UInt8)(r:Lab):Fn Tryz.prog 84 #[vs (c::r),vs [48]] w (fun v w'=>v= .bool (decide (48=c))∧w=w'):=by
 refine Fn.mono (zbR w (c::r) [48]) ?_
 rintro v w' ⟨rfl,rfl⟩
 refine⟨?_,rfl⟩
 simp[List.isPrefixOf]
 by_cases h:(48:UInt8)=c<;>simp[h]
theorem zeros_sl(k:Nat)(hk:k≤64):slD Tryz.prog (some .string) (vs (List.replicate 64 48)) Option.none (some (vi k)) Option.none=some (vs (List.replicate k 48)):=by
 rw[s_strh (by omega) (by simp;omega)]
 rw[Int.toNat_natCast,List.take_replicate,Nat.min_eq_left hk]
theorem zjX(w:World)(k:Nat)(hk:k≤64):Fn Tryz.prog 175 #[vs [48],vi k] w (fun v w'=>v=vs (List.replicate k 48)∧Ext w w'):=by
 by_cases h0:k=0
 ·subst h0
  refine enter Tryz.func175 Tryz.ntmps175 rfl rfl ?_
  refine go (show decide (((0:Nat):Int)=0)=true from rfl) ?_
  refine rt0 Tryz.ntmps175 ?_
  exact⟨rfl,Keep.refl _ _⟩
 by_cases h1:k=1
 ·subst h1
  refine enter Tryz.func175 Tryz.ntmps175 rfl rfl ?_
  refine go (an2 (show decide (((1:Nat):Int)=0)=false from rfl) (show decide (((1:Nat):Int)=1)=true from rfl)) ?_
  refine rt0 Tryz.ntmps175 ?_
  exact⟨rfl,Keep.refl _ _⟩
 have d0:decide ((k:Int)=0)=false:=decide_eq_false (by omega)
 have d1:decide ((k:Int)=1)=false:=decide_eq_false (by omega)
 have d2:decide ((k:Int)<0)=false:=decide_eq_false (by omega)
 have hlen:([48]:Lab).length=1:=rfl
 have e1:(1:Nat)*k=k:=Nat.one_mul k
 have dz:decide ((0:Int)<0)=false:=rfl
 have d3:decide ((9223372036854775807:Int)<(k:Int))=false:=decide_eq_false (by omega)
 have d4:decide ((k:Int)≤128)=true:=decide_eq_true (by omega)
 have d5:decide ((k:Int)≤64)=true:=decide_eq_true (by omega)
 have d6:decide (((1:Nat):Int)=0)=false:=rfl
 have b1:decide ((((48:UInt8).toNat:Nat):Int)=32)=false:=rfl
 have b2:decide ((((48:UInt8).toNat:Nat):Int)=45)=false:=rfl
 have b3:decide ((((48:UInt8).toNat:Nat):Int)=48)=true:=rfl
 refine enter Tryz.func175 Tryz.ntmps175 rfl rfl ?_
 refine go (an3 d0 d1 d2) ?_
 refine rc hlen (Mul_ok w 1 k (by omega) (by omega) (by omega)) ?_
 rintro _ _ ⟨rfl,rfl⟩
 rw[e1]
 refine rgo trivial ?_
 refine rgg [(2,31)] (an2 dz d3) ?_
 refine go (an7 dz d3 hlen d6 b1 b2 b3) ?_
 refine rcg [(2,52)] d4 (zev w 32 _) ?_
 rintro _ _ ⟨rfl,rfl⟩
 refine reg [(2,52)] (an2 d4 (show decide ((48:UInt8)=32)=false from rfl)) ?_
 refine go trivial ?_
 refine rcg [(2,61)] d4 (zev w 45 _) ?_
 rintro _ _ ⟨rfl,rfl⟩
 refine reg [(2,61)] (an2 d4 (show decide ((48:UInt8)=45)=false from rfl)) ?_
 refine go trivial ?_
 refine rcg [(2,70)] d5 (zev w 48 _) ?_
 rintro _ _ ⟨rfl,rfl⟩
 refine reg [(2,70)] (an2 d5 (show decide ((48:UInt8)=48)=true from rfl)) ?_
 refine go trivial ?_
 refine rq ?_;intro gd K hgd hK
 try simp only[go_sem]
 change optL (slD Tryz.prog (some .string) (vs (List.replicate 64 48)) Option.none (some (vi k)) Option.none) _ _ _ _
 rw[zeros_sl k hk]
 try simp only[go_sem]
 refine hK _ _ ?_;clear hK hgd;clear K;try clear gd
 repeat refine c_r ?_
 refine rt0 Tryz.ntmps175 ?_
 exact⟨rfl,Keep.refl _ _⟩
structure Spl(s:Lab)(ps:List Lab):Prop where
 sp:Lib.splitB ⟨#[44]⟩ 0 (Lib.countB ⟨s.toArray⟩ ⟨#[44]⟩) ⟨s.toArray⟩=ps.map fun l=>⟨l.toArray⟩
 ct:Lib.countB ⟨s.toArray⟩ ⟨#[44]⟩+1=ps.length
theorem Split_ok{w:World}(hW:WX w){s:Lab}{ps:List Lab}{n:Nat}(hs:s.length<4000000000)(h:Spl s ps)(hn:ps.length=n):
  Fn Tryz.prog 170 #[vs s,vs [44]] w (fun v w'=>v= .slice (some ⟨w.heap.size,0,Option.none⟩) n n∧w'.heap[w.heap.size]? =some (.cells (ps.map vs).toArray 9 (0,0))∧Ext w w'):=by
 obtain⟨m,hm⟩:=hW.ml
 refine Fn.of_calls ((Any.strings_Split Tryz.lays146 (by kernel_rfl) ⟨s.toArray⟩ ⟨#[44]⟩ m w (show s.toArray.size<_ by simp;omega) hm (by decide)).mono ?_)
 rintro _ w' ⟨he,rfl⟩
 subst hn
 rw[h.sp,h.ct,List.map_map]at*
 refine⟨_,he,rfl,?_,Ext.alloc w _⟩
 rw[World.alloc_heap_new]
 rfl
theorem zjL{w:World}(hW:WX w){s a b c D:Lab}{o n k:Int}{wd:Nat}(hs:s.length≤1000)(hsp:Spl s [a,b,c])(ha:offF a=(o,0))(hb:decP 63 b=(wd,0))(hal:a.length≤1000)(hbl:b.length≤1000)
  (hc:(c=[100]∧k=10)∨(c=[120]∧k=16)∨(c=[113]∧k=0)) (hF:k≠0→0≤n+o∧n+o≤2147483647∧D.length≤63∧∀w',WX w'→Fn Tryz.prog 173 #[vi (n+o),vi k] w' (fun v w2=>v=vs D∧Ext w' w2)):
  Fn Tryz.prog 147 #[vs s,vi n] w (fun v w'=>v=(if k=0 then .tuple #[vs [],vi 2] else .tuple #[vs (List.replicate (wd - D.length) 48++D),vi 0])∧Ext w w'):=by
 have hwd:=zbS 63 b
 rw[hb]at hwd
 have d02:decide ((0:Int)=2)=false:=rfl
 have d00:decide ((0:Int)=0)=true:=rfl
 have d33:decide ((3:Int)<3)=false:=rfl
 have d13:decide ((1:Int)<3)=true:=rfl
 have d23:decide ((2:Int)<3)=true:=rfl
 have t1:(1:Int).toNat=1:=rfl
 have t2:(2:Int).toNat=2:=rfl
 have z0:(0:Int)≤0:=Int.le_refl _
 refine enter Tryz.func147 Tryz.ntmps147 rfl rfl ?_
 refine go trivial ?_
 refine rc trivial (Split_ok (n:=3) hW (by omega) hsp rfl) ?_
 rintro _ w1 ⟨rfl,hB,hE1⟩
 have c0:zad w1 (some ⟨w.heap.size,0,Option.none⟩)=some (vs a):=zaa hB rfl
 have c1:zad w1 (some ⟨w.heap.size,1,Option.none⟩)=some (vs b):=zaa hB rfl
 have c2:zad w1 (some ⟨w.heap.size,2,Option.none⟩)=some (vs c):=zaa hB rfl
 have hW1:=hW.ext hE1
 refine rgo trivial ?_
 refine rc (an5 c0 z0 Int.toNat_zero d13 t1) (ziX hW1 a (by omega)) ?_
 rintro _ w2 ⟨rfl,hE2⟩
 rw[ha]
 refine rgo trivial ?_
 refine rgg [(2,24)] (an2 d02 d33) ?_
 refine go trivial ?_
 refine rq ?_;intro gd K hgd hK
 try simp only[go_sem]
 refine zd5 (k:= .i64) (a:=0) (b:=0) (vr0) (vr0) ?_
 try simp only[go_sem]
 refine hK _ _ ?_;clear hK hgd;clear K;try clear gd
 have c1':=zab hE2 c1
 refine go d13 ?_
 refine rc (an5 c1' z0 t1 d13 d02) (zbh (hW1.ext hE2) b 63 (by decide) (by omega)) ?_
 rintro _ w3 ⟨rfl,hE3⟩
 rw[hb]
 refine rgo d02 ?_
 refine rq ?_;intro gd K hgd hK
 try simp only[go_sem]
 refine zd5 (k:= .i64) (a:=max 0 0) (b:=0) (vr0) (vr0) ?_
 try simp only[go_sem]
 refine hK _ _ ?_;clear hK hgd;clear K;try clear gd
 have c2':=zab (hE2.trans hE3) c2
 refine go (an5 c2' z0 t2 d23 (show((2:Int))<((3:Nat):Int) by decide)) ?_
 refine rc trivial (zjO w3 c k hc) ?_
 rintro _ _ ⟨rfl,rfl⟩
 by_cases hk:k=0
 ·refine rgo (decide_eq_true hk) ?_
  rw[if_pos hk]
  refine zaf (.inr rfl) Tryz.ntmps147 rfl (zac (v:=vs []) (vr0) (zac (v:=vi 2) (vr0) zae)) ?_
  exact⟨rfl,(hE1.trans hE2).trans hE3⟩
 rw[if_neg hk]
 obtain⟨l1,l2,hDl,hFm⟩:=hF hk
 have dk:decide (k=0)=false:=decide_eq_false hk
 have dm:decide (max (max (0:Int) 0) 0=0)=true:=rfl
 refine rgo (an2 dk dm) ?_
 have hw:IntKind.i64.wrap (n+o)=n+o:=zby (by omega) (by omega)
 have dl:decide (n+o<0)=false:=decide_eq_false (by omega)
 have dg:decide ((2147483647:Int)<n+o)=false:=decide_eq_false (by omega)
 refine rgg [(4,64)] (an3 hw dl dg) ?_
 refine go trivial ?_
 refine rc hw (zjO w3 c k hc) ?_
 rintro _ _ ⟨rfl,rfl⟩
 refine rd hw (hFm w3 ((hW1.ext hE2).ext hE3)) ?_
 rintro _ w4 ⟨rfl,hE4⟩
 have dX:decide (c=[88])=false:=decide_eq_false (by rcases hc with ⟨rfl,_⟩| ⟨rfl,_⟩| ⟨rfl,_⟩<;>decide)
 refine rgo dX ?_
 have hwd2:IntKind.i64.wrap (wd:Int)=(wd:Int):=zby (by omega) (by omega)
 have hw3:IntKind.i64.wrap ((wd:Int) - (D.length:Int))=(wd:Int) - (D.length:Int):=zby (by omega) (by omega)
 refine rq ?_;intro gd K hgd hK
 try simp (disch:=first|omega|assumption|rfl) only[go_sem,hwd2,hw3]
 refine zd5 (k:= .i64) (a:=(wd:Int) - (D.length:Int)) (b:=0) (vr0) (vr0) ?_
 rw[show max ((wd:Int) - (D.length:Int)) 0=((wd - D.length:Nat):Int) by omega]
 try simp only[go_sem]
 refine Fn.mono (zjX w4 (wd - D.length) (by simp only at hwd;omega)) ?_
 rintro _ w5 ⟨rfl,hE5⟩
 have hadd:(List.replicate (wd - D.length) (48:UInt8)).length+D.length≤9223372036854775807:=by rw[List.length_replicate];simp only at hwd;omega
 try simp (disch:=first|omega|assumption|rfl) only[go_sem,hadd]
 refine hK _ _ ?_;clear hK hgd;clear K;try clear gd
 repeat refine c_r ?_
 refine zaf (.inr rfl) Tryz.ntmps147 rfl (zac (v:=vs (List.replicate (wd - D.length) 48++D)) (vr0) (zac (v:=vi 0) (vr0) zae)) ?_
 exact⟨rfl,(((hE1.trans hE2).trans hE3).trans hE4).trans hE5⟩
def preP(l:Lab)(o:Option (Lab×Int)):Option (Lab×Int):=o.map fun x=>if x.2=0 then(l++x.1,0) else([],x.2)
theorem preP_pre(a l:Lab)(o:Option (Lab×Int)):preP a (preP l o)=preP (a++l) o:=by
 unfold preP
 cases o with
 |none=>rfl
 |some x=>by_cases h:x.2=0<;>simp[h]
def putN(br:Lab→Option (Lab×Int))(nd:Lab):Nat→Lab→Option (Lab×Int)
 |_,[]=>some ([],0)
 |0,_=>Option.none
 |f+1,c::r=>
  if [36,36].isPrefixOf (c::r) then preP [36] (putN br nd f (r.drop 1))
  else if [92,36].isPrefixOf (c::r) then preP [92,36] (putN br nd f (r.drop 1))
  else if [36,123].isPrefixOf (c::r) then
   (if (cutB 125 (r.drop 1)).2.2=false then some ([],2) else match br (cutB 125 (r.drop 1)).1 with
    |Option.none=>Option.none
    |some (d,e)=>if e=0 then preP d (putN br nd f (cutB 125 (r.drop 1)).2.1) else some ([],e))
  else if c=36 then preP nd (putN br nd f r)
  else preP [c] (putN br nd f r)
theorem ze3{a b c:UInt8}{r:Lab}(h:[a,b].isPrefixOf (c::r)=true):∃t,r=b::t∧c=a:=by
 cases r with
 |nil=>simp[List.isPrefixOf]at h
 |cons x t=>
  simp[List.isPrefixOf]at h
  exact⟨t,by rw[h.2],h.1.symm⟩
theorem Bld.ext2{B:Nat}{w x:World}{b:Nat}{bs:List UInt8}(h:Bld B w b bs)(hE:Ext w x):Bld B x b bs:=by
 obtain⟨p,v,hp,hb,hown⟩:=h.ex
 exact⟨p,v,hp,hE.at hb,hown.ext hE⟩
theorem zj7(w:World)(s p:Lab):Fn Tryz.prog 84 #[vs s,vs p] w (fun v w'=>v= .bool (p.isPrefixOf s)∧w=w'):=
 Fn.mono (zbR w s p) fun _ _ ⟨h1,h2⟩=>⟨h1,h2.symm⟩
theorem Put_ok{w:World}(hW:WX w){s out nd:Lab}{n e:Int}{br:Lab→Option (Lab×Int)}{f0:Nat}(hs:s.length≤10000)(hnd:nd.length≤100)(hI:∀v,WX v→Fn Tryz.prog 41 #[vi n] v (fun u v'=>u=vs nd∧Ext v v'))
  (hbr:∀i d e,br i=some (d,e)→d.length≤100∧∀v,WX v→Fn Tryz.prog 147 #[vs i,vi n] v (fun u v'=>u= .tuple #[vs d,vi e]∧Ext v v'))
  (hp:putN br nd f0 s=some (out,e)) (he:e=0∨out=[]):
  Fn Tryz.prog 127 #[vs s,vi n] w (fun v w'=>v= .tuple #[vs out,vi e]∧Ext w w'):=by
 have hp0:preP [] (putN br nd f0 s)=some (out,e):=by
  rw[hp]
  unfold preP
  rcases he with rfl|rfl
  ·simp
  ·by_cases h:e=0<;>simp[h]
 clear hp
 refine enter Tryz.func127 Tryz.ntmps127 rfl rfl ?_
 refine go trivial ?_
 refine zam ?_
 intro w1 hE1 hs1 hA
 refine zbg (fun m σ ds v=>ds=[]∧∃(s' acc:Lab) (f:Nat),s'.length=m∧σ 0=vs s'∧σ 1=vi n∧σ 6= .pointer (some ⟨w.heap.size,0,Option.none⟩)∧Bld (w.heap.size+1) v w.heap.size acc∧Ext w v∧w.heap.size+1≤v.heap.size∧
  preP acc (putN br nd f s')=some (out,e)∧acc.length+100*s'.length≤1000000) s.length ?_ ?_
 ·exact⟨rfl,s,[],f0,rfl,vr0,vr0,vr0,⟨_,_,.inl rfl,hA,Own.nil _ _ _⟩,hE1,by omega,hp0,by simp;omega⟩
 rintro m σ ds v ⟨rfl,s',acc,f,hm,h0,h1,h6,hB,hEv,hvs,hrel,hlen⟩
 cases s' with
 |nil=>
  have hx:out=acc∧e=0:=by
   have h2:putN br nd f []=some ([],0):=by cases f<;>rfl
   rw[h2]at hrel
   simp[preP]at hrel
   exact⟨hrel.1.symm,hrel.2.symm⟩
  obtain⟨rfl,rfl⟩:=hx
  refine go (an4 h0 h1 h6 (show decide (([]:Lab)=[])=true from rfl)) ?_
  refine rc h6 (zb3 hB (by simp at hlen;omega)) ?_
  rintro _ v1 ⟨rfl,hk1⟩
  refine rgo trivial ?_
  refine zaf (.inr rfl) Tryz.ntmps127 rfl (zac (v:=vs out) (vr0) (zac (v:=vi 0) (vr0) zae)) ?_
  exact⟨rfl,Keep.to_ext hEv rfl (fun b hb=>by omega) hk1⟩
 |cons c r=>
 have hWv:=hW.ext hEv
 cases f with
 |zero=>simp[putN,preP]at hrel
 |succ f=>
 rw[List.length_cons]at hm hlen
 unfold putN at hrel
 have dne:decide (c::r=[])=false:=decide_eq_false (by simp)
 -- one more round
 have next:∀(σ':Sto) (v':World) (acc' r':Lab) (k:Nat),r'.length<m→σ' 0=vs r'→σ' 1=vi n→σ' 6= .pointer (some ⟨w.heap.size,0,Option.none⟩)→Bld (w.heap.size+1) v' w.heap.size (acc++acc')→Keep (fun i=>i=w.heap.size∨w.heap.size+1≤i) v v'→preP acc (preP acc' (putN br nd f r'))=some (out,e)→acc'.length+100*r'.length≤100*(r.length+1)→
   ∃m',m'<m∧([]:List Deferred)=[]∧∃(s' acc:Lab) (f:Nat),s'.length=m'∧σ' 0=vs s'∧σ' 1=vi n∧σ' 6= .pointer (some ⟨w.heap.size,0,Option.none⟩)∧Bld (w.heap.size+1) v' w.heap.size acc∧Ext w v'∧w.heap.size+1≤v'.heap.size∧preP acc (putN br nd f s')=some (out,e)∧acc.length+100*s'.length≤1000000:=
  fun σ' v' acc' r' k h1 h2 h3 h4 h5 h6 h7 h8=>⟨r'.length,h1,rfl,r',acc++acc',f,rfl,h2,h3,h4,h5,Keep.to_ext hEv rfl (fun b hb=>by omega) h6,by have:=h6.size;omega,by rw[←preP_pre];exact h7,by rw[List.length_append];omega⟩
 refine go (an4 h0 h1 h6 dne) ?_
 have t2:(2:Int).toNat=2:=rfl
 have z2:(0:Int)≤2:=by decide
 have t1:(1:Int).toNat=1:=rfl
 have z1:(0:Int)≤1:=by decide
 have l1:(1:Int)≤((c::r).length:Int):=by rw[List.length_cons];omega
 refine rc h0 (zj7 v (c::r) [36,36]) ?_
 rintro _ _ ⟨rfl,rfl⟩
 cases p1:([36,36]:Lab).isPrefixOf (c::r) with
 |true=>
  rw[p1,if_pos rfl]at hrel
  obtain⟨t,rfl,rfl⟩:=ze3 p1
  have l2:(2:Int)≤((36::36::t:Lab).length:Int):=by simp only[List.length_cons];omega
  refine rgo (an2 p1 h6) ?_
  refine rc h6 (zaH (c:=36) hB hvs (by omega)) ?_
  rintro _ v1 ⟨hB1,hk1⟩
  refine rgo (an5 h0 h1 h6 t2 (an2 z2 l2)) ?_
  exact next _ v1 [36] t 0 (by simp only[List.length_cons]at hm;omega) (vr0) ((vq1 h1)) ((vq1 h6)) hB1 hk1 hrel (by simp only[List.length_cons,List.length_nil];omega)
 |false=>
 rw[p1,if_neg (by decide)]at hrel
 refine rgo p1 ?_
 refine rc h0 (zj7 v (c::r) [92,36]) ?_
 rintro _ _ ⟨rfl,rfl⟩
 cases p2:([92,36]:Lab).isPrefixOf (c::r) with
 |true=>
  rw[p2,if_pos rfl]at hrel
  obtain⟨t,rfl,rfl⟩:=ze3 p2
  have l2:(2:Int)≤((92::36::t:Lab).length:Int):=by simp only[List.length_cons];omega
  refine rgo p2 ?_
  refine rc (an5 h0 h6 t2 z2 l2) (zay (s:=[92,36]) hB hvs (by simp only[List.length_cons,List.length_nil];omega)) ?_
  rintro _ v1 ⟨hB1,hk1⟩
  refine rgo (an5 h0 h1 h6 t2 (an2 z2 l2)) ?_
  exact next _ v1 [92,36] t 0 (by simp only[List.length_cons]at hm;omega) (vr0) ((vq1 h1)) ((vq1 h6)) hB1 hk1 hrel (by simp only[List.length_cons,List.length_nil];omega)
 |false=>
 rw[p2,if_neg (by decide)]at hrel
 refine rgo p2 ?_
 refine rc h0 (zj7 v (c::r) [36,123]) ?_
 rintro _ _ ⟨rfl,rfl⟩
 cases p3:([36,123]:Lab).isPrefixOf (c::r) with
 |true=>
  rw[p3,if_pos rfl]at hrel
  obtain⟨t,rfl,rfl⟩:=ze3 p3
  have l2:(2:Int)≤((36::123::t:Lab).length:Int):=by simp only[List.length_cons];omega
  refine rgo p3 ?_
  refine rc (an4 h0 t2 z2 l2) (zhH hWv t 125 (by simp only[List.length_cons]at hlen;omega)) ?_
  rintro _ v1 ⟨rfl,hE1v⟩
  obtain⟨c1,c2⟩:=zdR 125 t
  obtain⟨a,q,b,hx⟩:∃a q b,cutB 125 t=(a,q,b):=⟨(cutB 125 t).1,(cutB 125 t).2.1,(cutB 125 t).2.2,rfl⟩
  rw[hx]at c1 c2
  simp only[List.drop_succ_cons,List.drop_zero,hx]at hrel c1 c2 ⊢
  cases b with
  |false=>
   rw[if_pos rfl]at hrel
   refine rgo trivial ?_
   have hx:out=[]∧e=2:=by
    simp[preP]at hrel
    exact⟨hrel.1,hrel.2.symm⟩
   obtain⟨rfl,rfl⟩:=hx
   refine zaf (.inr rfl) Tryz.ntmps127 rfl (zac (v:=vs []) (vr0) (zac (v:=vi 2) (vr0) zae)) ?_
   exact⟨rfl,hEv.trans hE1v⟩
  |true=>
  rw[if_neg (by decide)]at hrel
  cases hba:br a with
  |none=>rw[hba]at hrel;simp[preP]at hrel
  |some de=>
  obtain⟨d,e1⟩:=de
  rw[hba]at hrel
  simp only at hrel
  obtain⟨hdl,hfn⟩:=hbr a d e1 hba
  refine rgo (an2 h1 h6) ?_
  refine rc h1 (hfn v1 (hWv.ext hE1v)) ?_
  rintro _ v2 ⟨rfl,hE2v⟩
  by_cases he0:e1=0
  ·rw[if_pos he0]at hrel
   refine rgo (decide_eq_true he0) ?_
   have hE12:=hE1v.trans hE2v
   refine rc h6 (zay (s:=d) (hB.ext2 hE12) (by have:=hE12.size;omega) (by omega)) ?_
   rintro _ v3 ⟨hB3,hk3⟩
   refine rgo (an3 h0 h1 h6) ?_
   exact next _ v3 d q 0 (by simp only[List.length_cons]at hm;omega) (vr0) ((vq1 h1)) ((vq1 h6)) hB3 ((hE12.mono (fun _ _ h=>h.elim)).trans hk3) hrel (by simp only[List.length_cons];omega)
  ·rw[if_neg he0]at hrel
   refine rgo (decide_eq_false he0) ?_
   have hx:out=[]∧e=e1:=by
    simp[preP,he0]at hrel
    exact⟨hrel.1,hrel.2.symm⟩
   obtain⟨rfl,rfl⟩:=hx
   refine zaf (.inr rfl) Tryz.ntmps127 rfl (zac (v:=vs []) (vr0) (zac (v:=vi e) (vr0) zae)) ?_
   exact⟨rfl,(hEv.trans hE1v).trans hE2v⟩
 |false=>
 rw[p3,if_neg (by decide)]at hrel
 refine rgo (an2 p3 h0) ?_
 by_cases h36:c=36
 ·rw[if_pos h36]at hrel
  have d36:decide ((((c::r)[Int.toNat 0]'(by simp)).toNat:Int)=36)=true:=by subst h36;rfl
  refine wt d36 ?_
  refine go trivial ?_
  refine rc h1 (hI v hWv) ?_
  rintro _ v1 ⟨rfl,hE1v⟩
  refine rd h6 (zay (s:=nd) (hB.ext2 hE1v) (by have:=hE1v.size;omega) (by omega)) ?_
  rintro _ v2 ⟨hB2,hk2⟩
  refine rgo (an5 h0 h1 h6 t1 (an2 z1 l1)) ?_
  exact next _ v2 nd r 0 (by omega) (vr0) ((vq1 h1)) ((vq1 h6)) hB2 ((hE1v.mono (fun _ _ h=>h.elim)).trans hk2) hrel (by omega)
 ·rw[if_neg h36]at hrel
  have d36:decide ((((c::r)[Int.toNat 0]'(by simp)).toNat:Int)=36)=false:=decide_eq_false fun (h:(c.toNat:Int)=36)=>h36 (UInt8.toNat_inj.1 (by have:(36:UInt8).toNat=36:=rfl;omega))
  refine wf d36 ?_
  refine go trivial ?_
  refine rc (an2 h0 h6) (zaH (c:=c) hB hvs (by omega)) ?_
  rintro _ v1 ⟨hB1,hk1⟩
  refine rgo (an5 h0 h1 h6 t1 (an2 z1 l1)) ?_
  exact next _ v1 [c] r 0 (by omega) (vr0) ((vq1 h1)) ((vq1 h6)) hB1 hk1 hrel (by simp only[List.length_cons,List.length_nil];omega)
theorem zhm{n:Nat}(h:n<10):Lib.itoa (n:Int)=[UInt8.ofNat (48+n)]:=by
 unfold Lib.itoa
 rw[if_neg (by omega),Int.toNat_natCast,Lib.decDigits,dif_pos h]
theorem zda(n:Nat):Lib.itoa (n:Int)=Lib.decDigits n:=by
 unfold Lib.itoa
 rw[if_neg (by omega),Int.toNat_natCast]
theorem itoa_1:Lib.itoa 1=[49]:=(zhm (n:=1) (by decide)).trans rfl
theorem zaQ:∀(k u:Nat),u<10 ^ (k+1)→(Lib.decDigits u).length≤k+1
 |0,u,h=>by
  rw[Lib.decDigits,dif_pos (by omega)];simp
 |k+1,u,h=>by
  rw[Lib.decDigits]
  by_cases h1:u<10
  ·rw[dif_pos h1];simp
  ·rw[dif_neg h1,List.length_append,List.length_singleton]
   have:=zaQ k (u / 10) (by rw[Nat.pow_succ]at h;omega)
   omega
def numT(n:Int):Lab:=Lib.decDigits n.toNat
theorem ze9{n:Int}(h:n≤4294967295):(numT n).length≤20:=by
 unfold numT
 have:=zaQ 19 n.toNat (by omega)
 omega
structure VarT(B bv:Nat)(w:World)(L:List Lab):Prop where
 ex:∃sv,w.heap[bv]? =some (.cells #[sv] 23 (0,0))∧Own B w 9 sv (L.map vs)
theorem VarT.ext{B bv:Nat}{w x:World}{L:List Lab}(h:VarT B bv w L)(hE:Ext w x):VarT B bv x L:=by
 obtain⟨sv,h1,h2⟩:=h.ex
 exact⟨sv,hE.at h1,h2.ext hE⟩
theorem zig{w0 W:World}(hW:WY w0)(hE0:Ext w0 W){d:DatL}{nm nu tx rw':Value}{T:TypeId}{fr:Nat×Nat}{B bd bv:Nat}(hnu:Row w0 nu (d.nums.map v32))(hbd:W.heap[bd]? =some (.cells #[vi d.ty,nm,nu,tx,rw'] T fr))(h0:w0.heap.size≤bv)(hne:bd≠bv)(hdB:bd<B)(hvB:bv<B)(hBW:B≤W.heap.size)
  (hnv:∀n∈d.nums,0≤n∧n≤4294967295) (hnl:d.nums.length≤1000) {L:List Lab} (hL:L.length≤1000000) (hV:VarT B bv W L):
  Fn Tryz.prog 73 #[.pointer (some ⟨bd,0,Option.none⟩),.pointer (some ⟨bv,0,Option.none⟩)] W (fun _ W'=>VarT B bv W' (L++d.nums.map numT)∧Keep (fun i=>i=bv∨B≤i) W W'):=by
 obtain⟨an,cn,rfl,hcn,hgn⟩:=hnu
 rw[List.length_map]at hcn hbd
 have qn:zad W (some ⟨bd,2,Option.none⟩)=some (.slice an d.nums.length cn):=zaa hbd rfl
 refine enter Tryz.func73 Tryz.ntmps73 rfl rfl ?_
 refine go (an2 qn (Nat.zero_add 2)) ?_
 refine zbq d.nums.length (fun i σ v=>σ 1= .pointer (some ⟨bv,0,Option.none⟩)∧σ 5= .slice an d.nums.length cn∧σ 6=vi d.nums.length∧σ 7=vi i∧VarT B bv v (L++(d.nums.take i).map numT)∧Keep (fun i=>i=bv∨B≤i) W v) ?_ ?_ ?_
 ·exact⟨vr0,vr0,vr0,vr0,by simpa using hV,Keep.refl _ _⟩
 ·rintro i σ v hi p ⟨s1,s5,s6,s7,hVv,hk⟩
  have hEv:Ext w0 v:=Keep.to_ext hE0 rfl (fun b hb=>by omega) hk
  have hsv:=hk.size
  have g:=zab hEv (hgn i (by rw[List.length_map];exact hi))
  rw[List.getElem_map]at g
  obtain⟨n,hn⟩:∃n,d.nums[i]=n:=⟨_,rfl⟩
  have hnr:=hnv d.nums[i] (List.getElem_mem hi)
  rw[hn]at g hnr
  obtain⟨u,rfl⟩:∃u:Nat,n=u:=⟨n.toNat,by omega⟩
  obtain⟨xa,rfl⟩:=Option.isSome_iff_exists.1 (zap g)
  have hi0:(0:Int)≤(i:Int):=by omega
  have hi1:(i:Int)<(d.nums.length:Int):=by omega
  have hi2:(i:Int)+1=((i+1:Nat):Int):=by push_cast;rfl
  obtain⟨sv,hb,hown⟩:=hVv.ex
  have qv:zad v (some ⟨bv,0,Option.none⟩)=some sv:=zaa hb rfl
  refine go (an7 s1 s5 s6 s7 p g (an2 hi0 hi1)) ?_
  refine zaS (fun i=>i==6) [(0,true),(1,true),(2,true),(3,false),(4,false),(5,false),(6,false)] (zdx B) mixed (by kernel_rfl) ?_;intro gd K x hgd hx hxe hK;have hx0:=zaP hxe;clear hxe
  have qvx:=zab hx0 qv
  have hsx0:=hx0.size
  simp (disch:=first|omega|assumption|rfl) only[go_sem,s1,qvx]
  refine⟨zbw hvB,?_⟩
  refine Fn.mono (zcu (hW.ext (hEv.trans hx0)) u (by omega)) ?_
  rintro _ y0 ⟨rfl,hy0⟩
  refine⟨.inr hy0.keep,?_⟩
  simp (disch:=first|omega|assumption|rfl) only[go_sem]
  refine za5 (z:=vs []) rfl rfl rfl rfl rfl ?_
  intro y1 hy1 hys1 hyo
  refine⟨.inr hy1.keep,?_⟩
  simp (disch:=first|omega|assumption|rfl) only[go_sem]
  have hsy0:=hy0.size
  have hxy1:=(hx0.trans hy0).trans hy1
  refine za2 (e:=9) (hown.ext hxy1) hyo.row rfl rfl rfl rfl rfl rfl (vr0) (vr0) (fun q hq=>by simp at hq;subst hq;rfl) (by simp;omega) (by decide) (by omega) ?_
  intro sv' y2 hown2 hX2 hK2 hb2
  refine⟨.inr (hK2.mono fun b _ hb=>by have:=(hown.ge hb).1;show _≤_;omega),?_⟩
  simp (disch:=first|omega|assumption|rfl) only[go_sem,s1]
  have hs2:=hK2.size
  have hb2Y:=(hK2.block bv (by omega) (fun hh=>by have:=(hown.ge hh).1;omega)).trans (Ext.at hxy1 hb)
  refine zan (P:=Tryz.prog) rfl rfl (by obtain⟨a,c,rfl⟩:=hown2.slice;rfl) hb2Y (by simp) (by simp) ?_
  intro y3 hs3' hb3 hk3
  refine⟨.inl rfl,?_⟩
  simp (disch:=first|omega|assumption|rfl) only[go_sem]
  refine hK _ _ ?_;clear hK hgd;clear K;try clear gd
  refine go (an5 s1 s5 s6 s7 hi2) ?_
  refine⟨rfl,(vq1 s1),(vq1 s5),(vq1 s6),(vq1 hi2),⟨sv',hb3,?_⟩,?_⟩
  ·rw[show (L++(d.nums.take (i+1)).map numT).map vs=(L++(d.nums.take i).map numT).map vs++ [vs (Lib.decDigits u)] by rw[zal hi,hn];simp[numT]]
   exact hown2.keep hk3 (fun b hb h=>by have:=(hown2.ge hb).1;omega)
  ·exact hk.trans (((hxy1.mono fun _ _ h=>h.elim).trans (hK2.mono fun b _ hb=> .inr (hown.ge hb).1)).trans (hk3.mono fun b _ hb=> .inl hb))
 ·rintro σ v p ⟨s1,s5,s6,s7,hVv,hk⟩
  rw[List.take_length]at hVv
  refine go (an4 s1 s5 s6 (an2 s7 p)) ?_
  exact zaA (by simp) rfl ⟨hVv,hk⟩
end Go.Proofs.YtihbdhjibplldaaGreatDoor
