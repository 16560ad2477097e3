/-
  Texts of a proof, joined: GI, GJ, GK, GL, GM, GN, GO, GP, GQ, GR, GS, GT, GU, GX, GY, GZ.
  Conditions: none.
-/
import Derived.Test.YtanmnkbccfcagaaGreatDoorJGP02
set_option linter.unusedVariables false
set_option linter.unusedSimpArgs false
set_option linter.defProp false
set_option linter.unnecessarySimpa false
set_option maxHeartbeats 8000000
namespace Go.Proofs.YtanmnkbccfcagaaGreatDoor
open Go
set_option maxRecDepth 10000
section
variable {P : Program} {d : Option Tmp} {ty : TypeId} {ps : String} {af : Array Edge} {g : Option (Nat × Bool)} {ρ : Operand → Value} {w : World} {K : Value → World → Prop}
theorem zb7{x y:Operand}{ts:Array TypeId}{a b:Int}{k:IntKind}(hx:ρ x= .int k a)(hy:ρ y= .int k b)(h:K (.int k (max a b)) w):
  opW P ⟨d,.call ⟨.builtin .max,#[x,y],ts⟩,ty,ps,af,g⟩ ρ w K:=by
 have hr:(Builtin.max_ ts ty #[.int k a,.int k b]).run P w= .ok (.int k (max a b)) w:=by
  have h:=run_max_int2 (P:=P) w ts ty k k a b
  rw[h]
  congr 2
  rw[Int.max_def]
  split<;>split<;>omega
 simp only[opW,execOp,Sem.run_bind,resolve]
 simp only[Sem.run_pure,Result.andThen_ok,invoke,builtin]
 exact zae (s:=Builtin.max_ ts ty (Array.map ρ #[x,y])) (by simpa [hx,hy] using hr) h
end
def wst(X:List Lab):Int:=X.foldl (fun m x=>max m (decP zab x).2) 0
theorem wst_app(X:List Lab)(x:Lab):wst (X++ [x])=max (wst X) (decP zab x).2:=by
 unfold wst;rw[List.foldl_append];rfl
theorem za0(m:Nat)(s:Lab):(decP m s).2=0∨(decP m s).2=2∨(decP m s).2=7:=by
 unfold decP
 split
 ·split<;>simp
 ·simp
theorem bdR(x y z:Int):bdV Tryz.prog 45 [(0,vi x),(1,vi y),(2,vi z)]=some (.agg #[vi x,vi y,vi z]):=by kernel_rfl
theorem zdb(x y z:Int):∀v∈ [vi x,vi y,vi z],one v=true:=fun v h=>by
 simp at h
 rcases h with rfl|rfl|rfl<;>rfl
theorem zbL(m:Nat)(s:Lab):(decP m s).1≤m:=by
 unfold decP
 split
 ·split<;>simp_all
 ·simp
theorem zc5{w:World}(hW:WX w)(s:Lab)(hs:s.length≤1000000):
  Fn Tryz.prog 22 #[vs s] w (fun v w'=>v= .tuple #[.agg #[vi (zau s).1.1,vi (zau s).1.2.1,vi (zau s).1.2.2],vi (zau s).2]∧Ext w w'):=by
 refine enter Tryz.func22 Tryz.ntmps22 rfl rfl ?_
 refine go trivial ?_
 refine zaN ?_
 intro w1 hE1 hs1 hA
 obtain⟨l1,l2⟩:=zby 47 s
 refine rc trivial (zem (hW.ext hE1) s 47 (by omega)) ?_
 rintro _ w2 ⟨rfl,hE2⟩
 obtain⟨a,st,so,hx⟩:∃a st b,cutB 47 s=(a,st,b):=⟨(cutB 47 s).1,(cutB 47 s).2.1,(cutB 47 s).2.2,rfl⟩
 rw[hx]at l1 l2
 simp only at l1 l2
 simp only[hx]
 obtain⟨m1,m2⟩:=zby 45 a
 refine rgo trivial ?_
 refine rc trivial (zem ((hW.ext hE1).ext hE2) a 45 (by omega)) ?_
 rintro _ w3 ⟨rfl,hE3⟩
 obtain⟨f,t,ok,hy⟩:∃f t b,cutB 45 a=(f,t,b):=⟨(cutB 45 a).1,(cutB 45 a).2.1,(cutB 45 a).2.2,rfl⟩
 rw[hy]at m1 m2
 simp only at m1 m2
 simp only[hy]
 refine rgo trivial ?_
 have hE13:Ext w w3:=(hE1.trans hE2).trans hE3
 have hB0:w3.heap[w.heap.size]? =some (.cells #[vi 0,vi 0,vi 0] 45 (0,0)):=hE3.at (hE2.at hA)
 have hlt0:=(Array.getElem?_eq_some_iff.1 hB0).1
 obtain⟨u,hu⟩:∃u,(if so=true then st else [49])=u:=⟨_,rfl⟩
 have hul:u.length≤1000000:=by
  rw[←hu]
  split
  ·omega
  ·simp
 refine zc4 (Q:=fun e σ ds v=>e= .normal∧ds=[]∧σ 2= .pointer (some ⟨w.heap.size,0,Option.none⟩)∧σ 5=vs u∧σ 7=vs f∧σ 8=vs t∧σ 9= .bool ok∧w3=v) ?_ ?_
 ·cases so with
  |true=>
   refine go trivial ?_
   rw[←hu]
   exact⟨rfl,rfl,vr0,vr0,vr0,vr0,vr0,rfl⟩
  |false=>
   refine go trivial ?_
   rw[←hu]
   exact⟨rfl,rfl,vr0,vr0,vr0,vr0,vr0,rfl⟩
 rintro _ σ _ _ ⟨rfl,rfl,s2,s5,s7,s8,s9,rfl⟩
 have hR:zau s=(if ok=false then((0,0,0),2)
   else if (decP zab f).2=2∨(decP zab t).2=2∨(decP zab u).2=2 then((0,0,0),2)
   else if (decP zab f).2=7∨(decP zab t).2=7∨(decP zab u).2=7 then((0,0,0),7)
   else if (decP zab f).1≤(decP zab t).1∧1≤(decP zab u).1 then(((decP zab f).1,(decP zab t).1,(decP zab u).1),0) else((0,0,0),1)):=by
  unfold zau
  simp only[hx,hy]
  rw[hu]
 have zero:∀(σ:Sto) (v:World) (z:Int) (e:Int),zau s=((0,0,0),e)→Ext w v→v.heap[w.heap.size]? =some (.cells #[vi 0,vi 0,vi 0] 45 (0,0))→σ 2= .pointer (some ⟨w.heap.size,0,Option.none⟩)→σ 3=vi e→ 
   retQ Tryz.prog Tryz.f22 (fun v w'=>v= .tuple #[.agg #[vi (zau s).1.1,vi (zau s).1.2.1,vi (zau s).1.2.2],vi (zau s).2]∧Ext w w') .ret σ [] v:=fun σ v z e hr hE hB h2 h3=>by
  refine zaj (.inr rfl) Tryz.ntmps22 rfl (zdD (k:=3) (cs:=[vi 0,vi 0,vi 0]) ((vq1 h2)) rfl rfl (zaY (l:=[vi 0,vi 0,vi 0]) hB rfl) (zac (v:=vi e) ((vq1 h3)) zah)) ?_
  rw[hr]
  exact⟨rfl,hE⟩
 cases ok with
 |false=>
  refine go (an2 s9 s2) ?_
  refine rq ?_;intro gd K hgd hK
  try simp (disch:=first|omega|assumption|rfl) only[go_sem,s2]
  refine⟨by kernel_rfl,?_⟩
  rw[show bdV Tryz.prog 45 []=some (.agg #[vi 0,vi 0,vi 0]) from rfl]
  try simp (disch:=first|omega|assumption|rfl) only[go_sem,s2]
  refine zbV (P:=Tryz.prog) (l:=[vi 0,vi 0,vi 0]) hB0 rfl (fun q hq=>by simp at hq;subst hq;rfl) rfl rfl ?_
  intro w4 hs4 hB4 hk4
  try simp only[go_sem]
  refine hK _ _ ?_;clear hK hgd;clear K;try clear gd
  repeat (with_reducible first|refine zbZ ?_|refine zdq ?_|refine zb0 ?_|refine zap ?_|refine zaG ?_|refine zaQ ?_|refine zas ?_|refine zaM ?_|refine zax ?_|refine zaq rfl ?_)
  exact zero _ w4 0 2 (by rw[hR];rfl) (Keep.to_ext hE13 rfl (fun b (hb:b=w.heap.size)=>by omega) hk4) hB4 ((vq1 s2)) (vr0)
 |true=>
 refine go (an5 s9 s2 s5 s7 s8) ?_
 refine zaN ?_
 intro w4 hE4 hs4 hB1
 refine rq ?_;intro gd K hgd hK
 try simp (disch:=first|omega|assumption|rfl) only[go_sem,s5,s7,s8]
 refine bs_list (z:=vs []) (l:=[vs f,vs t,vs u]) rfl rfl rfl rfl rfl rfl (fun v hv=>by simp at hv;rcases hv with rfl|rfl|rfl<;>rfl) (by simp) ?_
 intro w5 hE5 hs5 hown
 try simp only[go_sem]
 refine hK _ _ ?_;clear hK hgd;clear K;try clear gd
 obtain⟨B,hB⟩:∃B,w3.heap.size=B:=⟨_,rfl⟩
 rw[hs4,hB]
 rw[hs4]at hs5 hown
 rw[hB]at hs5 hown hB1
 rw[hB]at hlt0
 have hE15:Ext w w5:=(hE13.trans hE4).trans hE5
 have hB05:=hE5.at (hE4.at hB0)
 have hB15:=hE5.at hB1
 obtain⟨X,hX⟩:∃X,[f,t,u]=X:=⟨_,rfl⟩
 have hXl:X.length=3:=by rw[←hX];rfl
 have hXs:∀x∈X,x.length≤1000000:=by
  rw[←hX];intro x hx
  simp at hx
  rcases hx with rfl|rfl|rfl<;>omega
 have hrow:Row w5 (.slice (some ⟨B+1,0,Option.none⟩) 3 3) (X.map vs):=by rw[←hX];exact hown.row
 clear hown
 refine go trivial ?_
 refine W_for 3 (fun i σ v=>σ 2= .pointer (some ⟨w.heap.size,0,Option.none⟩)∧σ 10= .pointer (some ⟨B,0,Option.none⟩)∧σ 37= .slice (some ⟨B+1,0,Option.none⟩) 3 3∧σ 38=vi 3∧σ 39=vi i∧σ 11=vi (wst (X.take i))∧
  (∃cs:List Value,v.heap[B]? =some (.cells cs.toArray 129 (0,0))∧cs.length=3∧∀j,j<i→∀(h:j<X.length),cs[j]? =some (vi (decP zab X[j]).1))∧(∀x∈X.take i,(decP zab x).2≠2)∧KeepB (B+2) (fun b=>b=B) w5 v) ?_ ?_ ?_
 ·exact⟨(vq1 s2),vr0,vr0,vr0,vr0,vr0,⟨[vi 0,vi 0,vi 0],hB15,rfl,fun j h=>absurd h (by omega)⟩,fun x h=>absurd h (by simp),KeepB.refl _ _ _⟩
 ·rintro i σ v hi p ⟨r2,r10,r37,r38,r39,r11,⟨cs,hcs,hcl,hcv⟩,hno,hk⟩
  have hiX:i<X.length:=by omega
  have hEv:Ext w v:=⟨hk.os.trans hE15.os,hk.tape.trans hE15.tape,hk.output.trans hE15.output,Nat.le_trans hE15.size hk.size,fun b hb hn=>(hk.block b (by omega) (by omega)).trans (hE15.block b hb hn),Nat.le_trans hE15.drawn hk.drawn⟩
  have d1:decide ((i:Int)<3)=true:=decide_eq_true (by omega)
  have hcell:zag v (some ⟨B+1,i,Option.none⟩)=some (vs X[i]):=by
   obtain⟨a,c,e,hc,hg⟩:=hrow
   injection e with e1 e2 e3
   have h2:=hg i (by simpa using hiX)
   rw[←e1,List.getElem_map,zcd,Nat.zero_add]at h2
   exact zbY hk (by show B+1<B+2;omega) (by show¬B+1=B;omega) h2
  have hi0:(0:Int)≤(i:Int):=by omega
  have hi3:(i:Int)<((3:Nat):Int):=by omega
  refine go (an9 r2 r10 r37 r38 r39 r11 d1 hcell (an2 hi0 hi3)) ?_
  have hxs:=hXs _ (List.getElem_mem hiX)
  refine rc (an5 r2 r10 r37 r38 (an2 r39 r11)) (zbm (hW.ext hEv) X[i] zab (by decide) (by omega)) ?_
  rintro _ v1 ⟨rfl,hE1v⟩
  refine rgo (an2 r10 r11) ?_
  by_cases he:(decP zab X[i]).2=2
  ·refine wt (decide_eq_true he) ?_
   repeat refine c_r ?_
   refine rq ?_;intro gd K hgd hK
   try simp only[go_sem]
   refine⟨by kernel_rfl,?_⟩
   rw[show bdV Tryz.prog 45 []=some (.agg #[vi 0,vi 0,vi 0]) from rfl]
   try simp (disch:=first|omega|assumption|rfl) only[go_sem,r2]
   refine zbV (P:=Tryz.prog) (l:=[vi 0,vi 0,vi 0]) (hE1v.at ((hk.block _ (by omega) (by omega)).trans hB05)) rfl (fun q hq=>by simp at hq;subst hq;rfl) rfl rfl ?_
   intro w6 hs6 hB6 hk6
   try simp only[go_sem]
   refine hK _ _ ?_;clear hK hgd;clear K;try clear gd
   repeat (with_reducible first|refine zbZ ?_|refine zdq ?_|refine zb0 ?_|refine zap ?_|refine zaG ?_|refine zaQ ?_|refine zas ?_|refine zaM ?_|refine zax ?_|refine zaq rfl ?_)
   have hmem:X[i]=f∨X[i]=t∨X[i]=u:=by
    have h2:∀x∈X,x=f∨x=t∨x=u:=by rw[←hX];simp
    exact h2 _ (List.getElem_mem hiX)
   refine zero _ w6 0 2 ?_ (Keep.to_ext (hEv.trans hE1v) rfl (fun b (hb:b=w.heap.size)=>by omega) hk6) hB6 ((vq1 r2)) (by rw[←he];first| (simp only[go_sem];done)| (simp only[go_sem];rfl))
   rw[hR,if_neg (by simp),if_pos]
   rcases hmem with h|h|h<;>rw[h]at he<;>simp[he]
  have hne:decide ((decP zab X[i]).2=2)=false:=decide_eq_false he
  refine wf hne ?_
  have hle:=zbL zab X[i]
  have hm:zab=2147483647:=rfl
  have hwr:IntKind.i64.wrap ((decP zab X[i]).1:Int)=((decP zab X[i]).1:Int):=zaF (by omega) (by rw[hm]at hle ⊢;omega)
  repeat refine c_r ?_
  refine rq ?_;intro gd K hgd hK
  try simp (disch:=first|omega|assumption|rfl) only[go_sem,r10,r39,hi0,hi3,hwr]
  refine zcT (P:=Tryz.prog) (b:=B) (j:=i) rfl rfl rfl (hE1v.at hcs) (by simp[hcl];omega) (.inl (Nat.zero_le _)) ?_
  intro v2 hs2 hb2 hk2
  try simp only[go_sem]
  refine hK _ _ ?_;clear hK hgd;clear K;try clear gd
  repeat refine c_r ?_
  refine rq ?_;intro gd K hgd hK
  try simp (disch:=first|omega|assumption|rfl) only[go_sem,r11]
  refine zb7 (k:= .i64) (a:=wst (X.take i)) (b:=(decP zab X[i]).2) (vq0) (vq0) ?_
  try simp only[go_sem]
  refine hK _ _ ?_;clear hK hgd;clear K;try clear gd
  have hi1:(i:Int)+1=((i+1:Nat):Int):=by push_cast;rfl
  refine go (an3 r39 hi1 hi0) ?_
  refine⟨rfl,(vq1 r2),(vq1 r10),(vq1 r37),(vq1 r38),vq0,?_,⟨cs.set i (vi (decP zab X[i]).1),?_,by simp[hcl],?_⟩,?_,?_⟩
  ·rw[zaA hiX,wst_app];simp only[go_sem]
  ·rw[hb2];simp
  ·intro j hj hjX
   rw[List.getElem?_set]
   by_cases e:i=j
   ·subst e;simp[hcl,hi]
   ·rw[if_neg e];exact hcv j (by omega) hjX
  ·rw[zaA hiX]
   intro x hx
   rcases List.mem_append.1 hx with hx|hx
   ·exact hno x hx
   ·rw[List.mem_singleton.1 hx];exact he
  ·have hsz:=hk.size
   have hsz1:=hE1v.size
   exact hk.trans ((hE1v.toB (by omega) (fun _ _ h=>h.elim)).trans (hk2.toB (by omega) (fun _ _ h=>h)))
 ·rintro σ v p ⟨r2,r10,r37,r38,r39,r11,⟨cs,hcs,hcl,hcv⟩,hno,hk⟩
  have d1:decide ((3:Int)<3)=false:=rfl
  have hEv:Ext w v:=⟨hk.os.trans hE15.os,hk.tape.trans hE15.tape,hk.output.trans hE15.output,Nat.le_trans hE15.size hk.size,fun b hb hn=>(hk.block b (by omega) (by omega)).trans (hE15.block b hb hn),Nat.le_trans hE15.drawn hk.drawn⟩
  have hB0v:=(hk.block w.heap.size (by omega) (by omega)).trans hB05
  have c0:zag v (some ⟨B,0,Option.none⟩)=some (vi (decP zab f).1):=zad hcs (by have:=hcv 0 (by omega) (by omega);simpa [←hX] using this)
  have c1:zag v (some ⟨B,1,Option.none⟩)=some (vi (decP zab t).1):=zad hcs (by have:=hcv 1 (by omega) (by omega);simpa [←hX] using this)
  have c2:zag v (some ⟨B,2,Option.none⟩)=some (vi (decP zab u).1):=zad hcs (by have:=hcv 2 (by omega) (by omega);simpa [←hX] using this)
  have t1:(1:Int).toNat=1:=rfl
  have t2:(2:Int).toNat=2:=rfl
  have z0:(0:Int)≤0:=Int.le_refl _
  have hw3:wst (X.take 3)=max (max (max 0 (decP zab f).2) (decP zab t).2) (decP zab u).2:=by rw[←hX];rfl
  have hn2:(decP zab f).2≠2∧(decP zab t).2≠2∧(decP zab u).2≠2:=by
   rw[←hX]at hno
   simpa using hno
  refine go (an7 r2 r10 r37 r38 r39 r11 d1) ?_
  refine rq ?_;intro gd K hgd hK
  try simp (disch:=first|omega|assumption|rfl) only[go_sem,r10,c0,c1,c2,t1,t2,z0,Int.toNat_zero,Nat.zero_add]
  refine⟨by kernel_rfl,?_⟩
  rw[bdR]
  try simp (disch:=first|omega|assumption|rfl) only[go_sem,r2]
  refine zdt (P:=Tryz.prog) (l:=[vi (decP zab f).1,vi (decP zab t).1,vi (decP zab u).1]) rfl (zdb _ _ _) rfl rfl ?_
  intro w6 hE6 hs6 hB6
  try simp only[go_sem]
  refine hK _ _ ?_;clear hK hgd;clear K;try clear gd
  have hcs6:=zaY (n:=3) hB6 rfl
  have hB06:=hE6.at hB0v
  have fin:∀(σ:Sto) (z:Int),zau s=((0,0,0),z)→σ 2= .pointer (some ⟨w.heap.size,0,Option.none⟩)→∀x,Ext w6 x→∀x',x'.heap[w.heap.size]? =some (.cells [vi 0,vi 0,vi 0].toArray 45 (0,0))→Keep (fun b=>b=w.heap.size) x x'→σ 3=vi z→
    retQ Tryz.prog Tryz.f22 (fun v w'=>v= .tuple #[.agg #[vi (zau s).1.1,vi (zau s).1.2.1,vi (zau s).1.2.2],vi (zau s).2]∧Ext w w') .ret σ [] x':=fun σ z hr h2 x hx x' hB hk h3=>
   zero σ x' 0 z hr (Keep.to_ext ((hEv.trans hE6).trans hx) rfl (fun b (hb:b=w.heap.size)=>by omega) hk) hB h2 h3
  by_cases h7:(decP zab f).2=7∨(decP zab t).2=7∨(decP zab u).2=7
  ·have hw7:wst (X.take 3)=7:=by
    rw[hw3]
    have e1:=za0 zab f;have e2:=za0 zab t;have e3:=za0 zab u
    omega
   rw[hw7]at r11
   have d7:decide ((7:Int)=0)=false:=rfl
   refine go (an2 r11 d7) ?_
   refine rq ?_;intro gd K hgd hK
   try simp (disch:=first|omega|assumption|rfl) only[go_sem,r11]
   refine⟨by kernel_rfl,?_⟩
   rw[show bdV Tryz.prog 45 []=some (.agg #[vi 0,vi 0,vi 0]) from rfl]
   try simp (disch:=first|omega|assumption|rfl) only[go_sem,r2,r11]
   refine zbV (P:=Tryz.prog) (l:=[vi 0,vi 0,vi 0]) hB06 rfl (zdb _ _ _) rfl rfl ?_
   intro w7 hs7 hB7 hk7
   try simp only[go_sem]
   refine hK _ _ ?_;clear hK hgd;clear K;try clear gd
   repeat (with_reducible first|refine zbZ ?_|refine zdq ?_|refine zb0 ?_|refine zap ?_|refine zaG ?_|refine zaQ ?_|refine zas ?_|refine zaM ?_|refine zax ?_|refine zaq rfl ?_)
   refine fin _ 7 ?_ ((vq1 r2)) w6 (Keep.refl _ _) w7 hB7 hk7 ((vq1 r11))
   rw[hR,if_neg (by simp),if_neg (by simpa using hn2),if_pos h7]
  have hw0:wst (X.take 3)=0:=by
   rw[hw3]
   have e1:=za0 zab f;have e2:=za0 zab t;have e3:=za0 zab u
   omega
  rw[hw0]at r11
  have d0:decide ((0:Int)=0)=true:=rfl
  refine go (an2 r11 d0) ?_
  refine rc hcs6 (zcW w6 _ _ _) ?_
  rintro _ w7 ⟨rfl,hE7⟩
  have l1':=zbL zab f;have l2':=zbL zab t
  have hm:zab=2147483647:=rfl
  rw[hm]at l1' l2'
  by_cases hab:(decP zab f).1≤(decP zab t).1∧1≤(decP zab u).1
  ·have hb:zaS (decP zab f).1 (decP zab t).1 (decP zab u).1=true:=by
    unfold zaS
    rw[decide_eq_true (by omega),decide_eq_true (by omega),decide_eq_true (by rw[hm]at*;omega),decide_eq_true (by omega)]
    rfl
   refine rgo hb ?_
   repeat refine c_r ?_
   refine rq ?_;intro gd K hgd hK
   try simp (disch:=first|omega|assumption|rfl) only[go_sem,zbj hE7 hcs6,r2]
   refine zbV (P:=Tryz.prog) (l:=[vi (decP zab f).1,vi (decP zab t).1,vi (decP zab u).1]) (hE7.at hB06) rfl (zdb _ _ _) rfl rfl ?_
   intro w8 hs8 hB8 hk8
   try simp only[go_sem]
   refine hK _ _ ?_;clear hK hgd;clear K;try clear gd
   repeat (with_reducible first|refine zbZ ?_|refine zdq ?_|refine zb0 ?_|refine zap ?_|refine zaG ?_|refine zaQ ?_|refine zas ?_|refine zaM ?_|refine zax ?_|refine zaq rfl ?_)
   refine zaj (.inr rfl) Tryz.ntmps22 rfl (zdD (k:=3) (cs:=[vi (decP zab f).1,vi (decP zab t).1,vi (decP zab u).1]) ((vq1 r2)) rfl rfl (zaY (l:=[vi (decP zab f).1,vi (decP zab t).1,vi (decP zab u).1]) hB8 rfl) (zac (v:=vi 0) (vr0) zah)) ?_
   rw[hR,if_neg (by simp),if_neg (by simpa using hn2),if_neg h7,if_pos hab]
   exact⟨rfl,Keep.to_ext ((hEv.trans hE6).trans hE7) rfl (fun b (hb:b=w.heap.size)=>by omega) hk8⟩
  ·have hb:zaS (decP zab f).1 (decP zab t).1 (decP zab u).1=false:=by
    unfold zaS
    by_cases h1:(decP zab f).1≤(decP zab t).1
    ·have h2:¬1≤(decP zab u).1:=fun h=>hab ⟨h1,h⟩
     rw[decide_eq_false (show¬(1:Int)≤((decP zab u).1:Int) by omega)]
     simp
    ·rw[decide_eq_false (show¬((decP zab f).1:Int)≤((decP zab t).1:Int) by omega)]
     simp
   refine rgo hb ?_
   repeat refine c_r ?_
   refine rq ?_;intro gd K hgd hK
   try simp only[go_sem]
   refine⟨by kernel_rfl,?_⟩
   rw[show bdV Tryz.prog 45 []=some (.agg #[vi 0,vi 0,vi 0]) from rfl]
   try simp (disch:=first|omega|assumption|rfl) only[go_sem,r2]
   refine zbV (P:=Tryz.prog) (l:=[vi 0,vi 0,vi 0]) (hE7.at hB06) rfl (zdb _ _ _) rfl rfl ?_
   intro w8 hs8 hB8 hk8
   try simp only[go_sem]
   refine hK _ _ ?_;clear hK hgd;clear K;try clear gd
   repeat (with_reducible first|refine zbZ ?_|refine zdq ?_|refine zb0 ?_|refine zap ?_|refine zaG ?_|refine zaQ ?_|refine zas ?_|refine zaM ?_|refine zax ?_|refine zaq rfl ?_)
   refine fin _ 1 ?_ ((vq1 r2)) w7 hE7 w8 hB8 hk8 (vr0)
   rw[hR,if_neg (by simp),if_neg (by simpa using hn2),if_neg h7,if_neg hab]
def encNum(x:Int)(_:World)(args:Array Value):Prop:=args=#[vi x]
theorem zcF{W0:World}{n0:Nat}{C:Nat→Prop}{c a b d:Nat}{T:TypeId}{fr:Nat×Nat}(hb:W0.heap[c]? =some (.cells #[vi a,vi b,vi d] T fr))(hbn:c<n0)(hbC:¬C c)(hab:a≤b)(hbm:b≤2147483647)(hd:1≤d)(hdm:d≤9223372036854775807):
  Iter Tryz.prog 137 #[.pointer (some ⟨c,0,Option.none⟩)] W0 n0 C (zaP a b d) encNum:=by
 intro lp J Jx W hW hnW hJ hJx hY h0
 have hlen:=zcn a b d
 have cell:∀{v:World},KeepB n0 C W v→∀(j:Nat) (u:Value),#[vi a,vi b,vi d][j]? =some u→zag v (some ⟨c,j,Option.none⟩)=some u:=fun hk j u hu=>
  zbY hk hbn hbC (zad (hW.at hb) hu)
 have c0:=cell (KeepB.refl _ _ _) 0 (vi a) rfl
 refine enter Tryz.func137 Tryz.ntmps137 rfl rfl ?_
 refine go c0 ?_
 refine zcw (fun m σ ds v=>ds=[]∧∃i,i+m=(b - a) / d∧σ 3=vi ((a+i*d:Nat):Int)∧σ 0= .func (.yield lp) #[] #[]∧σ 1= .pointer (some ⟨c,0,Option.none⟩)∧J ((zaP a b d).take i) v∧KeepB n0 C W v) ((b - a) / d) ?_ ?_
 ·refine⟨rfl,0,by omega,?_,?_,?_,by simpa using h0,KeepB.refl _ _ _⟩
  ·simp only[Nat.zero_mul,Nat.add_zero];simp only[go_sem]
  ·simp only[go_sem]
  ·simp only[go_sem]
 ·rintro m σ ds v ⟨rfl,i,him,h3,hf0,hf1,hj,hK0⟩
  have hi:i<(zaP a b d).length:=by omega
  repeat refine c_r ?_
  refine rq ?_;intro gd K hgd hK
  have hg3:∀n σ b,za4 gd n σ (some (3,b))=zaO (ev n σ (.tmp 9)) b:=(fun n σ b=>by rw[zao,show gd 3=some 9 from(by rw[hgd];rfl)];rfl)
  try simp (disch:=first|omega|assumption|rfl) only[go_sem,h3,hf0,hf1]
  refine Yld.mono (hY ((zaP a b d).take i) (zaP a b d)[i] ((zaP a b d).drop (i+1)) v _ (zcU hi) hj hK0 (by rw[zdR];rfl)) ?_
  rintro u x (⟨rfl,hj',hk'⟩| ⟨rfl,hjx⟩)
  ·have c1:=cell (hK0.trans hk') 1 (vi b) rfl
   have c2:=cell (hK0.trans hk') 2 (vi d) rfl
   have hin:=zdQ hd hab (i:=i) (by omega)
   have hwr:IntKind.i64.wrap ((b:Int) - ((a+i*d:Nat):Int))=(b:Int) - ((a+i*d:Nat):Int):=zaF (by omega) (by omega)
   by_cases hmore:d≤b - (a+i*d)
   ·have d1:decide ((d:Int)≤(b:Int) - ((a+i*d:Nat):Int))=true:=decide_eq_true (by omega)
    try simp (disch:=first|omega|assumption|rfl) only[go_sem,h3,hf0,hf1,c1,c2,hwr,d1,↓hg3]
    refine hK _ _ ?_;clear hK hgd;clear K;try clear gd
    have e1:((a+i*d:Nat):Int)+(d:Int)=((a+(i+1)*d:Nat):Int):=by rw[Nat.add_mul];push_cast;omega
    have hw2:IntKind.i64.wrap (((a+i*d:Nat):Int)+(d:Int))=((a+(i+1)*d:Nat):Int):=by rw[zaF (by omega) (by omega),e1]
    refine go (an4 h3 hf1 c2 hw2) ?_
    have hnm:i+1≤(b - a) / d:=zdP hd (by rw[Nat.add_mul];omega)
    refine⟨m - 1,by omega,rfl,i+1,by omega,vq0,(vq1 hf0),(vq1 hf1),?_,hK0.trans hk'⟩
    rw[zaA hi];exact hj'
   ·have d1:decide ((d:Int)≤(b:Int) - ((a+i*d:Nat):Int))=false:=decide_eq_false (by omega)
    try simp (disch:=first|omega|assumption|rfl) only[go_sem,h3,hf0,hf1,c1,c2,hwr,d1,↓hg3]
    refine hK _ _ ?_;clear hK hgd;clear K;try clear gd
    refine go trivial ?_
    refine zbv (by simp) rfl (.inl ?_)
    have hend:i+1=(zaP a b d).length:=by
     rw[hlen]
     by_cases h:i+1≤(b - a) / d
     ·have:=zdQ hd hab h
      rw[Nat.add_mul]at this
      omega
     ·omega
    have e2:(zaP a b d).take i++ [(zaP a b d)[i]]=zaP a b d:=by rw[←zaA hi,hend,List.take_length]
    rw[e2]at hj';exact hj'
  ·try simp (disch:=first|omega|assumption|rfl) only[go_sem,↓hg3]
   refine hK _ _ ?_;clear hK hgd;clear K;try clear gd
   refine go trivial ?_
   refine zbv (by simp) rfl (.inr ⟨_,_,_,zcU hi,hjx⟩)
theorem zdc(w:World){a b d:Nat}(hab:a≤b)(hbm:b≤2147483647)(hd:1≤d)(hdm:d≤9223372036854775807):
  Fn Tryz.prog 78 #[.agg #[vi a,vi b,vi d]] w (fun v w'=>Ext w w'∧∃cap,v= .func (.func 137) #[] cap∧
   ∀C:Nat→Prop,(∀i,C i→i<w.heap.size)→Iter Tryz.prog 137 cap w' w'.heap.size C (zaP a b d) encNum):=by
 refine enter Tryz.func78 Tryz.ntmps78 rfl rfl ?_
 refine go trivial ?_
 refine rt0 Tryz.ntmps78 ?_
 exact⟨Ext.alloc _ _,_,rfl,fun C hC=>zcF (zaT _ _) (by simp) (fun h=>by have:=hC _ h;omega) hab hbm hd hdm⟩
def numI(a b d:Int):List Int×Int:=
 if zaS a b d=false then([],1) else if 4096≤(b - a) / d then([],11) else(zaP a.toNat b.toNat d.toNat,0)
theorem zc8{a b d:Int}:zaS a b d=true↔0≤a∧a≤b∧b≤2147483647∧1≤d:=by
 unfold zaS;simp[and_assoc]
theorem zdB{a b d:Int}(h:zaS a b d=true):∃x y z:Nat,a=x∧b=y∧d=z∧x≤y∧y≤2147483647∧1≤z:=by
 obtain⟨h1,h2,h3,h4⟩:=zc8.1 h
 exact⟨a.toNat,b.toNat,d.toNat,by omega,by omega,by omega,by omega,by omega,by omega⟩
theorem rowNil(w:World):Row w (.slice Option.none 0 0) []:=⟨Option.none,0,rfl,Nat.le_refl _,fun j h=>absurd h (by simp)⟩
theorem zdr(w:World)(a b d:Int)(hdm:d≤9223372036854775807):
  Fn Tryz.prog 24 #[.agg #[vi a,vi b,vi d]] w (fun v w'=>∃lv,v= .tuple #[lv,vi (numI a b d).2]∧Row w' lv ((numI a b d).1.map vi)∧Ext w w'):=by
 refine enter Tryz.func24 Tryz.ntmps24 rfl rfl ?_
 refine go trivial ?_
 refine zaN ?_
 intro w1 hE1 hs1 hA
 have q3:=zaY (n:=3) (l:=[vi a,vi b,vi d]) hA rfl
 refine rc q3 (zcW w1 a b d) ?_
 rintro _ w2 ⟨rfl,hE2⟩
 unfold numI
 cases hr:zaS a b d with
 |false=>
  refine rgo hr ?_
  refine zaj (.inr rfl) Tryz.ntmps24 rfl (zac (v:= .slice Option.none 0 0) (vr0) (zac (vr0) zah)) ?_
  exact⟨_,rfl,rowNil _,hE1.trans hE2⟩
 |true=>
 obtain⟨x,y,z,rfl,rfl,rfl,hxy,hy,hz⟩:=zdB hr
 have hA2:=hE2.at hA
 have c0:zag w2 (some ⟨w.heap.size,0,Option.none⟩)=some (vi x):=zad hA2 rfl
 have c1:zag w2 (some ⟨w.heap.size,1,Option.none⟩)=some (vi y):=zad hA2 rfl
 have c2:zag w2 (some ⟨w.heap.size,2,Option.none⟩)=some (vi z):=zad hA2 rfl
 have q32:=zaY (n:=3) (l:=[vi x,vi y,vi z]) hA2 rfl
 refine rgo hr ?_
 have hwr:IntKind.i64.wrap ((y:Int) - (x:Int))=((y - x:Nat):Int):=by rw[zaF (by omega) (by omega)];omega
 have hdv:((y:Int) - (x:Int)) / (z:Int)=(((y - x) / z:Nat):Int):=by rw[Int.natCast_ediv];congr 1;omega
 rw[hdv]
 have hq:IntKind.i64.wrap (((y - x:Nat):Int).tdiv (z:Int))=(((y - x) / z:Nat):Int):=by
  have h1:((y - x:Nat):Int).tdiv (z:Int)=(((y - x) / z:Nat):Int):=by
   rw[Int.tdiv_eq_ediv_of_nonneg (by omega),Int.natCast_ediv]
  have h2:(y - x) / z≤y - x:=Nat.div_le_self _ _
  rw[h1]
  revert h2
  generalize (y - x) / z=k
  intro h2
  exact zaF (by omega) (by omega)
 have hz0:¬(z:Int)=0:=by omega
 by_cases hbig:(4096:Int)≤(((y - x) / z:Nat):Int)
 ·rw[if_neg (by simp),if_pos hbig]
  refine go (an8 c0 c1 c2 hwr hq (decide_eq_true hbig) hz0 (an2 (Nat.zero_add 1) (Nat.zero_add 2))) ?_
  refine zaj (.inr rfl) Tryz.ntmps24 rfl (zac (v:= .slice Option.none 0 0) (vr0) (zac (vr0) zah)) ?_
  exact⟨_,rfl,rowNil _,hE1.trans hE2⟩
 rw[if_neg (by simp),if_neg hbig]
 refine go (an8 c0 c1 c2 hwr hq (decide_eq_false hbig) hz0 (an2 (Nat.zero_add 1) (Nat.zero_add 2))) ?_
 refine zaN ?_
 intro w3 hE3 hs3 hB3
 refine rc (zbj hE3 q32) (zdc w3 hxy hy hz (by omega)) ?_
 rintro _ w4 ⟨hE4,cap,rfl,hit⟩
 refine rgo trivial ?_
 simp only[Int.toNat_natCast]
 obtain⟨xs,hxs⟩:∃xs,zaP x y z=xs:=⟨_,rfl⟩
 have hxl:xs.length≤4096:=by rw[←hxs,zcn];omega
 rw[hxs]at hit ⊢
 have hE14:Ext w w4:=((hE1.trans hE2).trans hE3).trans hE4
 have hs4:=hE4.size
 have hs2w:=(hE1.trans hE2).size
 have hB4:=hE4.at hB3
 refine W_range (g:=137) (cap:=cap) (vq0) rfl (hit (fun b=>b=w2.heap.size) (fun b hb=>by omega)) (Keep.refl _ _) (Nat.le_refl _) (fun b hb=>by omega)
  (fun x A args h=>by rw[h];rfl)
  (fun pre A=>Ext w A∧∃sv,A.heap[w2.heap.size]? =some (.cells #[sv] 51 (0,0))∧Own (w4.heap.size+2) A 3 sv (pre.map vi))
  (fun _ _ _=>False) ?_ (fun _ _ _ _ h _=>h.elim) ?_ ?_ ?_ (fun _ _ _ _ _ _ _ h _=>h.elim)
 ·rintro pre A B ⟨h1,sv,h2,h3⟩ hk
  have:=hE14.size
  exact⟨Keep.to_ext h1 rfl (fun b hb=>by unfold two at hb;omega) hk,sv,(hk.block _ (Array.getElem?_eq_some_iff.1 h2).1 (by unfold two;omega)).trans h2,h3.keep hk (fun b hb h=>by have:=(h3.ge hb).1;unfold two at h;omega)⟩
 ·exact⟨hE14,_,hB4,Own.nil _ _ _⟩
 ·rintro lp pre x suf A args hxs hszA ⟨hEA,sv,hb,hown⟩ rfl
  have hpl:pre.length+1≤xs.length:=by
   have:=congrArg List.length hxs
   simp at this;omega
  refine rq ?_;intro gd K hgd hK
  try simp only[go_sem]
  refine hK _ _ ?_;clear hK hgd;clear K;try clear gd
  refine zap ?_
  refine⟨rfl,KeepB.refl _ _ _,fun Y hY=>?_⟩
  have hw4:=hE14.size
  have hbY:=(hY.block _ (Array.getElem?_eq_some_iff.1 hb).1 (by unfold two;omega)).trans hb
  have hEY:Ext w Y:=Keep.to_ext hEA rfl (fun b hb=>by unfold two at hb;omega) hY
  have hownY:=hown.keep hY (fun b hb h=>by have:=(hown.ge hb).1;unfold two at h;omega)
  have hsY:=hY.size
  have q0:zag Y (some ⟨w2.heap.size,0,Option.none⟩)=some sv:=zad hbY rfl
  repeat refine c_r ?_
  refine rq ?_;intro gd K hgd hK
  try simp (disch:=first|omega|assumption|rfl) only[go_sem,q0]
  refine zc2 rfl rfl rfl rfl rfl ?_
  intro y1 hEy1 hsy1 hown1
  try simp (disch:=first|omega|assumption|rfl) only[go_sem,q0]
  refine op_app (e:=3) (hownY.ext hEy1) hown1.row rfl rfl rfl rfl rfl rfl (vq0) (vq0) (fun q hq=>by simp at hq;subst hq;rfl) (by simp;omega) (by decide) (by omega) ?_
  intro sv' y2 hown2 hX2 hK2 hb2
  try simp only[go_sem]
  have hb2Y:=(hK2.block w2.heap.size (by have:=(Array.getElem?_eq_some_iff.1 (hEy1.at hbY)).1;omega) (fun hh=>by have:=(hownY.ge hh).1;omega)).trans (hEy1.at hbY)
  refine zcT (P:=Tryz.prog) rfl rfl (by obtain⟨a,c,rfl⟩:=hown2.slice;rfl) hb2Y (by simp) (by simp) ?_
  intro y3 hs3' hb3 hk3
  try simp only[go_sem]
  refine hK _ _ ?_;clear hK hgd;clear K;try clear gd
  repeat refine c_r ?_
  have hs2:=hK2.size
  refine⟨⟨Keep.to_ext (hX2 w (hEY.trans hEy1) (by omega)) rfl (fun b hb=>by have:=hE14.size;omega) hk3,sv',hb3,?_⟩,?_⟩
  ·rw[List.map_append];exact hown2.keep hk3 (fun b hb h=>by have:=(hown2.ge hb).1;omega)
  ·exact(hEy1.toB (by omega) (fun _ _ h=>h.elim)).trans ((hK2.toB (by omega) (fun i hi h=>by have:=(hownY.ge h).1;omega)).trans (hk3.toB (by omega) (fun _ _ h=>h)))
 ·intro A hszA ⟨hEA,sv,hb,hown⟩ hD
  have q0:zag A (some ⟨w2.heap.size,0,Option.none⟩)=some sv:=zad hb rfl
  repeat refine c_r ?_
  refine rg1 q0 ?_
  repeat refine c_r ?_
  refine ret_anyM (.inr rfl) Tryz.ntmps24 rfl hD ?_
  intro Z hkZ hsZ
  refine⟨_,zac (v:=sv) (vq0) (zac (v:=vi 0) (vr0) zah),?_⟩
  refine⟨sv,rfl,(hown.keep hkZ (fun b hb h=>by have:=(hown.ge hb).1;omega)).row,Keep.to_ext hEA rfl (fun b hb=>by omega) hkZ⟩
def hiD(m:Nat):Lab:=if m<10 then [] else Lib.decDigits (m / 10)
theorem dec_hi(m:Nat):Lib.decDigits m=hiD m++ [UInt8.ofNat (48+m % 10)]:=by
 rw[Lib.decDigits]
 unfold hiD
 by_cases h:m<10
 ·rw[dif_pos h,if_pos h,Nat.mod_eq_of_lt h];rfl
 ·rw[dif_neg h,if_neg h]
theorem zdA{w:World}{B b k n c:Nat}{v:Value}(h:Own B w 5 v [.int .u8 k])(hk:k<256)(hv:v= .slice (some ⟨b,0,Option.none⟩) n c):∀j (hj:j< [UInt8.ofNat k].length),zag w (adr (some ⟨b,0,Option.none⟩) j)=some (zaL [UInt8.ofNat k][j]):=by
 intro j hj
 have h0:j=0:=by simpa using hj
 subst h0
 obtain⟨a,c2,e,hc2,hgt⟩:=h.row
 rw[hv]at e
 injection e with e1
 have h2:=hgt 0 (by simp)
 rw[←e1]at h2
 rw[h2]
 show some (Value.int .u8 k)=some (Value.int .u8 ((UInt8.ofNat k).toNat:Int))
 rw[UInt8.toNat_ofNat',Nat.mod_eq_of_lt hk]
theorem zcP(w:World)(n:Nat)(hn:n≤4000000000000000000)(hn1:n≤9223372036854775807):
  Fn Tryz.prog 26 #[vi n] w (fun v w'=>v=vs (Lib.decDigits n)∧Ext w w'):=by
 have d0:decide ((n:Int)= -9223372036854775808)=false:=decide_eq_false (by omega)
 have d1:decide ((n:Int)<0)=false:=decide_eq_false (by omega)
 refine enter Tryz.func26 Tryz.ntmps26 rfl rfl ?_
 refine go (an2 d0 d1) ?_
 have e1:∀m:Nat,(m:Int).tmod 10=((m % 10:Nat):Int):=fun m=>by rw[Int.tmod_eq_emod_of_nonneg (by omega)];omega
 have w1:∀m:Nat,IntKind.i64.wrap (48+((m % 10:Nat):Int))=((48+m % 10:Nat):Int):=fun m=>by rw[zaF (by omega) (by omega)];omega
 have w2:∀m:Nat,IntKind.u8.wrap ((48+m % 10:Nat):Int)=((48+m % 10:Nat):Int):=fun m=>wrap8 (by omega) (by omega)
 have nz:¬(10:Int)=0:=by decide
 refine rq ?_;intro gd K hgd hK
 try simp (disch:=first|omega|assumption|rfl) only[go_sem,e1,w1,w2,nz]
 refine zc2 rfl rfl rfl rfl rfl ?_
 intro x1 hX1 hXs hXo
 try simp only[go_sem]
 refine zcc (l:=[UInt8.ofNat (48+n % 10)]) (a:=some ⟨w.heap.size,0,Option.none⟩) (c:=1) rfl rfl rfl (vr0) (zdA hXo (by omega) rfl) ?_
 try simp only[go_sem]
 refine hK _ _ ?_;clear hK hgd;clear K;try clear gd
 refine go trivial ?_
 refine zcw (fun M σ ds v=>ds=[]∧∃(m:Nat) (t:Lab),M=m∧σ 0=vi m∧σ 3=vs t∧m≤n∧m+t.length≤n+1∧Lib.decDigits n=hiD m++t∧Ext w v) n ?_ ?_
 ·exact⟨rfl,n,_,rfl,vr0,vr0,Nat.le_refl _,by simp,dec_hi n,hX1⟩
 ·rintro m σ ds v ⟨rfl,_,t,rfl,h0,h3,hm,hl,ht,hE⟩
  by_cases h10:10≤m
  ·have d2:decide ((10:Int)≤(m:Int))=true:=decide_eq_true (by omega)
   have hq:(m:Int).tdiv 10=((m / 10:Nat):Int):=by rw[Int.tdiv_eq_ediv_of_nonneg (by omega)];omega
   have hw:IntKind.i64.wrap ((m / 10:Nat):Int)=((m / 10:Nat):Int):=zaF (by omega) (by omega)
   refine go (an6 h0 h3 d2 hq hw nz) ?_
   refine rq ?_;intro gd K hgd hK
   try simp (disch:=first|omega|assumption|rfl) only[go_sem,e1,w1,w2,nz,h3]
   refine zc2 rfl rfl rfl rfl rfl ?_
   intro x2 hX2 hXs2 hXo2
   try simp only[go_sem]
   refine zcc (l:=[UInt8.ofNat (48+m / 10 % 10)]) (a:=some ⟨v.heap.size,0,Option.none⟩) (c:=1) rfl rfl rfl (vr0) (zdA hXo2 (by omega) rfl) ?_
   have hadd:([UInt8.ofNat (48+m / 10 % 10)]:Lab).length+t.length≤9223372036854775807:=by simp;omega
   try simp (disch:=first|omega|assumption|rfl) only[go_sem,h3,hadd]
   refine hK _ _ ?_;clear hK hgd;clear K;try clear gd
   repeat refine c_r ?_
   refine⟨m / 10,by omega,rfl,m / 10,_,rfl,vr0,vr0,by omega,by simp;omega,?_,hE.trans hX2⟩
   rw[ht]
   have:hiD m=Lib.decDigits (m / 10):=by unfold hiD;rw[if_neg (by omega)]
   rw[this,dec_hi (m / 10),List.append_assoc];rfl
  ·have d2:decide ((10:Int)≤(m:Int))=false:=decide_eq_false (by omega)
   refine go (an3 h0 h3 d2) ?_
   refine rt1 h3 Tryz.ntmps26 ?_
   refine⟨?_,hE⟩
   rw[ht]
   unfold hiD
   rw[if_pos (by omega)]
   rfl
theorem isPow16(w:World):Calls Tryz.prog 235 #[vi 16] w (fun e w'=>e= .returned (.bool true)∧w'=w):=by
 go_enter Tryz.func235,Tryz.ntmps235
 go_wp2
 go_ret
 exact⟨rfl,rfl⟩
theorem trail64(w:World)(x:Int)(h:w.cell? ⟨6,15,Option.none⟩=some (.int .u8 x))(hx:0≤x∧x<256):Calls Tryz.prog 272 #[.int .u64 16] w (fun e w'=>(∃y,e= .returned (.int .i64 y))∧w'=w):=by
 have h':w.cell? ⟨6,(IntKind.u64.wrap (bits BinOp.and IntKind.u64 16 (IntKind.u64.wrap (-16))*285870213051353865) / 288230376151711744).toNat,Option.none⟩=some (.int .u8 x):=by
  rw[show (IntKind.u64.wrap (bits BinOp.and IntKind.u64 16 (IntKind.u64.wrap (-16))*285870213051353865) / 288230376151711744).toNat=15 by kernel_rfl]
  exact h
 go_enter Tryz.func272,Tryz.ntmps272
 go_wp2
 all_goals (go_ret;exact⟨⟨_,rfl⟩,rfl⟩)
theorem trail16(w:World)(x:Int)(h:w.cell? ⟨6,15,Option.none⟩=some (.int .u8 x))(hx:0≤x∧x<256):Calls Tryz.prog 236 #[.int .u64 16] w (fun e w'=>(∃y,e= .returned (.int .i64 y))∧w'=w):=by
 go_enter Tryz.func236,Tryz.ntmps236
 go_wp2_with (go_at_call 272;refine(trail64 _ x h hx).mono ?_)
 rintro e w2 ⟨⟨y,rfl⟩,rfl⟩
 go_wp2
 go_ret
 exact⟨⟨_,rfl⟩,rfl⟩
section
variable {P : Program} {d : Option Tmp} {ty : TypeId} {ps : String} {af : Array Edge} {g : Option (Nat × Bool)} {ρ : Operand → Value} {w : World} {K : Value → World → Prop}
theorem op_slAl{t e:TypeId}{x y:Operand}{n l:Nat}{a:Addr}{inf:TypeInfo}(ht:P.underlying t=some (.array n e))(hn:n≠0)(hi:P.info? e=some inf)(hs:inf.size=1)(hl:l<n)
  (hx:ρ x= .pointer (some a)) (hy:ρ y=vi l) (h:K (.slice (some (a.add l)) (n - l) (n - l)) w):opW P ⟨d,.slice t x (some y) Option.none Option.none,ty,ps,af,g⟩ ρ w K:=by
 refine zae (s:=Instr.sliceAt t (ρ x) (some (ρ y)) Option.none Option.none) (v:= .slice (some (a.add l)) (n - l) (n - l)) (w':=w) ?_ h
 have e1:=zaB (P:=P) (w:=w) (sl:=false) (n:=n) (c:=n) (lo:=some (vi l)) (hi:=Option.none) (mx:=Option.none) (l:=l) (h:=n) (m:=n) rfl rfl rfl (by omega) (Nat.le_refl _) (Nat.le_refl _) (by simp)
 simp[Instr.sliceAt,underlying,program,Sem.run,ht,hx,hy,Instr.sureAddr,e1,sizeOf,typeInfo,hi,hs,hn]
 omega
end
theorem isPow16F(w:World):Fn Tryz.prog 235 #[vi 16] w (fun v w'=>v= .bool true∧w=w'):=
 Fn.of_calls ((isPow16 w).mono fun _ _ ⟨he,hw⟩=>⟨_,he,rfl,hw.symm⟩)
theorem trail16F(w:World)(x:Int)(h:w.cell? ⟨6,15,Option.none⟩=some (.int .u8 x))(hx:0≤x∧x<256):Fn Tryz.prog 236 #[.int .u64 16] w (fun v w'=>(∃y,v=vi y)∧w=w'):=
 Fn.of_calls ((trail16 w x h hx).mono fun _ _ ⟨⟨y,he⟩,hw⟩=>⟨_,he,⟨y,rfl⟩,hw.symm⟩)
theorem bits16(w:World)(x:Int)(h:w.cell? ⟨6,15,Option.none⟩=some (.int .u8 x))(hx:0≤x∧x<256):Fn Tryz.prog 194 #[.slice Option.none 0 0,.int .u64 10,vi 16,.bool false,.bool false] w (fun v w'=>(∃l,v= .tuple #[l,vs [97]])∧Ext w w'):=by
 have d1:decide ((16:Int)<2)=false:=rfl
 have d2:decide ((16:Int)=10)=false:=rfl
 have d3:decide ((36:Int)<16)=false:=rfl
 refine enter Tryz.func194 Tryz.ntmps194 rfl rfl ?_
 refine go trivial ?_
 refine rgg [(2,21),(6,25)] (an3 d1 d2 d3) ?_
 refine go trivial ?_
 refine zaN ?_
 intro w1 hE1 hs1 hA
 refine rc trivial (isPow16F w1) ?_
 rintro _ _ ⟨rfl,rfl⟩
 have hw16:IntKind.u64.wrap 16=16:=rfl
 have hw15:IntKind.u64.wrap (16 - 1)=15:=rfl
 refine rgo trivial ?_
 refine rc hw16 (trail16F w1 x (zbd hE1 h) hx) ?_
 rintro _ _ ⟨⟨y,rfl⟩,rfl⟩
 have d4:decide ((16:Int)≤10)=false:=rfl
 refine rgo (an2 hw16 hw15) ?_
 refine zcw (fun m σ ds v=>ds=[]∧σ 1= .int .u64 10∧σ 3= .bool false∧σ 4= .bool false∧σ 12= .pointer (some ⟨w.heap.size,0,Option.none⟩)∧σ 13=vi 65∧σ 15= .int .u64 16∧w1=v) 0 ?_ ?_
 ·exact⟨rfl,vr0,vr0,vr0,vr0,vr0,vr0,rfl⟩
 rintro m σ ds v ⟨rfl,s1,s3,s4,s12,s13,s15,rfl⟩
 refine go (an7 s1 s3 s4 s12 s13 s15 d4) ?_
 have hix:ixSD (some .string) (.string ⟨#[48,49,50,51,52,53,54,55,56,57,97,98,99,100,101,102,103,104,105,106,107,108,109,110,111,112,113,114,115,116,117,118,119,120,121,122]⟩) (.int .u64 10)=some (.int .u8 97):=by rfl
 have t64:(64:Int).toNat=64:=rfl
 have z64:(0:Int)≤64:=by decide
 have l64:(64:Int)<((65:Nat):Int):=by decide
 refine rq ?_;intro gd K hgd hK
 try simp (disch:=first|omega|assumption|rfl) only[go_sem,s1,s12,hix,t64,z64,l64,Nat.zero_add]
 refine zcT (P:=Tryz.prog) (b:=w.heap.size) (j:=64) rfl rfl rfl hA (by decide) (.inl (by decide)) ?_
 intro w2 hs2 hb2 hk2
 try simp only[go_sem]
 refine hK _ _ ?_;clear hK hgd;clear K;try clear gd
 refine go (an3 s3 s4 s12) ?_
 refine rq ?_;intro gd K hgd hK
 try simp (disch:=first|omega|assumption|rfl) only[go_sem,s12]
 refine op_slAl (n:=65) (l:=64) (a:=⟨w.heap.size,0,Option.none⟩) rfl (by decide) rfl rfl (by decide) ((vq1 s12)) (vr0) ?_
 try simp only[go_sem]
 have c64:zag w2 (some ⟨w.heap.size,64,Option.none⟩)=some (zaL 97):=zad hb2 (by rfl)
 refine zcc (l:=[97]) (a:=some ⟨w.heap.size,64,Option.none⟩) (c:=1) rfl rfl rfl (vr0) (fun j hj=>?_) ?_
 ·have h0:j=0:=by simpa using hj
  subst h0
  rw[zc3];exact c64
 try simp only[go_sem]
 refine hK _ _ ?_;clear hK hgd;clear K;try clear gd
 repeat refine c_r ?_
 refine zaj (.inr rfl) Tryz.ntmps194 rfl (zac (vr0) (zac (v:=vs [97]) (vr0) zah)) ?_
 exact⟨⟨_,rfl⟩,Keep.to_ext hE1 rfl (fun b (hb:b=w.heap.size)=>by omega) hk2⟩
theorem Format16(w:World)(x:Int)(h:w.cell? ⟨6,15,Option.none⟩=some (.int .u8 x))(hx:0≤x∧x<256):Fn Tryz.prog 142 #[vi 10,vi 16] w (fun v w'=>v=vs [97]∧Ext w w'):=by
 have d1:decide ((16:Int)=10)=false:=rfl
 have d2:decide ((10:Int)<0)=false:=rfl
 have hw:IntKind.u64.wrap 10=10:=rfl
 have inner:Fn Tryz.prog 210 #[vi 10,vi 16] w (fun v w'=>v=vs [97]∧Ext w w'):=by
  refine enter Tryz.func210 Tryz.ntmps210 rfl rfl ?_
  refine go d1 ?_
  refine rc (an2 d2 hw) (bits16 w x h hx) ?_
  rintro _ w1 ⟨⟨l,rfl⟩,hE1⟩
  refine rgo trivial ?_
  refine rt0 Tryz.ntmps210 ?_
  exact⟨rfl,hE1⟩
 refine enter Tryz.func142 Tryz.ntmps142 rfl rfl ?_
 refine go trivial ?_
 refine rc trivial inner ?_
 rintro _ w1 ⟨rfl,hE1⟩
 refine rgo trivial ?_
 refine rt0 Tryz.ntmps142 ?_
 exact⟨rfl,hE1⟩
def offF(s:Lab):Int×Int:=let p:=decP zab (Lib.trimPrefix s [45]);(if [45].isPrefixOf s then -(p.1:Int) else p.1,p.2)
theorem zbT(s p:Lab):(Lib.trimPrefix s p).length≤s.length:=by
 unfold Lib.trimPrefix
 split
 ·rw[List.length_drop];omega
 ·exact Nat.le_refl _
theorem zdO{w:World}(hW:WX w)(s:Lab)(hs:s.length≤1000000):Fn Tryz.prog 140 #[vs s] w (fun v w'=>v= .tuple #[vi (offF s).1,vi (offF s).2]∧Ext w w'):=by
 have hl:=zbT s [45]
 have hle:=zbL zab (Lib.trimPrefix s [45])
 rw[show zab=2147483647 from rfl]at hle
 have hw1:IntKind.i64.wrap ((decP zab (Lib.trimPrefix s [45])).1:Int)=((decP zab (Lib.trimPrefix s [45])).1:Int):=zaF (by omega) (by rw[show zab=2147483647 from rfl];omega)
 have hw2:IntKind.i64.wrap (0 - ((decP zab (Lib.trimPrefix s [45])).1:Int))= -((decP zab (Lib.trimPrefix s [45])).1:Int):=by rw[zaF (by rw[show zab=2147483647 from rfl];omega) (by omega)];omega
 refine enter Tryz.func140 Tryz.ntmps140 rfl rfl ?_
 refine go trivial ?_
 refine rc trivial (zcA w s [45]) ?_
 rintro _ _ ⟨rfl,rfl⟩
 refine rgo trivial ?_
 refine rc trivial (zbm hW (Lib.trimPrefix s [45]) zab (by decide) (by omega)) ?_
 rintro _ w2 ⟨rfl,hE2⟩
 unfold offF
 cases hm:([45]:Lab).isPrefixOf s with
 |true=>
  refine rgo (an3 hw1 hw2 hm) ?_
  refine zaj (.inr rfl) Tryz.ntmps140 rfl (zac (vr0) (zac (vr0) zah)) ?_
  exact⟨rfl,hE2⟩
 |false=>
  refine rgo (an3 hw1 hw2 hm) ?_
  refine zaj (.inr rfl) Tryz.ntmps140 rfl (zac (vr0) (zac (vr0) zah)) ?_
  exact⟨rfl,hE2⟩
theorem zef(w:World)(s:Lab)(k:Int)(h:(s=[100]∧k=10)∨(s=[120]∧k=16)∨(s=[113]∧k=0)):Fn Tryz.prog 141 #[vs s] w (fun v w'=>v=vi k∧w=w'):=by
 rcases h with ⟨rfl,rfl⟩| ⟨rfl,rfl⟩| ⟨rfl,rfl⟩
 ·have d1:decide (([100]:Lab)=[100])=true:=rfl
  refine enter Tryz.func141 Tryz.ntmps141 rfl rfl ?_
  refine go d1 ?_
  refine rt0 Tryz.ntmps141 ?_
  exact⟨rfl,rfl⟩
 ·have d1:decide (([120]:Lab)=[100])=false:=rfl
  have d2:decide (([120]:Lab)=[111])=false:=rfl
  have d3:decide (([120]:Lab)=[120])=true:=rfl
  refine enter Tryz.func141 Tryz.ntmps141 rfl rfl ?_
  refine go (an3 d1 d2 d3) ?_
  refine rt0 Tryz.ntmps141 ?_
  exact⟨rfl,rfl⟩
 ·have d1:decide (([113]:Lab)=[100])=false:=rfl
  have d2:decide (([113]:Lab)=[111])=false:=rfl
  have d3:decide (([113]:Lab)=[120])=false:=rfl
  have d4:decide (([113]:Lab)=[88])=false:=rfl
  refine enter Tryz.func141 Tryz.ntmps141 rfl rfl ?_
  refine go (an4 d1 d2 d3 d4) ?_
  refine rt0 Tryz.ntmps141 ?_
  exact⟨rfl,rfl⟩
theorem Mul_ok(w:World)(x y:Nat)(hx:x<18446744073709551616)(hy:y<18446744073709551616)(h:x*y<18446744073709551616):Fn Tryz.prog 213 #[.int .u64 x,.int .u64 y] w (fun v w'=>v= .tuple #[.int .u64 0,.int .u64 ((x*y:Nat):Int)]∧w=w'):=by
 refine Fn.of_calls ((Any.bits_Mul Tryz.lays212 x y hx hy w).mono fun e w' ⟨he,hw⟩=>⟨_,he,?_,hw.symm⟩)
 rw[Nat.div_eq_of_lt h,Nat.mod_eq_of_lt h];rfl
theorem zbS(w:World)(c:UInt8)(r:Lab):Fn Tryz.prog 79 #[vs (c::r),vs [48]] w (fun v w'=>v= .bool (decide (48=c))∧w=w'):=by
 refine Fn.mono (zbt w (c::r) [48]) ?_
 rintro v w' ⟨rfl,rfl⟩
 refine⟨?_,rfl⟩
 simp[List.isPrefixOf]
 by_cases h:(48:UInt8)=c<;>simp[h]
theorem zeros_sl(k:Nat)(hk:k≤64):slD Tryz.prog (some .string) (vs (List.replicate 64 48)) Option.none (some (vi k)) Option.none=some (vs (List.replicate k 48)):=by
 rw[s_strh (by omega) (by simp;omega)]
 rw[Int.toNat_natCast,List.take_replicate,Nat.min_eq_left hk]
theorem zek(w:World)(k:Nat)(hk:k≤64):Fn Tryz.prog 144 #[vs [48],vi k] w (fun v w'=>v=vs (List.replicate k 48)∧Ext w w'):=by
 by_cases h0:k=0
 ·subst h0
  refine enter Tryz.func144 Tryz.ntmps144 rfl rfl ?_
  refine go (show decide (((0:Nat):Int)=0)=true from rfl) ?_
  refine rt0 Tryz.ntmps144 ?_
  exact⟨rfl,Keep.refl _ _⟩
 by_cases h1:k=1
 ·subst h1
  refine enter Tryz.func144 Tryz.ntmps144 rfl rfl ?_
  refine go (an2 (show decide (((1:Nat):Int)=0)=false from rfl) (show decide (((1:Nat):Int)=1)=true from rfl)) ?_
  refine rt0 Tryz.ntmps144 ?_
  exact⟨rfl,Keep.refl _ _⟩
 have d0:decide ((k:Int)=0)=false:=decide_eq_false (by omega)
 have d1:decide ((k:Int)=1)=false:=decide_eq_false (by omega)
 have d2:decide ((k:Int)<0)=false:=decide_eq_false (by omega)
 have hlen:([48]:Lab).length=1:=rfl
 have e1:(1:Nat)*k=k:=Nat.one_mul k
 have dz:decide ((0:Int)<0)=false:=rfl
 have d3:decide ((9223372036854775807:Int)<(k:Int))=false:=decide_eq_false (by omega)
 have d4:decide ((k:Int)≤128)=true:=decide_eq_true (by omega)
 have d5:decide ((k:Int)≤64)=true:=decide_eq_true (by omega)
 have d6:decide (((1:Nat):Int)=0)=false:=rfl
 have b1:decide ((((48:UInt8).toNat:Nat):Int)=32)=false:=rfl
 have b2:decide ((((48:UInt8).toNat:Nat):Int)=45)=false:=rfl
 have b3:decide ((((48:UInt8).toNat:Nat):Int)=48)=true:=rfl
 refine enter Tryz.func144 Tryz.ntmps144 rfl rfl ?_
 refine go (an3 d0 d1 d2) ?_
 refine rc hlen (Mul_ok w 1 k (by omega) (by omega) (by omega)) ?_
 rintro _ _ ⟨rfl,rfl⟩
 rw[e1]
 refine rgo trivial ?_
 refine rgg [(2,31)] (an2 dz d3) ?_
 refine go (an7 dz d3 hlen d6 b1 b2 b3) ?_
 refine rcg [(2,52)] d4 (zbS w 32 _) ?_
 rintro _ _ ⟨rfl,rfl⟩
 refine reg [(2,52)] (an2 d4 (show decide ((48:UInt8)=32)=false from rfl)) ?_
 refine go trivial ?_
 refine rcg [(2,61)] d4 (zbS w 45 _) ?_
 rintro _ _ ⟨rfl,rfl⟩
 refine reg [(2,61)] (an2 d4 (show decide ((48:UInt8)=45)=false from rfl)) ?_
 refine go trivial ?_
 refine rcg [(2,70)] d5 (zbS w 48 _) ?_
 rintro _ _ ⟨rfl,rfl⟩
 refine reg [(2,70)] (an2 d5 (show decide ((48:UInt8)=48)=true from rfl)) ?_
 refine go trivial ?_
 refine rq ?_;intro gd K hgd hK
 try simp only[go_sem]
 change optL (slD Tryz.prog (some .string) (vs (List.replicate 64 48)) Option.none (some (vi k)) Option.none) _ _ _ _
 rw[zeros_sl k hk]
 try simp only[go_sem]
 refine hK _ _ ?_;clear hK hgd;clear K;try clear gd
 repeat refine c_r ?_
 refine rt0 Tryz.ntmps144 ?_
 exact⟨rfl,Keep.refl _ _⟩
structure Spl(s:Lab)(ps:List Lab):Prop where
 sp:Lib.splitB ⟨#[44]⟩ 0 (Lib.countB ⟨s.toArray⟩ ⟨#[44]⟩) ⟨s.toArray⟩=ps.map fun l=>⟨l.toArray⟩
 ct:Lib.countB ⟨s.toArray⟩ ⟨#[44]⟩+1=ps.length
theorem Split_ok{w:World}(hW:WX w){s:Lab}{ps:List Lab}{n:Nat}(hs:s.length<4000000000)(h:Spl s ps)(hn:ps.length=n):
  Fn Tryz.prog 139 #[vs s,vs [44]] w (fun v w'=>v= .slice (some ⟨w.heap.size,0,Option.none⟩) n n∧w'.heap[w.heap.size]? =some (.cells (ps.map vs).toArray 9 (0,0))∧Ext w w'):=by
 obtain⟨m,hm⟩:=hW.ml
 refine Fn.of_calls ((Any.strings_Split Tryz.lays146 (by kernel_rfl) ⟨s.toArray⟩ ⟨#[44]⟩ m w (show s.toArray.size<_ by simp;omega) hm (by decide)).mono ?_)
 rintro _ w' ⟨he,rfl⟩
 subst hn
 rw[h.sp,h.ct,List.map_map]at*
 refine⟨_,he,rfl,?_,Ext.alloc w _⟩
 rw[World.alloc_heap_new]
 rfl
theorem zbO{w:World}(hW:WX w){s a b c D:Lab}{o n k:Int}{wd:Nat}(hs:s.length≤1000)(hsp:Spl s [a,b,c])(ha:offF a=(o,0))(hb:decP 63 b=(wd,0))(hal:a.length≤1000)(hbl:b.length≤1000)
  (hc:(c=[100]∧k=10)∨(c=[120]∧k=16)∨(c=[113]∧k=0)) (hF:k≠0→0≤n+o∧n+o≤2147483647∧D.length≤63∧∀w',WX w'→Fn Tryz.prog 142 #[vi (n+o),vi k] w' (fun v w2=>v=vs D∧Ext w' w2)):
  Fn Tryz.prog 81 #[vs s,vi n] w (fun v w'=>v=(if k=0 then .tuple #[vs [],vi 2] else .tuple #[vs (List.replicate (wd - D.length) 48++D),vi 0])∧Ext w w'):=by
 have hwd:=zbL 63 b
 rw[hb]at hwd
 have d02:decide ((0:Int)=2)=false:=rfl
 have d00:decide ((0:Int)=0)=true:=rfl
 have d33:decide ((3:Int)<3)=false:=rfl
 have d13:decide ((1:Int)<3)=true:=rfl
 have d23:decide ((2:Int)<3)=true:=rfl
 have t1:(1:Int).toNat=1:=rfl
 have t2:(2:Int).toNat=2:=rfl
 have z0:(0:Int)≤0:=Int.le_refl _
 refine enter Tryz.func81 Tryz.ntmps81 rfl rfl ?_
 refine go trivial ?_
 refine rc trivial (Split_ok (n:=3) hW (by omega) hsp rfl) ?_
 rintro _ w1 ⟨rfl,hB,hE1⟩
 have c0:zag w1 (some ⟨w.heap.size,0,Option.none⟩)=some (vs a):=zad hB rfl
 have c1:zag w1 (some ⟨w.heap.size,1,Option.none⟩)=some (vs b):=zad hB rfl
 have c2:zag w1 (some ⟨w.heap.size,2,Option.none⟩)=some (vs c):=zad hB rfl
 have hW1:=hW.ext hE1
 refine rgo trivial ?_
 refine rc (an5 c0 z0 Int.toNat_zero d13 t1) (zdO hW1 a (by omega)) ?_
 rintro _ w2 ⟨rfl,hE2⟩
 rw[ha]
 refine rgo trivial ?_
 refine rgg [(2,24)] (an2 d02 d33) ?_
 refine go trivial ?_
 refine rq ?_;intro gd K hgd hK
 try simp only[go_sem]
 refine zb7 (k:= .i64) (a:=0) (b:=0) (vr0) (vr0) ?_
 try simp only[go_sem]
 refine hK _ _ ?_;clear hK hgd;clear K;try clear gd
 have c1':=zaK hE2 c1
 refine go d13 ?_
 refine rc (an5 c1' z0 t1 d13 d02) (zbm (hW1.ext hE2) b 63 (by decide) (by omega)) ?_
 rintro _ w3 ⟨rfl,hE3⟩
 rw[hb]
 refine rgo d02 ?_
 refine rq ?_;intro gd K hgd hK
 try simp only[go_sem]
 refine zb7 (k:= .i64) (a:=max 0 0) (b:=0) (vr0) (vr0) ?_
 try simp only[go_sem]
 refine hK _ _ ?_;clear hK hgd;clear K;try clear gd
 have c2':=zaK (hE2.trans hE3) c2
 refine go (an5 c2' z0 t2 d23 (show((2:Int))<((3:Nat):Int) by decide)) ?_
 refine rc trivial (zef w3 c k hc) ?_
 rintro _ _ ⟨rfl,rfl⟩
 by_cases hk:k=0
 ·refine rgo (decide_eq_true hk) ?_
  rw[if_pos hk]
  refine zaj (.inr rfl) Tryz.ntmps81 rfl (zac (v:=vs []) (vr0) (zac (v:=vi 2) (vr0) zah)) ?_
  exact⟨rfl,(hE1.trans hE2).trans hE3⟩
 rw[if_neg hk]
 obtain⟨l1,l2,hDl,hFm⟩:=hF hk
 have dk:decide (k=0)=false:=decide_eq_false hk
 have dm:decide (max (max (0:Int) 0) 0=0)=true:=rfl
 refine rgo (an2 dk dm) ?_
 have hw:IntKind.i64.wrap (n+o)=n+o:=zaF (by omega) (by omega)
 have dl:decide (n+o<0)=false:=decide_eq_false (by omega)
 have dg:decide ((2147483647:Int)<n+o)=false:=decide_eq_false (by omega)
 refine rgg [(4,64)] (an3 hw dl dg) ?_
 refine go trivial ?_
 refine rc hw (zef w3 c k hc) ?_
 rintro _ _ ⟨rfl,rfl⟩
 refine rd hw (hFm w3 ((hW1.ext hE2).ext hE3)) ?_
 rintro _ w4 ⟨rfl,hE4⟩
 have dX:decide (c=[88])=false:=decide_eq_false (by rcases hc with ⟨rfl,_⟩| ⟨rfl,_⟩| ⟨rfl,_⟩<;>decide)
 refine rgo dX ?_
 have hwd2:IntKind.i64.wrap (wd:Int)=(wd:Int):=zaF (by omega) (by omega)
 have hw3:IntKind.i64.wrap ((wd:Int) - (D.length:Int))=(wd:Int) - (D.length:Int):=zaF (by omega) (by omega)
 refine rq ?_;intro gd K hgd hK
 try simp (disch:=first|omega|assumption|rfl) only[go_sem,hwd2,hw3]
 refine zb7 (k:= .i64) (a:=(wd:Int) - (D.length:Int)) (b:=0) (vr0) (vr0) ?_
 rw[show max ((wd:Int) - (D.length:Int)) 0=((wd - D.length:Nat):Int) by omega]
 try simp only[go_sem]
 refine Fn.mono (zek w4 (wd - D.length) (by simp only at hwd;omega)) ?_
 rintro _ w5 ⟨rfl,hE5⟩
 have hadd:(List.replicate (wd - D.length) (48:UInt8)).length+D.length≤9223372036854775807:=by rw[List.length_replicate];simp only at hwd;omega
 try simp (disch:=first|omega|assumption|rfl) only[go_sem,hadd]
 refine hK _ _ ?_;clear hK hgd;clear K;try clear gd
 repeat refine c_r ?_
 refine zaj (.inr rfl) Tryz.ntmps81 rfl (zac (v:=vs (List.replicate (wd - D.length) 48++D)) (vr0) (zac (v:=vi 0) (vr0) zah)) ?_
 exact⟨rfl,(((hE1.trans hE2).trans hE3).trans hE4).trans hE5⟩
def preP(l:Lab)(o:Option (Lab×Int)):Option (Lab×Int):=o.map fun x=>if x.2=0 then(l++x.1,0) else([],x.2)
theorem preP_pre(a l:Lab)(o:Option (Lab×Int)):preP a (preP l o)=preP (a++l) o:=by
 unfold preP
 cases o with
 |none=>rfl
 |some x=>by_cases h:x.2=0<;>simp[h]
def putN(br:Lab→Option (Lab×Int))(nd:Lab):Nat→Lab→Option (Lab×Int)
 |_,[]=>some ([],0)
 |0,_=>Option.none
 |f+1,c::r=>
  if [36,36].isPrefixOf (c::r) then preP [36] (putN br nd f (r.drop 1))
  else if [92,36].isPrefixOf (c::r) then preP [92,36] (putN br nd f (r.drop 1))
  else if [36,123].isPrefixOf (c::r) then
   (if (cutB 125 (r.drop 1)).2.2=false then some ([],2) else match br (cutB 125 (r.drop 1)).1 with
    |Option.none=>Option.none
    |some (d,e)=>if e=0 then preP d (putN br nd f (cutB 125 (r.drop 1)).2.1) else some ([],e))
  else if c=36 then preP nd (putN br nd f r)
  else preP [c] (putN br nd f r)
theorem zb5{a b c:UInt8}{r:Lab}(h:[a,b].isPrefixOf (c::r)=true):∃t,r=b::t∧c=a:=by
 cases r with
 |nil=>simp[List.isPrefixOf]at h
 |cons x t=>
  simp[List.isPrefixOf]at h
  exact⟨t,by rw[h.2],h.1.symm⟩
theorem Bld.ext2{B:Nat}{w x:World}{b:Nat}{bs:List UInt8}(h:Bld B w b bs)(hE:Ext w x):Bld B x b bs:=by
 obtain⟨p,v,hp,hb,hown⟩:=h.ex
 exact⟨p,v,hp,hE.at hb,hown.ext hE⟩
theorem zel(w:World)(s p:Lab):Fn Tryz.prog 79 #[vs s,vs p] w (fun v w'=>v= .bool (p.isPrefixOf s)∧w=w'):=
 Fn.mono (zbt w s p) fun _ _ ⟨h1,h2⟩=>⟨h1,h2.symm⟩
theorem zcy{w:World}(hW:WX w){s out nd:Lab}{n e:Int}{br:Lab→Option (Lab×Int)}{f0:Nat}(hs:s.length≤10000)(hnd:nd.length≤100)(hI:∀v,WX v→Fn Tryz.prog 82 #[vi n] v (fun u v'=>u=vs nd∧Ext v v'))
  (hbr:∀i d e,br i=some (d,e)→d.length≤100∧∀v,WX v→Fn Tryz.prog 81 #[vs i,vi n] v (fun u v'=>u= .tuple #[vs d,vi e]∧Ext v v'))
  (hp:putN br nd f0 s=some (out,e)) (he:e=0∨out=[]):
  Fn Tryz.prog 27 #[vs s,vi n] w (fun v w'=>v= .tuple #[vs out,vi e]∧Ext w w'):=by
 have hp0:preP [] (putN br nd f0 s)=some (out,e):=by
  rw[hp]
  unfold preP
  rcases he with rfl|rfl
  ·simp
  ·by_cases h:e=0<;>simp[h]
 clear hp
 refine enter Tryz.func27 Tryz.ntmps27 rfl rfl ?_
 refine go trivial ?_
 refine zaN ?_
 intro w1 hE1 hs1 hA
 refine zcw (fun m σ ds v=>ds=[]∧∃(s' acc:Lab) (f:Nat),s'.length=m∧σ 0=vs s'∧σ 1=vi n∧σ 6= .pointer (some ⟨w.heap.size,0,Option.none⟩)∧Bld (w.heap.size+1) v w.heap.size acc∧Ext w v∧w.heap.size+1≤v.heap.size∧
  preP acc (putN br nd f s')=some (out,e)∧acc.length+100*s'.length≤1000000) s.length ?_ ?_
 ·exact⟨rfl,s,[],f0,rfl,vr0,vr0,vr0,⟨_,_,.inl rfl,hA,Own.nil _ _ _⟩,hE1,by omega,hp0,by simp;omega⟩
 rintro m σ ds v ⟨rfl,s',acc,f,hm,h0,h1,h6,hB,hEv,hvs,hrel,hlen⟩
 cases s' with
 |nil=>
  have hx:out=acc∧e=0:=by
   have h2:putN br nd f []=some ([],0):=by cases f<;>rfl
   rw[h2]at hrel
   simp[preP]at hrel
   exact⟨hrel.1.symm,hrel.2.symm⟩
  obtain⟨rfl,rfl⟩:=hx
  refine go (an4 h0 h1 h6 (show decide (([]:Lab)=[])=true from rfl)) ?_
  refine rc h6 (zej hB (by simp at hlen;omega)) ?_
  rintro _ v1 ⟨rfl,hk1⟩
  refine rgo trivial ?_
  refine zaj (.inr rfl) Tryz.ntmps27 rfl (zac (v:=vs out) (vr0) (zac (v:=vi 0) (vr0) zah)) ?_
  exact⟨rfl,Keep.to_ext hEv rfl (fun b hb=>by omega) hk1⟩
 |cons c r=>
 have hWv:=hW.ext hEv
 cases f with
 |zero=>simp[putN,preP]at hrel
 |succ f=>
 rw[List.length_cons]at hm hlen
 unfold putN at hrel
 have dne:decide (c::r=[])=false:=decide_eq_false (by simp)
 -- one more round
 have next:∀(σ':Sto) (v':World) (acc' r':Lab) (k:Nat),r'.length<m→σ' 0=vs r'→σ' 1=vi n→σ' 6= .pointer (some ⟨w.heap.size,0,Option.none⟩)→Bld (w.heap.size+1) v' w.heap.size (acc++acc')→Keep (fun i=>i=w.heap.size∨w.heap.size+1≤i) v v'→preP acc (preP acc' (putN br nd f r'))=some (out,e)→acc'.length+100*r'.length≤100*(r.length+1)→
   ∃m',m'<m∧([]:List Deferred)=[]∧∃(s' acc:Lab) (f:Nat),s'.length=m'∧σ' 0=vs s'∧σ' 1=vi n∧σ' 6= .pointer (some ⟨w.heap.size,0,Option.none⟩)∧Bld (w.heap.size+1) v' w.heap.size acc∧Ext w v'∧w.heap.size+1≤v'.heap.size∧preP acc (putN br nd f s')=some (out,e)∧acc.length+100*s'.length≤1000000:=
  fun σ' v' acc' r' k h1 h2 h3 h4 h5 h6 h7 h8=>⟨r'.length,h1,rfl,r',acc++acc',f,rfl,h2,h3,h4,h5,Keep.to_ext hEv rfl (fun b hb=>by omega) h6,by have:=h6.size;omega,by rw[←preP_pre];exact h7,by rw[List.length_append];omega⟩
 refine go (an4 h0 h1 h6 dne) ?_
 have t2:(2:Int).toNat=2:=rfl
 have z2:(0:Int)≤2:=by decide
 have t1:(1:Int).toNat=1:=rfl
 have z1:(0:Int)≤1:=by decide
 have l1:(1:Int)≤((c::r).length:Int):=by rw[List.length_cons];omega
 refine rc h0 (zel v (c::r) [36,36]) ?_
 rintro _ _ ⟨rfl,rfl⟩
 cases p1:([36,36]:Lab).isPrefixOf (c::r) with
 |true=>
  rw[p1,if_pos rfl]at hrel
  obtain⟨t,rfl,rfl⟩:=zb5 p1
  have l2:(2:Int)≤((36::36::t:Lab).length:Int):=by simp only[List.length_cons];omega
  refine rgo (an2 p1 h6) ?_
  refine rc h6 (zbs (c:=36) hB hvs (by omega)) ?_
  rintro _ v1 ⟨hB1,hk1⟩
  refine rgo (an5 h0 h1 h6 t2 (an2 z2 l2)) ?_
  exact next _ v1 [36] t 0 (by simp only[List.length_cons]at hm;omega) (vr0) ((vq1 h1)) ((vq1 h6)) hB1 hk1 hrel (by simp only[List.length_cons,List.length_nil];omega)
 |false=>
 rw[p1,if_neg (by decide)]at hrel
 refine rgo p1 ?_
 refine rc h0 (zel v (c::r) [92,36]) ?_
 rintro _ _ ⟨rfl,rfl⟩
 cases p2:([92,36]:Lab).isPrefixOf (c::r) with
 |true=>
  rw[p2,if_pos rfl]at hrel
  obtain⟨t,rfl,rfl⟩:=zb5 p2
  have l2:(2:Int)≤((92::36::t:Lab).length:Int):=by simp only[List.length_cons];omega
  refine rgo p2 ?_
  refine rc (an5 h0 h6 t2 z2 l2) (zaE (s:=[92,36]) hB hvs (by simp only[List.length_cons,List.length_nil];omega)) ?_
  rintro _ v1 ⟨hB1,hk1⟩
  refine rgo (an5 h0 h1 h6 t2 (an2 z2 l2)) ?_
  exact next _ v1 [92,36] t 0 (by simp only[List.length_cons]at hm;omega) (vr0) ((vq1 h1)) ((vq1 h6)) hB1 hk1 hrel (by simp only[List.length_cons,List.length_nil];omega)
 |false=>
 rw[p2,if_neg (by decide)]at hrel
 refine rgo p2 ?_
 refine rc h0 (zel v (c::r) [36,123]) ?_
 rintro _ _ ⟨rfl,rfl⟩
 cases p3:([36,123]:Lab).isPrefixOf (c::r) with
 |true=>
  rw[p3,if_pos rfl]at hrel
  obtain⟨t,rfl,rfl⟩:=zb5 p3
  have l2:(2:Int)≤((36::123::t:Lab).length:Int):=by simp only[List.length_cons];omega
  refine rgo p3 ?_
  refine rc (an4 h0 t2 z2 l2) (zem hWv t 125 (by simp only[List.length_cons]at hlen;omega)) ?_
  rintro _ v1 ⟨rfl,hE1v⟩
  obtain⟨c1,c2⟩:=zby 125 t
  obtain⟨a,q,b,hx⟩:∃a q b,cutB 125 t=(a,q,b):=⟨(cutB 125 t).1,(cutB 125 t).2.1,(cutB 125 t).2.2,rfl⟩
  rw[hx]at c1 c2
  simp only[List.drop_succ_cons,List.drop_zero,hx]at hrel c1 c2 ⊢
  cases b with
  |false=>
   rw[if_pos rfl]at hrel
   refine rgo trivial ?_
   have hx:out=[]∧e=2:=by
    simp[preP]at hrel
    exact⟨hrel.1,hrel.2.symm⟩
   obtain⟨rfl,rfl⟩:=hx
   refine zaj (.inr rfl) Tryz.ntmps27 rfl (zac (v:=vs []) (vr0) (zac (v:=vi 2) (vr0) zah)) ?_
   exact⟨rfl,hEv.trans hE1v⟩
  |true=>
  rw[if_neg (by decide)]at hrel
  cases hba:br a with
  |none=>rw[hba]at hrel;simp[preP]at hrel
  |some de=>
  obtain⟨d,e1⟩:=de
  rw[hba]at hrel
  simp only at hrel
  obtain⟨hdl,hfn⟩:=hbr a d e1 hba
  refine rgo (an2 h1 h6) ?_
  refine rc h1 (hfn v1 (hWv.ext hE1v)) ?_
  rintro _ v2 ⟨rfl,hE2v⟩
  by_cases he0:e1=0
  ·rw[if_pos he0]at hrel
   refine rgo (decide_eq_true he0) ?_
   have hE12:=hE1v.trans hE2v
   refine rc h6 (zaE (s:=d) (hB.ext2 hE12) (by have:=hE12.size;omega) (by omega)) ?_
   rintro _ v3 ⟨hB3,hk3⟩
   refine rgo (an3 h0 h1 h6) ?_
   exact next _ v3 d q 0 (by simp only[List.length_cons]at hm;omega) (vr0) ((vq1 h1)) ((vq1 h6)) hB3 ((hE12.mono (fun _ _ h=>h.elim)).trans hk3) hrel (by simp only[List.length_cons];omega)
  ·rw[if_neg he0]at hrel
   refine rgo (decide_eq_false he0) ?_
   have hx:out=[]∧e=e1:=by
    simp[preP,he0]at hrel
    exact⟨hrel.1,hrel.2.symm⟩
   obtain⟨rfl,rfl⟩:=hx
   refine zaj (.inr rfl) Tryz.ntmps27 rfl (zac (v:=vs []) (vr0) (zac (v:=vi e) (vr0) zah)) ?_
   exact⟨rfl,(hEv.trans hE1v).trans hE2v⟩
 |false=>
 rw[p3,if_neg (by decide)]at hrel
 refine rgo (an2 p3 h0) ?_
 by_cases h36:c=36
 ·rw[if_pos h36]at hrel
  have d36:decide ((((c::r)[Int.toNat 0]'(by simp)).toNat:Int)=36)=true:=by subst h36;rfl
  refine wt d36 ?_
  refine go trivial ?_
  refine rc h1 (hI v hWv) ?_
  rintro _ v1 ⟨rfl,hE1v⟩
  refine rd h6 (zaE (s:=nd) (hB.ext2 hE1v) (by have:=hE1v.size;omega) (by omega)) ?_
  rintro _ v2 ⟨hB2,hk2⟩
  refine rgo (an5 h0 h1 h6 t1 (an2 z1 l1)) ?_
  exact next _ v2 nd r 0 (by omega) (vr0) ((vq1 h1)) ((vq1 h6)) hB2 ((hE1v.mono (fun _ _ h=>h.elim)).trans hk2) hrel (by omega)
 ·rw[if_neg h36]at hrel
  have d36:decide ((((c::r)[Int.toNat 0]'(by simp)).toNat:Int)=36)=false:=decide_eq_false fun (h:(c.toNat:Int)=36)=>h36 (UInt8.toNat_inj.1 (by have:(36:UInt8).toNat=36:=rfl;omega))
  refine wf d36 ?_
  refine go trivial ?_
  refine rc (an2 h0 h6) (zbs (c:=c) hB hvs (by omega)) ?_
  rintro _ v1 ⟨hB1,hk1⟩
  refine rgo (an5 h0 h1 h6 t1 (an2 z1 l1)) ?_
  exact next _ v1 [c] r 0 (by omega) (vr0) ((vq1 h1)) ((vq1 h6)) hB1 hk1 hrel (by simp only[List.length_cons,List.length_nil];omega)
theorem itoa_one{n:Nat}(h:n<10):Lib.itoa (n:Int)=[UInt8.ofNat (48+n)]:=by
 unfold Lib.itoa
 rw[if_neg (by omega),Int.toNat_natCast,Lib.decDigits,dif_pos h]
theorem zca(n:Nat):Lib.itoa (n:Int)=Lib.decDigits n:=by
 unfold Lib.itoa
 rw[if_neg (by omega),Int.toNat_natCast]
theorem itoa_11:Lib.itoa 11=[49,49]:=by
 rw[show (11:Int)=((11:Nat):Int) from rfl,zca,Lib.decDigits,dif_neg (by decide),Lib.decDigits,dif_pos (by decide)]
 rfl
theorem itoa_1:Lib.itoa 1=[49]:=(itoa_one (n:=1) (by decide)).trans rfl
theorem rf1:zau [49,45,55,47,51]=((1,7,3),0):=by decide+kernel
theorem rf2:zau [53,45,50]=((0,0,0),1):=by decide+kernel
theorem ni1:numI 1 7 3=([1,4,7],0):=by decide+kernel
def br8a(i:Lab):Option (Lab×Int):=if i=[45,49,44,51,44,120] then some ([48,48,97],0) else Option.none
def br8b(i:Lab):Option (Lab×Int):=if i=[49,44,50,44,113] then some ([],2) else Option.none
theorem pn1:putN br8a [49,49] 16 [97,36,45,36,123,45,49,44,51,44,120,125,36,36,92,36]=some ([97,49,49,45,48,48,97,36,92,36],0):=by decide+kernel
theorem pn2:putN br8b [49] 8 [36,123,49,44,50,44,113,125]=some ([],2):=by decide+kernel
theorem spl1:Spl [45,49,44,51,44,120] [[45,49],[51],[120]]:=⟨by kernel_rfl,by kernel_rfl⟩
theorem spl2:Spl [49,44,50,44,113] [[49],[50],[113]]:=⟨by kernel_rfl,by kernel_rfl⟩
theorem br8a_ok(i d:Lab)(e:Int)(h:br8a i=some (d,e)):d.length≤100∧∀v,WX v→Fn Tryz.prog 81 #[vs i,vi 11] v (fun u v'=>u= .tuple #[vs d,vi e]∧Ext v v'):=by
 unfold br8a at h
 split at h
 ·rename_i hi
  injection h with h
  injection h with h1 h2
  subst hi h1 h2
  refine⟨by decide,fun v hW=>Fn.mono (zbO (a:=[45,49]) (b:=[51]) (c:=[120]) (D:=[97]) (o:= -1) (k:=16) (wd:=3) hW (by decide) spl1 (by decide+kernel) (by decide+kernel) (by decide) (by decide) (.inr (.inl ⟨rfl,rfl⟩)) (fun _=>⟨by decide,by decide,by decide,fun w' hW'=>?_⟩)) fun u v' ⟨h1,h2⟩=>⟨by rw[h1];rfl,h2⟩⟩
  obtain⟨x,hx,hb⟩:=hW'.tz
  exact Format16 w' x hx hb
 ·cases h
theorem br8b_ok(i d:Lab)(e:Int)(h:br8b i=some (d,e)):d.length≤100∧∀v,WX v→Fn Tryz.prog 81 #[vs i,vi 1] v (fun u v'=>u= .tuple #[vs d,vi e]∧Ext v v'):=by
 unfold br8b at h
 split at h
 ·rename_i hi
  injection h with h
  injection h with h1 h2
  subst hi h1 h2
  exact⟨by decide,fun v hW=>Fn.mono (zbO (a:=[49]) (b:=[50]) (c:=[113]) (D:=[]) (o:=1) (k:=0) (wd:=2) hW (by decide) spl2 (by decide+kernel) (by decide+kernel) (by decide) (by decide) (.inr (.inr ⟨rfl,rfl⟩)) (fun h=>absurd rfl h)) fun u v' ⟨h1,h2⟩=>⟨by rw[h1];rfl,h2⟩⟩
 ·cases h
theorem zdZ{w:World}(hW:WX w):Fn Tryz.prog 21 #[] w (fun v w'=>v= .bool true∧Ext w w'):=by
 refine enter Tryz.func21 Tryz.ntmps21 rfl rfl ?_
 refine go trivial ?_
 refine rq ?_;intro gd K hgd hK
 try simp only[go_sem]
 refine Fn.mono (zc5 hW [49,45,55,47,51] (by decide)) ?_
 rintro _ w1 ⟨rfl,hE1⟩
 rw[rf1]
 try simp only[go_sem]
 refine zdt (P:=Tryz.prog) (l:=[vi 1,vi 7,vi 3]) rfl (zdb _ _ _) rfl rfl ?_
 intro w2 hE2 hs2 hB2
 try simp only[go_sem]
 refine hK _ _ ?_;clear hK hgd;clear K;try clear gd
 have hE12:=hE1.trans hE2
 have hq:=zaY (n:=3) (l:=[vi 1,vi 7,vi 3]) hB2 rfl
 repeat refine c_r ?_
 refine rc hq (zdr w2 1 7 3 (by decide)) ?_
 rintro _ w3 ⟨lv,rfl,hrow,hE3⟩
 rw[ni1]at hrow ⊢
 obtain⟨a,c,rfl,hc,hg⟩:=hrow
 have g2:=hg 2 (by decide)
 obtain⟨xa,rfl⟩:=Option.isSome_iff_exists.1 (zb1 g2)
 refine rgo trivial ?_
 have hW3:=(hW.ext hE12).ext hE3
 refine rc trivial (zcy (n:=11) (nd:=[49,49]) (f0:=16) (br:=br8a) hW3 (by decide) (by decide) (fun v hv=>by rw[←itoa_11];exact zcQ hv 11 (by decide) (by decide)) br8a_ok pn1 (.inl rfl)) ?_
 rintro _ w4 ⟨rfl,hE4⟩
 have hW4:=hW3.ext hE4
 refine rgo trivial ?_
 refine rq ?_;intro gd K hgd hK
 try simp only[go_sem]
 refine Fn.mono (zc5 hW4 [53,45,50] (by decide)) ?_
 rintro _ w5 ⟨rfl,hE5⟩
 rw[rf2]
 try simp only[go_sem]
 refine zdt (P:=Tryz.prog) (l:=[vi 0,vi 0,vi 0]) rfl (zdb _ _ _) rfl rfl ?_
 intro w6 hE6 hs6 hB6
 try simp only[go_sem]
 refine hK _ _ ?_;clear hK hgd;clear K;try clear gd
 have hW6:=(hW4.ext hE5).ext hE6
 repeat refine c_r ?_
 refine rc trivial (zcy (n:=1) (nd:=[49]) (f0:=8) (br:=br8b) hW6 (by decide) (by decide) (fun v hv=>by rw[←itoa_1];exact zcQ hv 1 (by decide) (by decide)) br8b_ok pn2 (.inr rfl)) ?_
 rintro _ w7 ⟨rfl,hE7⟩
 refine rgo trivial ?_
 have hE27:=(((hE3.trans hE4).trans hE5).trans hE6).trans hE7
 have c2:=zaK hE27 (sv_get (l:=[vi 1,vi 7,vi 3]) (j:=2) hB2 rfl)
 have g2':=zaK (((hE4.trans hE5).trans hE6).trans hE7) g2
 have g3:zag w7 (adr (some xa) 2)=some (vi 7):=g2'
 have e1:decide ((0:Int)+0+0=0)=true:=rfl
 have e2:decide ((3:Int)=3)=true:=rfl
 have e3:decide (((3:Nat):Int)=3)=true:=rfl
 have e4:decide ((7:Int)=7)=true:=rfl
 have e5:decide (([97,49,49,45,48,48,97,36,92,36]:Lab)=[97,49,49,45,48,48,97,36,92,36])=true:=by decide
 have e6:decide ((1:Int)=1)=true:=rfl
 have e7:decide ((2:Int)=2)=true:=rfl
 have t2:(2:Int).toNat=2:=rfl
 have z2:(0:Int)≤2:=by decide
 have l2:(2:Int)<((3:Nat):Int):=by decide
 have hl:([vi 1,vi 4,vi 7]:List Value).length=3:=rfl
 refine rgg [(6,38),(11,43),(16,48),(22,54),(26,58),(30,62)] (an9 c2 g3 e1 e2 e3 e4 e5 e6 (an7 e7 t2 z2 l2 hl (Nat.zero_add 2) Nat.mul_one)) ?_
 refine go trivial ?_
 refine rt0 Tryz.ntmps21 ?_
 exact⟨rfl,(hE12.trans hE27)⟩
theorem zcM:∀(k u:Nat),u<10 ^ (k+1)→(Lib.decDigits u).length≤k+1
 |0,u,h=>by
  rw[Lib.decDigits,dif_pos (by omega)];simp
 |k+1,u,h=>by
  rw[Lib.decDigits]
  by_cases h1:u<10
  ·rw[dif_pos h1];simp
  ·rw[dif_neg h1,List.length_append,List.length_singleton]
   have:=zcM k (u / 10) (by rw[Nat.pow_succ]at h;omega)
   omega
theorem zbg{br:Lab→Option (Lab×Int)}{nd:Lab}{f:Nat}{t:Lab}{x:Lab×Int}(hx:putN br nd f t=some x)(h0:x.2=0):∀s:Lab,(∀c∈s,c≠36∧c≠92)→putN br nd (s.length+f) (s++t)=some (s++x.1,0)
 | [],_=>by
  obtain⟨a,e⟩:=x
  simp only at h0
  subst h0
  simpa using hx
 |c::s,h=>by
  have ih:=zbg hx h0 s fun y hy=>h y (List.mem_cons_of_mem _ hy)
  obtain⟨h1,h2⟩:=h c (List.mem_cons_self ..)
  rw[List.length_cons,show s.length+1+f=(s.length+f)+1 by omega,List.cons_append]
  unfold putN
  have p1:∀b:UInt8,([36,b]:Lab).isPrefixOf (c::(s++t))=false:=fun b=>by
   simp[List.isPrefixOf,Ne.symm h1]
  have p2:∀b:UInt8,([92,b]:Lab).isPrefixOf (c::(s++t))=false:=fun b=>by
   simp[List.isPrefixOf,Ne.symm h2]
  rw[p1,p2,p1,if_neg (by decide),if_neg (by decide),if_neg (by decide),if_neg h1,ih]
  simp[preP]
theorem putN_one{br:Lab→Option (Lab×Int)}{nd:Lab}{f:Nat}{t:Lab}{x:Lab×Int}(hx:putN br nd f (46::t)=some x)(h0:x.2=0):putN br nd (f+1) (36::46::t)=some (nd++x.1,0):=by
 unfold putN
 rw[if_neg (by simp[List.isPrefixOf]),if_neg (by simp[List.isPrefixOf]),if_neg (by simp[List.isPrefixOf]),if_pos rfl,hx]
 simp[preP,h0]
theorem put1{br:Lab→Option (Lab×Int)}{nd s:Lab}(h:∀c∈s,c≠36∧c≠92):putN br nd s.length s=some (s,0):=by
 have:=zbg (br:=br) (nd:=nd) (f:=0) (t:=[]) (x:=([],0)) rfl rfl s h
 simpa using this
theorem put2{br:Lab→Option (Lab×Int)}{nd s:Lab}(h:∀c∈s,c≠36∧c≠92):putN br nd (s.length+(s.length+2)) (s++36::46::s)=some (s++(nd++(46::s)),0):=by
 have h1:=put1 (br:=br) (nd:=nd) (s:=46::s) (fun c hc=>by
  rcases List.mem_cons.1 hc with rfl|hc
  ·decide
  ·exact h c hc)
 have h2:=putN_one (x:=(46::s,0)) h1 rfl
 exact zbg h2 rfl s h
def br8c(nd:Lab)(i:Lab):Option (Lab×Int):=if i=[48,44,54,44,100] then some (List.replicate (6 - nd.length) 48++nd,0) else Option.none
theorem put3(nd:Lab):putN (br8c nd) nd 8 [36,123,48,44,54,44,100,125]=some (List.replicate (6 - nd.length) 48++nd,0):=by
 have e:cutB 125 ([48,44,54,44,100,125]:Lab)=([48,44,54,44,100],[],true):=by decide
 unfold putN
 rw[if_neg (by decide),if_neg (by decide),if_pos (by decide)]
 simp only[List.drop_succ_cons,List.drop_zero,e]
 simp[br8c,preP,putN]
theorem spl3:Spl [48,44,54,44,100] [[48],[54],[100]]:=⟨by kernel_rfl,by kernel_rfl⟩
theorem br8c_ok(n:Nat)(hn:n<65536)(i d:Lab)(e:Int)(h:br8c (Lib.decDigits n) i=some (d,e)):d.length≤100∧∀v,WX v→Fn Tryz.prog 81 #[vs i,vi n] v (fun u v'=>u= .tuple #[vs d,vi e]∧Ext v v'):=by
 have hl:=zcM 4 n (by omega)
 unfold br8c at h
 split at h
 ·rename_i hi
  injection h with h
  injection h with h1 h2
  subst hi h1 h2
  refine⟨by simp;omega,fun v hW=>Fn.mono (zbO (a:=[48]) (b:=[54]) (c:=[100]) (D:=Lib.decDigits n) (o:=0) (k:=10) (wd:=6) hW (by decide) spl3 (by decide+kernel) (by decide+kernel) (by decide) (by decide) (.inl ⟨rfl,rfl⟩) (fun _=>⟨by omega,by omega,by omega,fun w' hW'=>?_⟩)) fun u v' ⟨h1,h2⟩=>⟨by rw[h1];rfl,h2⟩⟩
  rw[Int.add_zero,←zca]
  exact zcS hW' n (by omega) (by omega)
 ·cases h
theorem zcR{w:World}(hW:WX w)(s:Lab)(n:Nat)(hn:n<65536):
  Fn Tryz.prog 7 #[vs s,.int .u16 n] w (fun v w'=>v= .bool true∧Ext w w'):=by
 refine enter Tryz.func7 Tryz.ntmps7 rfl rfl ?_
 refine go trivial ?_
 refine rc trivial (zdZ hW) ?_
 rintro _ w1 ⟨rfl,hE1⟩
 have hW1:=hW.ext hE1
 refine rgo trivial ?_
 by_cases hlen:(100:Int)<(s.length:Int)
 ·refine go (decide_eq_true hlen) ?_
  refine rt0 Tryz.ntmps7 ?_
  exact⟨rfl,hE1⟩
 refine go (decide_eq_false hlen) ?_
 refine W_for s.length (fun i σ v=>σ 0=vs s∧σ 1= .int .u16 n∧σ 5=vi i∧(∀x∈s.take i,x≠36∧x≠92)∧w1=v) ?_ ?_ ?_
 ·exact⟨vr0,vr0,vr0,fun x h=>absurd h (by simp),rfl⟩
 ·rintro i σ v hi p ⟨h0,h1,h5,hno,rfl⟩
  have hi0:(0:Int)≤(i:Int):=by omega
  have hi1:(i:Int)+1=((i+1:Nat):Int):=by push_cast;rfl
  refine go (an5 h0 h1 h5 p hi0) ?_
  by_cases c1:s[i]=36
  ·have d1:decide (((s[i]).toNat:Int)=36)=true:=decide_eq_true (by rw[c1];rfl)
   refine rgg [(4,28)] (an6 h0 h1 h5 p hi0 d1) ?_
   refine go trivial ?_
   refine rt0 Tryz.ntmps7 ?_
   exact⟨rfl,hE1⟩
  have d1:decide (((s[i]).toNat:Int)=36)=false:=decide_eq_false fun h=>c1 (UInt8.toNat_inj.1 (by have:(36:UInt8).toNat=36:=rfl;omega))
  by_cases c2:s[i]=92
  ·have d2:decide (((s[i]).toNat:Int)=92)=true:=decide_eq_true (by rw[c2];rfl)
   refine rgg [(4,28)] (an7 h0 h1 h5 p hi0 d1 d2) ?_
   refine go trivial ?_
   refine rt0 Tryz.ntmps7 ?_
   exact⟨rfl,hE1⟩
  have d2:decide (((s[i]).toNat:Int)=92)=false:=decide_eq_false fun h=>c2 (UInt8.toNat_inj.1 (by have:(92:UInt8).toNat=92:=rfl;omega))
  refine rgg [(4,28)] (an7 h0 h1 h5 p hi0 d1 d2) ?_
  refine go (an4 h0 h1 h5 hi1) ?_
  refine⟨rfl,(vq1 h0),(vq1 h1),vq0,?_,rfl⟩
  rw[zaA hi]
  intro x hx
  rcases List.mem_append.1 hx with hx|hx
  ·exact hno x hx
  ·rw[List.mem_singleton.1 hx];exact⟨c1,c2⟩
 rintro σ v p ⟨h0,h1,h5,hno,rfl⟩
 rw[List.take_length]at hno
 have ln:=zcM 4 n (by omega)
 obtain⟨D,hD⟩:∃D,Lib.decDigits n=D:=⟨_,rfl⟩
 have hI:∀v,WX v→Fn Tryz.prog 82 #[vi n] v (fun u v'=>u=vs D∧Ext v v'):=fun v hv=>by
  rw[←hD,←zca]
  exact zcQ hv n (by omega) (by omega)
 have hbr:=br8c_ok n hn
 rw[hD]at hbr ln
 refine go (an4 h0 h1 h5 p) ?_
 refine rc (an2 h0 h1) (zcy (br:=br8c D) hW1 (by omega) (by omega) hI hbr (put1 hno) (.inl rfl)) ?_
 rintro _ w2 ⟨rfl,hE2⟩
 have hW2:=hW1.ext hE2
 have l1:s.length+([36,46]:Lab).length≤9223372036854775807:=by simp;omega
 have l2:(s++ [36,46]).length+s.length≤9223372036854775807:=by simp;omega
 have pp:putN (br8c D) D (s.length+(s.length+2)) (s++ [36,46]++s)=some (s++D++ [46]++s,0):=by
  have:=put2 (br:=br8c D) (nd:=D) hno
  simpa using this
 refine rgo trivial ?_
 refine rc (an4 h0 h1 l1 l2) (zcy hW2 (by simp;omega) (by omega) hI hbr pp (.inl rfl)) ?_
 rintro _ w3 ⟨rfl,hE3⟩
 have hW3:=hW2.ext hE3
 refine rgo trivial ?_
 refine rc h1 (zcy hW3 (by decide) (by omega) hI hbr (put3 D) (.inl rfl)) ?_
 rintro _ w4 ⟨rfl,hE4⟩
 refine rgo trivial ?_
 refine rc h1 (zcP w4 n (by omega) (by omega)) ?_
 rintro _ w5 ⟨rfl,hE5⟩
 rw[hD]
 obtain⟨Z,hZ⟩:∃Z,List.replicate (6 - D.length) (48:UInt8)++D=Z:=⟨_,rfl⟩
 have zl:Z.length=6:=by rw[←hZ];simp;omega
 have zd:Z.drop (6 - D.length)=D:=by rw[←hZ,List.drop_left' (by simp)]
 rw[hZ]
 have l3:s.length+D.length≤9223372036854775807:=by omega
 have l4:(s++D).length+([46]:Lab).length≤9223372036854775807:=by simp;omega
 have l5:(s++D++ [46]).length+s.length≤9223372036854775807:=by simp;omega
 have q1:(6:Int) - (D.length:Int)=((6 - D.length:Nat):Int):=by omega
 have q2:(0:Int)≤((6 - D.length:Nat):Int):=by omega
 have q3:((6 - D.length:Nat):Int)≤(Z.length:Int):=by omega
 have q4:decide ((Z.length:Int)=6)=true:=decide_eq_true (by omega)
 have de:∀x:Lab,decide (x=x)=true:=fun x=>decide_eq_true rfl
 have d0:decide ((0:Int)+0+0=0)=true:=rfl
 refine rgo h1 ?_
 refine rgg [(6,66),(11,71),(21,81),(26,86)] (an9 h0 l3 l4 l5 q1 q2 q3 q4 (an3 de d0 zd)) ?_
 refine go trivial ?_
 refine rt0 Tryz.ntmps7 ?_
 exact⟨rfl,(((hE1.trans hE2).trans hE3).trans hE4).trans hE5⟩
end Go.Proofs.YtanmnkbccfcagaaGreatDoor
