/-
  Texts of a proof, joined: SS5rec, M4rec, SS6rec, D4, D6, D7, D8, Y0, K18, M5cd, E0.
  Conditions: none.
-/
import Derived.Test.YtahbdamijngmmaaGreatJRW04
import Derived.Test.YtahbdamijngmmaaGreatJRW02
import Derived.Test.YtahbdamijngmmaaGreatJRW03
import Derived.Test.YtahbdamijngmmaaGreatJRW01
set_option linter.unusedVariables false
set_option linter.unusedSimpArgs false
set_option linter.defProp false
set_option linter.unnecessarySimpa false
set_option maxHeartbeats 8000000
namespace Go.Proofs.YtahbdamijngmmaaGreat.S_rec
open Go Go.Proofs.YtahbdamijngmmaaGreat
set_option maxRecDepth 10000
section
variable {α : Type} {enc : α → List Value}
theorem zfe{w0 w:World}{b cap:Nat}{U:α→Prop}{cf:α→α→Int}{lt older:α→α→Prop}{g:FuncId}{cb:List Value}(hc:Cmp w0 enc U cf g cb)(ho:zdO cf lt older)(hb:w0.heap.size≤b)
  {D:List α} {N:Nat} (hN:D.length=N) (hU:∀x∈D,U x) (hOD:D.Pairwise older) (hD:Lies enc w b cap D) (hlen:N≤100000000000) (hE:Ext w0 w):
  Fn Tryz.prog 286 #[zbf b N cap,vi N,cmpV g cb] w (fun _ w'=>(∃Z,Z.Perm D∧Z.Pairwise lt∧Lies enc w' b cap Z)∧Keep (fun i=>i=b) w w'):=by
 unfold zbf cmpV
 refine enter Tryz.func286 Tryz.ntmps286 rfl rfl ?_
 repeat refine c_r ?_
 refine rg0 ?_
 repeat refine c_r ?_
 refine rg0 ?_
 repeat refine c_r ?_
 refine zam (fun m σ ds v=>ds=[]∧∃(P:List (List α)) (R:List α),R.length=m∧(∀L∈P,L.length=20)∧(∀L∈P,L.Pairwise lt)∧OldC older (P++ [R])∧R.Pairwise older∧(P.flatten++R).Perm D∧σ 6=vi 20∧σ 7=vi P.flatten.length∧σ 8=vi (P.flatten.length+20:Nat)∧σ 0= .slice (some ⟨b,0,Option.none⟩) N cap∧σ 1=vi N∧σ 2= .func (.func g) #[] cb.toArray∧
  Lies enc v b cap (P.flatten++R)∧Keep (fun i=>i=b) w v) D.length ?_ ?_
 ·refine⟨rfl,[],D,rfl,fun L h=>(by cases h),fun L h=>(by cases h),List.pairwise_singleton _ _,hOD,List.Perm.refl _,vq0,?_,?_,vq0,vq0,vq0,hD,Keep.refl _ _⟩
  ·simp only[go_sem];rfl
  ·simp only[go_sem];rfl
 rintro m σ ds v ⟨rfl,P,R,hm,hP20,hPs,hOC,hRo,hperm,h6,h7,h8,h0,h1,h2,hL,hK⟩
 have hE0:Ext w0 v:=Keep.to_ext hE rfl (fun i hi=>by omega) hK
 have hl:=hperm.length_eq
 rw[List.length_append,hN]at hl
 have hUR:∀x∈R,U x:=fun x hx=>hU x (hperm.mem_iff.1 (List.mem_append_right _ hx))
 repeat refine c_r ?_
 refine rg2 h8 h1 ?_
 repeat refine c_r ?_
 refine wc0 ?_ ?_
 ·intro hle
  simp only[decide_eq_true_eq]at hle
  have hR20:20≤R.length:=by omega
  obtain⟨X,hX⟩:∃X,R.take 20=X:=⟨_,rfl⟩
  obtain⟨R',hR'⟩:∃R',R.drop 20=R':=⟨_,rfl⟩
  have hXR:X++R'=R:=by rw[←hX,←hR'];exact List.take_append_drop _ _
  have hXl:X.length=20:=by rw[←hX];simp;omega
  rw[←hXR]at hRo hOC
  have hOC2:=hOC.split hRo
  rw[List.pairwise_append]at hRo
  repeat refine c_r ?_
  refine rq ?_;intro gd K hgd hK
  try simp (disch:=first|omega|assumption|rfl) only[go_sem,h0,h7,h8,h2]
  refine Fn.mono (za7 hc ho (D:=P.flatten++R) (A:=P.flatten) (X:=X) (B:=R') (p:=P.flatten.length) (q:=P.flatten.length+20) (N:=N) (by rw[←hXR,List.append_assoc]) (by rw[List.length_append];omega) rfl (by omega) (fun x hx=>hUR x (by rw[←hXR];exact List.mem_append_left _ hx)) hRo.1 hL (by omega) hE0 hb) ?_
  rintro _ w1 ⟨⟨Z,z1,z2,z3⟩,hK1⟩
  try simp only[go_sem]
  refine hK _ _ ?_;clear hK hgd;clear K;try clear gd
  have hzl:=z1.length_eq
  have hfl:(P++ [Z]).flatten.length=P.flatten.length+20:=by simp;omega
  repeat refine c_r ?_
  refine rg1 h8 ?_
  repeat refine c_r ?_
  refine rg2 h8 h6 ?_
  repeat refine c_r ?_
  refine⟨R'.length,by rw[←hR'];simp;omega,rfl,P++ [Z],R',rfl,fun L hL=>?_,fun L hL=>?_,?_,hRo.2.1,?_,(vq1 h6),(vq1 hfl),by simp only[go_sem,hfl];push_cast;rfl,(vq1 h0),(vq1 h1),(vq1 h2),?_,hK.trans hK1⟩
  ·rcases List.mem_append.1 hL with hL|hL
   ·exact hP20 L hL
   ·rw[List.mem_singleton.1 hL];omega
  ·rcases List.mem_append.1 hL with hL|hL
   ·exact hPs L hL
   ·rw[List.mem_singleton.1 hL];exact z2
  ·have:=hOC2.perm z1
   rw[List.append_assoc];exact this
  ·refine List.Perm.trans ?_ hperm
   rw[←hXR]
   have:(P++ [Z]).flatten++R'=P.flatten++(Z++R'):=by simp
   rw[this]
   exact List.Perm.append_left _ (List.Perm.append_right _ z1)
  ·have:(P++ [Z]).flatten++R'=P.flatten++Z++R':=by simp
   rw[this];exact z3
 intro hgt
 simp only[decide_eq_false_iff_not]at hgt
 have hR20:R.length<20:=by omega
 repeat refine c_r ?_
 refine rq ?_;intro gd K hgd hK
 try simp (disch:=first|omega|assumption|rfl) only[go_sem,h0,h7,h1,h2]
 refine Fn.mono (za7 hc ho (D:=P.flatten++R) (A:=P.flatten) (X:=R) (B:=[]) (p:=P.flatten.length) (q:=N) (N:=N) (by simp) (by rw[List.length_append];omega) rfl (by omega) hUR hRo hL (by omega) hE0 hb) ?_
 rintro _ w1 ⟨⟨Z,z1,z2,z3⟩,hK1⟩
 try simp only[go_sem]
 refine hK _ _ ?_;clear hK hgd;clear K;try clear gd
 have hE1:Ext w0 w1:=Keep.to_ext hE0 rfl (fun i hi=>by omega) hK1
 have hzl:=z1.length_eq
 repeat refine c_r ?_
 refine zam (fun m σ ds v=>ds=[]∧∃(s:Nat) (Ls:List (List α)),N - s=m∧0<s∧Rem s Ls∧(∀L∈Ls,L.Pairwise lt)∧OldC older Ls∧Ls.flatten.Perm D∧σ 6=vi s∧σ 0= .slice (some ⟨b,0,Option.none⟩) N cap∧σ 1=vi N∧σ 2= .func (.func g) #[] cb.toArray∧
  Lies enc v b cap Ls.flatten∧Keep (fun i=>i=b) w v) (N - 20) ?_ ?_
 ·refine⟨rfl,20,P++ [Z],rfl,by omega,zdV (by omega) hP20,fun L hL=>?_,hOC.perm z1,?_,by simp only[go_sem,h6];rfl,(vq1 h0),(vq1 h1),(vq1 h2),?_,hK.trans hK1⟩
  ·rcases List.mem_append.1 hL with hL|hL
   ·exact hPs L hL
   ·rw[List.mem_singleton.1 hL];exact z2
  ·refine List.Perm.trans ?_ hperm
   have:(P++ [Z]).flatten=P.flatten++Z:=by simp
   rw[this];exact List.Perm.append_left _ z1
  ·have:(P++ [Z]).flatten=P.flatten++Z++ []:=by simp
   rw[this];exact z3
 clear h6 h7 h8 h0 h1 h2 hL hOC hperm hl z3
 rintro m1 σ ds v1 ⟨rfl,s,Ls,hms,hs0,hrem,hsorted,hOC,hperm,h6,h0,h1,h2,hL,hK2⟩
 have hE2:Ext w0 v1:=Keep.to_ext hE rfl (fun i hi=>by omega) hK2
 have hl:=hperm.length_eq
 rw[hN]at hl
 repeat refine c_r ?_
 refine rg2 h6 h1 ?_
 repeat refine c_r ?_
 refine wc0 ?_ ?_
 ·intro hlt
  simp only[decide_eq_true_eq]at hlt
  have h2s:(2:Int)*s=((2*s:Nat):Int):=by push_cast;rfl
  repeat refine c_r ?_
  refine rg2 h6 h2s ?_
  repeat refine c_r ?_
  refine zam (fun m σ ds v=>ds=[]∧∃(Q Rs:List (List α)),Rs.flatten.length=m∧(∀L∈Q,L.length=2*s)∧Rem s Rs∧(∀L∈Q++Rs,L.Pairwise lt)∧OldC older (Q++Rs)∧(Q++Rs).flatten.Perm D∧σ 6=vi s∧σ 7=vi Q.flatten.length∧σ 8=vi (Q.flatten.length+2*s:Nat)∧σ 0= .slice (some ⟨b,0,Option.none⟩) N cap∧σ 1=vi N∧σ 2= .func (.func g) #[] cb.toArray∧
   Lies enc v b cap (Q++Rs).flatten∧Keep (fun i=>i=b) w v) N ?_ ?_
  ·refine⟨rfl,[],Ls,hl,fun L h=>(by cases h),hrem,hsorted,hOC,hperm,(vq1 h6),?_,?_,(vq1 h0),(vq1 h1),(vq1 h2),hL,hK2⟩
   ·simp only[go_sem];rfl
   ·simp only[go_sem];push_cast;simp
  clear h6 h0 h1 h2 hL hrem hsorted hOC hperm
  rintro m2 σ ds v2 ⟨rfl,Q,Rs,hm2,hQl,hrem,hsorted,hOC,hperm,h6,h7,h8,h0,h1,h2,hL,hK3⟩
  have hE3:Ext w0 v2:=Keep.to_ext hE rfl (fun i hi=>by omega) hK3
  have hl3:=hperm.length_eq
  rw[hN,List.flatten_append,List.length_append]at hl3
  have hUQ:∀L∈Q++Rs,∀x∈L,U x:=fun L hL x hx=>hU x (hperm.mem_iff.1 (List.mem_flatten.2 ⟨L,hL,hx⟩))
  repeat refine c_r ?_
  refine rg2 h8 h1 ?_
  repeat refine c_r ?_
  refine wc0 ?_ ?_
  ·intro hle
   simp only[decide_eq_true_eq]at hle
   obtain⟨L1,L2,Rs',rfl,l1,l2,hrem'⟩:=zkI hs0 hrem (by omega)
   have has:(Q.flatten.length:Int)+s=((Q.flatten.length+s:Nat):Int):=by push_cast;rfl
   have n1:L1≠ []:=List.length_pos_iff.1 (by omega)
   have n2:L2≠ []:=List.length_pos_iff.1 (by omega)
   have hold12:=(hOC.merge (List.Perm.refl (L1++L2))).2
   repeat refine c_r ?_
   refine rq ?_;intro gd K hgd hK
   try simp (disch:=first|omega|assumption|rfl) only[go_sem,h0,h7,h6,h8,h2,has]
   refine Fn.mono (zca hc ho hb (L1.length+L2.length) v2 (Q++L1::L2::Rs').flatten Q.flatten L1 L2 Rs'.flatten Q.flatten.length (Q.flatten.length+s) (Q.flatten.length+2*s) N (Nat.le_refl _) (by simp) (by rw[List.flatten_append,List.length_append];exact hl3) rfl (by omega) (by omega) n1 n2
    (hUQ L1 (by simp)) (hUQ L2 (by simp)) (hsorted L1 (by simp)) (hsorted L2 (by simp)) hold12 hL (by omega) hE3) ?_
   rintro _ w2 ⟨⟨Z,z1,z2,z3⟩,hK4⟩
   try simp only[go_sem]
   refine hK _ _ ?_;clear hK hgd;clear K;try clear gd
   have hzl2:=z1.length_eq
   rw[List.length_append]at hzl2
   have hfl:(Q++ [Z]).flatten.length=Q.flatten.length+2*s:=by simp;omega
   repeat refine c_r ?_
   refine rg1 h8 ?_
   repeat refine c_r ?_
   refine rg3 h8 h6 h2s ?_
   repeat refine c_r ?_
   have hfr:(L1::L2::Rs').flatten.length=s+(s+Rs'.flatten.length):=by simp only[List.flatten_cons,List.length_append];omega
   refine⟨Rs'.flatten.length,by omega,rfl,Q++ [Z],Rs',rfl,fun L hL=>?_,hrem',fun L hL=>?_,?_,?_,(vq1 h6),(vq1 hfl),by simp only[go_sem,hfl];push_cast;rfl,(vq1 h0),(vq1 h1),(vq1 h2),?_,hK3.trans hK4⟩
   ·rcases List.mem_append.1 hL with hL|hL
    ·exact hQl L hL
    ·rw[List.mem_singleton.1 hL];omega
   ·rcases List.mem_append.1 hL with hL|hL
    ·rcases List.mem_append.1 hL with hL|hL
     ·exact hsorted L (by simp[hL])
     ·rw[List.mem_singleton.1 hL];exact z2
    ·exact hsorted L (by simp[hL])
   ·have:=(hOC.merge z1).1
    rw[List.append_assoc];exact this
   ·refine List.Perm.trans ?_ hperm
    have e1:(Q++ [Z]++Rs').flatten=Q.flatten++(Z++Rs'.flatten):=by simp
    have e2:(Q++L1::L2::Rs').flatten=Q.flatten++((L1++L2)++Rs'.flatten):=by simp
    rw[e1,e2]
    exact List.Perm.append_left _ (List.Perm.append_right _ z1)
   ·have e1:(Q++ [Z]++Rs').flatten=Q.flatten++Z++Rs'.flatten:=by simp
    rw[e1];exact z3
  intro hgt2
  simp only[decide_eq_false_iff_not]at hgt2
  have has:(Q.flatten.length:Int)+s=((Q.flatten.length+s:Nat):Int):=by push_cast;rfl
  repeat refine c_r ?_
  refine rg3 h7 h6 has ?_
  repeat refine c_r ?_
  refine rg1 h1 ?_
  repeat refine c_r ?_
  refine zay (Q:=fun e σ' ds' v'=>e= .normal∧ds'=[]∧σ' 6=vi s∧σ' 0= .slice (some ⟨b,0,Option.none⟩) N cap∧σ' 1=vi N∧σ' 2= .func (.func g) #[] cb.toArray∧
   ∃Z,Z.Perm Rs.flatten∧Z.Pairwise lt∧Lies enc v' b cap (Q++ [Z]).flatten∧Keep (fun i=>i=b) w v') ?_ ?_
  ·refine wc0 ?_ ?_
   ·intro hlt2
    simp only[decide_eq_true_eq]at hlt2
    obtain⟨L1,L2,rfl,l1,n2⟩:=zkJ hrem (by omega) (by omega)
    have n1:L1≠ []:=List.length_pos_iff.1 (by omega)
    have hold12:=(hOC.merge (List.Perm.refl (L1++L2))).2
    have hfr:[L1,L2].flatten.length=s+L2.length:=by simp;omega
    repeat refine c_r ?_
    refine rq ?_;intro gd K hgd hK
    try simp (disch:=first|omega|assumption|rfl) only[go_sem,h0,h7,h1,h2]
    refine Fn.mono (zca hc ho hb (L1.length+L2.length) v2 (Q++ [L1,L2]).flatten Q.flatten L1 L2 [] Q.flatten.length (Q.flatten.length+s) N N (Nat.le_refl _) (by simp) (by rw[List.flatten_append,List.length_append];exact hl3) rfl (by omega) (by omega) n1 n2
     (hUQ L1 (by simp)) (hUQ L2 (by simp)) (hsorted L1 (by simp)) (hsorted L2 (by simp)) hold12 hL (by omega) hE3) ?_
    rintro _ w2 ⟨⟨Z,z1,z2,z3⟩,hK4⟩
    try simp only[go_sem]
    refine hK _ _ ?_;clear hK hgd;clear K;try clear gd
    refine⟨rfl,rfl,(vq1 h6),(vq1 h0),(vq1 h1),(vq1 h2),Z,by simpa using z1,z2,?_,hK3.trans hK4⟩
    have e1:(Q++ [Z]).flatten=Q.flatten++Z++ []:=by simp
    rw[e1];exact z3
   ·intro hge2
    simp only[decide_eq_false_iff_not]at hge2
    repeat refine c_r ?_
    refine⟨rfl,rfl,(vq1 h6),(vq1 h0),(vq1 h1),(vq1 h2),Rs.flatten,List.Perm.refl _,zdW hrem (fun L hL=>hsorted L (by simp[hL])) (by omega),?_,hK3⟩
    have e1:(Q++ [Rs.flatten]).flatten=(Q++Rs).flatten:=by simp
    rw[e1];exact hL
  clear h6 h7 h8 h0 h1 h2 hL
  rintro _ σ3 _ v3 ⟨rfl,rfl,h6,h0,h1,h2,Z,zp,zs,hL,hK5⟩
  have hzl3:=zp.length_eq
  have hs2:(s:Int)*2=((2*s:Nat):Int):=by push_cast;omega
  repeat refine c_r ?_
  refine rg2 h6 hs2 ?_
  repeat refine c_r ?_
  refine⟨N - 2*s,by omega,rfl,2*s,Q++ [Z],rfl,by omega,zdV (by omega) hQl,fun L hL=>?_,hOC.join.perm zp,?_,vq0,(vq1 h0),(vq1 h1),(vq1 h2),hL,hK5⟩
  ·rcases List.mem_append.1 hL with hL|hL
   ·exact hsorted L (by simp[hL])
   ·rw[List.mem_singleton.1 hL];exact zs
  ·refine List.Perm.trans ?_ hperm
   have e1:(Q++ [Z]).flatten=Q.flatten++Z:=by simp
   rw[e1,List.flatten_append]
   exact List.Perm.append_left _ zp
 intro hge
 simp only[decide_eq_false_iff_not]at hge
 repeat refine c_r ?_
 exact zar (by simp) rfl ⟨⟨Ls.flatten,hperm,zdW hrem hsorted (by omega),hL⟩,hK2⟩
theorem zcO{w0 w:World}{b cap:Nat}{U:α→Prop}{cf:α→α→Int}{lt older:α→α→Prop}{g:FuncId}{cb:List Value}(hc:Cmp w0 enc U cf g cb)(ho:zdO cf lt older)(hb:w0.heap.size≤b)
  {D:List α} {N:Nat} (hN:D.length=N) (hU:∀x∈D,U x) (hOD:D.Pairwise older) (hD:Lies enc w b cap D) (hlen:N≤100000000000) (hE:Ext w0 w):
  Fn Tryz.prog 261 #[zbf b N cap,cmpV g cb] w (fun _ w'=>(∃Z,Z.Perm D∧Z.Pairwise lt∧Lies enc w' b cap Z)∧Keep (fun i=>i=b) w w'):=by
 have h:=zfe (w:=w) hc ho hb hN hU hOD hD hlen hE
 unfold zbf at h ⊢
 refine enter Tryz.func261 Tryz.ntmps261 rfl rfl ?_
 repeat refine c_r ?_
 refine rq ?_;intro gd K hgd hK
 try simp only[go_sem]
 refine Fn.mono h ?_
 rintro _ w1 hr
 try simp only[go_sem]
 refine hK _ _ ?_;clear hK hgd;clear K;try clear gd
 repeat refine c_r ?_
 exact zar (by simp) rfl hr
end
theorem Clip_ok{w:World}{v:Value}{L:List (List Value)}(hr:RowK 7 w v L):Fn Tryz.prog 262 #[v] w (fun u w'=>RowK 7 w' u L∧w'=w):=by
 obtain⟨a,c,rfl,hc,hl⟩:=hr
 refine enter Tryz.func262 Tryz.ntmps262 rfl rfl ?_
 repeat refine c_r ?_
 refine rg0 ?_
 repeat refine c_r ?_
 refine rq ?_;intro gd K hgd hK
 try simp only[go_sem]
 have hcl:slD Tryz.prog (some (TypeDesc.slice 201)) (Value.slice a L.length c) Option.none (some (Value.int IntKind.i64 ↑L.length)) (some (Value.int IntKind.i64 ↑L.length))=some (.slice a L.length L.length):=zdU hc (by rfl)
 rw[hcl]
 try simp only[go_sem]
 refine hK _ _ ?_;clear hK hgd;clear K;try clear gd
 repeat refine c_r ?_
 refine rt0 Tryz.ntmps262 ?_
 exact⟨⟨a,L.length,rfl,Nat.le_refl _,hl⟩,rfl⟩
theorem Clone_ok{w:World}{v:Value}{L:List (List Value)}(hr:RowK 7 w v L)(hk:∀x∈L,x.length=7)(h1:∀x∈L,∀q∈x,one q=true)(hlen:L.length≤10000000000):
  Fn Tryz.prog 260 #[v] w (fun u w'=>OwnK 7 w.heap.size w' 201 u L∧Ext w w'):=by
 have hr':=hr
 obtain⟨a,c,rfl,hc,hl⟩:=hr
 refine enter Tryz.func260 Tryz.ntmps260 rfl rfl ?_
 repeat refine c_r ?_
 refine rg0 ?_
 repeat refine c_r ?_
 refine rq ?_;intro gd K hgd hK
 try simp only[go_sem]
 refine zgX (by rfl) (by rfl) (by rfl) ?_
 try simp only[go_sem]
 refine hK _ _ ?_;clear hK hgd;clear K;try clear gd
 repeat refine c_r ?_
 cases a with
 |none=>
  have:L=[]:=by
   cases L with
   |nil=>rfl
   |cons x L=>have:=hl 0 (by simp);simp[zas,adr]at this
  subst this
  refine wc0 ?_ ?_
  ·intro _
   repeat refine c_r ?_
   refine rg0 ?_
   repeat refine c_r ?_
   refine rt0 Tryz.ntmps260 ?_
   exact⟨OwnK.nil _ _ _ _,Keep.refl _ _⟩
  ·intro h;cases h
 |some a=>
  refine wc0 ?_ ?_
  ·intro h;cases h
  intro _
  repeat refine c_r ?_
  refine rq ?_;intro gd K hgd hK
  try simp only[go_sem]
  refine ziN (k:=7) (by rfl) (by rfl) (by rfl) (by rfl) ?_
  intro w1 hE1 hs1 ho1
  try simp only[go_sem]
  refine zgF (k:=7) (B:=w.heap.size) ho1 (hr'.ext hE1) (by rfl) (by rfl) (by rfl) (by rfl) (by rfl) (by rfl) (by decide) (by rfl) (by rfl) hk h1 (by simpa using by omega) (by decide) (by omega) ?_
  intro v' w2 ho2 hE2 _ _ _
  try simp only[go_sem]
  refine hK _ _ ?_;clear hK hgd;clear K;try clear gd
  repeat refine c_r ?_
  refine rt0 Tryz.ntmps260 ?_
  exact⟨by simpa using ho2,hE2 w hE1 (Nat.le_refl _)⟩
theorem zbM(w:World)(cmp:Value):Fn Tryz.prog 299 #[.slice Option.none 0 0,vi 0,vi 0,cmp] w (fun _ w'=>w'=w):=by
 refine enter Tryz.func299 Tryz.ntmps299 rfl rfl ?_
 repeat (first|refine c_r ?_|refine rg0 ?_)
 refine zam (fun m σ ds v=>ds=[]∧v=w∧σ 8=vi 1∧σ 2=vi 0) 0 ?_ ?_
 ·exact⟨rfl,rfl,by simp only[go_sem];rfl,vq0⟩
 ·rintro m σ ds v ⟨rfl,rfl,h8,h2⟩
  repeat refine c_r ?_
  refine rg2 h8 h2 ?_
  repeat refine c_r ?_
  refine wc0 ?_ ?_
  ·intro h;exact absurd h (by decide)
  ·intro _
   repeat refine c_r ?_
   exact zar (by simp) rfl rfl
theorem zel(w:World)(cmp:Value):Fn Tryz.prog 286 #[.slice Option.none 0 0,vi 0,cmp] w (fun _ w'=>w'=w):=by
 refine enter Tryz.func286 Tryz.ntmps286 rfl rfl ?_
 repeat refine c_r ?_
 refine rg0 ?_
 repeat refine c_r ?_
 refine rg0 ?_
 repeat refine c_r ?_
 refine zam (fun m σ ds v=>ds=[]∧v=w∧σ 6=vi 20∧σ 7=vi 0∧σ 8=vi 20∧σ 0= .slice Option.none 0 0∧σ 1=vi 0∧σ 2=cmp) 0 ?_ ?_
 ·exact⟨rfl,rfl,vq0,vq0,vq0,vq0,vq0,vq0⟩
 ·rintro m σ ds v ⟨rfl,rfl,h6,h7,h8,h0,h1,h2⟩
  repeat refine c_r ?_
  refine rg2 h8 h1 ?_
  repeat refine c_r ?_
  refine wc0 ?_ ?_
  ·intro h;exact absurd h (by decide)
  intro _
  repeat refine c_r ?_
  refine rq ?_;intro gd K hgd hK
  try simp (disch:=first|omega|assumption|rfl) only[go_sem,h0,h7,h1,h2]
  refine Fn.mono (zbM v cmp) ?_
  rintro _ w1 hw1
  subst hw1
  try simp only[go_sem]
  refine hK _ _ ?_;clear hK hgd;clear K;try clear gd
  repeat refine c_r ?_
  refine zam (fun m σ ds v=>ds=[]∧v=w1∧σ 6=vi 20∧σ 1=vi 0) 0 ?_ ?_
  ·exact⟨rfl,rfl,(vq1 h6),(vq1 h1)⟩
  ·rintro m3 σ3 ds3 v3 ⟨rfl,rfl,g6,g1⟩
   repeat refine c_r ?_
   refine rg2 g6 g1 ?_
   repeat refine c_r ?_
   refine wc0 ?_ ?_
   ·intro h;exact absurd h (by decide)
   ·intro _
    repeat refine c_r ?_
    exact zar (by simp) rfl rfl
theorem zcr(w:World)(cmp:Value):Fn Tryz.prog 261 #[.slice Option.none 0 0,cmp] w (fun _ w'=>w'=w):=by
 refine enter Tryz.func261 Tryz.ntmps261 rfl rfl ?_
 repeat refine c_r ?_
 refine rq ?_;intro gd K hgd hK
 try simp only[go_sem]
 refine Fn.mono (zel w cmp) ?_
 rintro _ w1 hr
 try simp only[go_sem]
 refine hK _ _ ?_;clear hK hgd;clear K;try clear gd
 repeat refine c_r ?_
 exact zar (by simp) rfl hr
section
variable {α : Type} {enc : α → List Value}
theorem SortOwn_ok{w0 w:World}{B:Nat}{v:Value}{U:α→Prop}{cf:α→α→Int}{lt older:α→α→Prop}{g:FuncId}{cb:List Value}(hc:Cmp w0 enc U cf g cb)(ho:zdO cf lt older)(hB:w0.heap.size≤B)
  {D:List α} (hU:∀x∈D,U x) (hOD:D.Pairwise older) (hD:OwnK 7 B w 201 v (D.map enc)) (hlen:D.length≤100000000000) (hE:Ext w0 w):
  Fn Tryz.prog 261 #[v,cmpV g cb] w (fun _ w'=>∃Z:List α,Z.Perm D∧Z.Pairwise lt∧OwnK 7 B w' 201 v (Z.map enc)∧Keep (fun i=>some i=v.ownBlock) w w'):=by
 rcases hD.cases with ⟨rfl,h0⟩| ⟨b,cap,rfl,hb,hc2,hm,hSD⟩
 ·have:D=[]:=List.map_eq_nil_iff.1 h0
  subst this
  refine Fn.mono (zcr w _) ?_
  rintro _ w1 rfl
  exact⟨[],List.Perm.refl _,List.Pairwise.nil,OwnK.nil _ _ _ _,Keep.refl _ _⟩
 ·rw[List.length_map]at hc2 ⊢
  refine Fn.mono (zcO (b:=b) (cap:=cap) (lt:=lt) hc ho (by omega) rfl hU hOD hSD hlen hE) ?_
  rintro _ w1 ⟨⟨Z,hp,hs,hL⟩,hK⟩
  refine⟨Z,hp,hs,?_,?_⟩
  ·have:=OwnK.of_sd (B:=B) hL hb (by rw[List.length_map,hp.length_eq];exact hc2) hm
   rw[List.length_map,hp.length_eq]at this
   exact this
  ·have:(fun i=>some i=(Value.slice (some ⟨b,0,Option.none⟩) D.length cap).ownBlock)=(fun i=>i=b):=by
    funext i;simp[Value.ownBlock]
   rw[this];exact hK
end
end Go.Proofs.YtahbdamijngmmaaGreat.S_rec
namespace Go.Proofs.YtahbdamijngmmaaGreat
open Go
set_option maxRecDepth 10000
theorem RecAt.len{w:World}{cs:List Value}{r:RecL}(h:RecAt w cs r):cs.length=7:=by
 obtain⟨ow,ds,rfl,_,⟨nm,nu,tx,rw',rfl,_⟩⟩:=h.ex
 rfl
theorem RecAt.ones{w:World}{cs:List Value}{r:RecL}(h:RecAt w cs r):∀q∈cs,one q=true:=by
 obtain⟨ow,ds,rfl,⟨o1,o2,rfl,_⟩,⟨nm,nu,tx,rw',rfl,⟨_,⟨o3,o4,rfl,_⟩,_⟩,⟨o5,o6,rfl,_⟩,⟨o7,o8,rfl,_⟩,⟨o9,o10,rfl,_⟩⟩⟩:=h.ex
 intro q hq
 simp at hq
 rcases hq with rfl|rfl|rfl|rfl|rfl|rfl|rfl<;>rfl
abbrev RI:=(List Value×RecL)×Nat
def encR(x:RI):List Value:=x.1.1
def zhG(a b:RI):Prop:=a.2<b.2
def ltR(a b:RI):Prop:=zaC a.1.2 b.1.2<0∨(zaC a.1.2 b.1.2=0∧a.2<b.2)
def cfR(a b:RI):Int:=zaC a.1.2 b.1.2
def UR(w:World)(x:RI):Prop:=RecAt w x.1.1 x.1.2∧zbs x.1.2
theorem cmp_R{w0 w:World}(hE0:Ext w0 w):S_rec.Cmp w encR (UR w0) cfR 215 []:=
 ⟨by decide,fun A x y hE hx hy=>zef A _ _ _ _ (hx.1.ext (hE0.trans hE)) (hy.1.ext (hE0.trans hE)) hx.2 hy.2⟩
theorem older_R:zdO cfR ltR zhG:=by
 refine⟨fun {a b c} h1 h2=>?_,fun {x y} ho h=> .inl h,fun {x y} ho h=>?_⟩
 ·rcases h1 with h1| ⟨h1,g1⟩<;>rcases h2 with h2| ⟨h2,g2⟩
  ·exact .inl (cpr_R.trans h1 h2)
  ·exact .inl (by rw[←cpr_R.eqr h2];exact h1)
  ·exact .inl (by rw[cpr_R.eql h1];exact h2)
  ·exact .inr ⟨by rw[cpr_R.eql h1];exact h2,by omega⟩
 ·have:=cpr_R.neg x.1.2 y.1.2
  have h':¬zaC y.1.2 x.1.2<0:=h
  by_cases h0:zaC x.1.2 y.1.2=0
  ·exact .inr ⟨h0,ho⟩
  ·exact .inl (by omega)
def zeroR:List Value:=[.slice Option.none 0 0,v32 0,vi 0,.slice Option.none 0 0,.slice Option.none 0 0,.slice Option.none 0 0,.slice Option.none 0 0]
theorem zkA(w:World):SD 7 (w.alloc (.cells #[.slice Option.none 0 0,v32 0,vi 0,.slice Option.none 0 0,.slice Option.none 0 0,.slice Option.none 0 0,.slice Option.none 0 0] 201 (0,0))) w.heap.size 201 1 [zeroR]:=
 ⟨⟨_,[],zao _ _,rfl,rfl⟩,fun x h=>(by rw[List.mem_singleton.1 h];rfl),fun x h v hv=>(by rw[List.mem_singleton.1 h]at hv;simp[zeroR]at hv;rcases hv with rfl|rfl|rfl|rfl<;>rfl)⟩
def zeK(O:List RecL)(r:RecL):Bool:=match O.getLast? with
 |some x=>decide (zaC x r=0)
 |Option.none=>false
theorem zi6{α:Type}{cf:α→α→Int}{jn:α→α→α}(hc:Cpr cf){O':List α}{z r:α}(hs:(O'++ [z]).Pairwise (fun a b=>cf a b<0))(hle:¬0<cf z r):
  putC cf jn r (O'++ [z])=if cf z r=0 then O'++ [jn z r] else O'++ [z,r]:=by
 refine zhv (fun y hy=>?_) hle
 have h1:=(List.pairwise_append.1 hs).2.2 y hy z (by simp)
 by_cases h0:cf z r=0
 ·rw[←hc.eqr h0];exact h1
 ·exact hc.trans h1 (by omega)
theorem recs_set{w:World}{LO:List (List Value)}{O':List RecL}{z m:RecL}{X:List Value}{j:Nat}(hj:O'.length=j)(hl:LO.length=j+1)
  (h:∀q (h:q<LO.length) (h':q<(O'++ [z]).length),RecAt w LO[q] (O'++ [z])[q]) (hX:RecAt w X m):
  ∀q (h:q<(LO.set j X).length) (h':q<(O'++ [m]).length),RecAt w (LO.set j X)[q] (O'++ [m])[q]:=by
 intro q h1 h2
 by_cases hq:q=j
 ·subst hq
  have e1:(LO.set q X)[q]=X:=by simp
  have e2:(O'++ [m])[q]=m:=by simp[←hj]
  rw[e1,e2];exact hX
 ·have hq2:q<O'.length:=by simp at h2;omega
  have e1:(LO.set j X)[q]=LO[q]'(by omega):=List.getElem_set_ne (by omega) _
  have e2:(O'++ [m])[q]=O'[q]:=List.getElem_append_left hq2
  have e3:(O'++ [z])[q]'(by simp;omega)=O'[q]:=List.getElem_append_left hq2
  rw[e1,e2,←e3];exact h q (by omega) (by simp;omega)
theorem zkK{w:World}{LO:List (List Value)}{O:List RecL}{m:RecL}{X:List Value}(hl:LO.length=O.length)
  (h:∀q (h:q<LO.length) (h':q<O.length),RecAt w LO[q] O[q]) (hX:RecAt w X m):
  ∀q (h:q<(LO++ [X]).length) (h':q<(O++ [m]).length),RecAt w (LO++ [X])[q] (O++ [m])[q]:=by
 intro q h1 h2
 by_cases hq:q<LO.length
 ·rw[List.getElem_append_left hq,List.getElem_append_left (by omega)];exact h q hq (by omega)
 ·have hq1:q=LO.length:=by simp at h1;omega
  have e1:(LO++ [X])[q]=X:=by simp[hq1]
  have e2:(O++ [m])[q]=m:=by simp[hq1,hl]
  rw[e1,e2];exact hX
theorem few_ok(w0 w:World)(hE0:Ext w0 w){v:Value}{R:List RecL}(hR:Rows 7 (RecAt w0) w v R)(hok:∀r∈R,zbs r)(hlen:R.length≤1000000000):
  Fn Tryz.prog 214 #[v,.func (.func 215) #[] #[],.func (.func 216) #[] #[]] w (fun u w'=>Rows 7 (RecAt w0) w' u (za3 R)∧Ext w w'∧BlkB w.heap.size w' u):=by
 obtain⟨L,hrow,hl,hat⟩:=hR
 have hk:∀x∈L,x.length=7:=fun x hx=>by
  obtain⟨i,hi,rfl⟩:=List.getElem_of_mem hx
  exact(hat i hi (by omega)).len
 have h1:∀x∈L,∀q∈x,one q=true:=fun x hx=>by
  obtain⟨i,hi,rfl⟩:=List.getElem_of_mem hx
  exact(hat i hi (by omega)).ones
 obtain⟨D,hD⟩:∃D:List RI,D=(L.zip R).zipIdx:=⟨_,rfl⟩
 have hDe:D.map encR=L:=by
  rw[hD]
  show(List.zipIdx (L.zip R)).map (Prod.fst∘Prod.fst)=L
  rw[←List.map_map,List.zipIdx_map_fst,List.map_fst_zip (by omega)]
 have hDr:D.map (fun x=>x.1.2)=R:=by
  rw[hD]
  show(List.zipIdx (L.zip R)).map (Prod.snd∘Prod.fst)=R
  rw[←List.map_map,List.zipIdx_map_fst,List.map_snd_zip (by omega)]
 have hDl:D.length=R.length:=by rw[←hDr,List.length_map]
 have hDo:D.Pairwise zhG:=by
  rw[hD,List.pairwise_iff_getElem]
  intro i j hi hj hij
  simp[zhG,hij]
 have hDU:∀x∈D,UR w0 x:=fun x hx=>by
  rw[hD]at hx
  obtain⟨i,hi,rfl⟩:=List.getElem_of_mem hx
  have hi':i<R.length:=by simp at hi;omega
  have hi2:i<L.length:=by omega
  simp only[List.getElem_zipIdx,List.getElem_zip,UR]
  exact⟨hat i hi2 hi',hok _ (List.getElem_mem hi')⟩
 refine enter Tryz.func214 Tryz.ntmps214 rfl rfl ?_
 repeat refine c_r ?_
 refine rg0 ?_
 repeat refine c_r ?_
 refine rq ?_;intro gd K hgd hK
 try simp only[go_sem]
 refine Fn.mono (S_rec.Clone_ok hrow hk h1 (by omega)) ?_
 rintro vs1 w1 ⟨ho1,hE1⟩
 try simp only[go_sem]
 refine hK _ _ ?_;clear hK hgd;clear K;try clear gd
 repeat refine c_r ?_
 refine rq ?_;intro gd K hgd hK
 try simp only[go_sem]
 rw[←hDe]at ho1
 refine Fn.mono (S_rec.SortOwn_ok (w0:=w) (cb:=[]) (cmp_R hE0) older_R (Nat.le_refl _) hDU hDo ho1 (by omega) hE1) ?_
 rintro _ w2 ⟨Z,hp,hs,ho2,hK2⟩
 try simp only[go_sem]
 refine hK _ _ ?_;clear hK hgd;clear K;try clear gd
 repeat refine c_r ?_
 have hE2:Ext w w2:=Keep.to_ext hE1 rfl (fun i hi=>by have:=(ho1.ge hi).1;omega) hK2
 have hE02:=hE0.trans hE2
 have hUZ:∀x∈Z,UR w0 x:=fun x hx=>hDU x (hp.mem_iff.1 hx)
 have hZl:=hp.length_eq
 obtain⟨aS,cS,rfl,hcs,hget⟩:=ho2.rowK
 refine rg0 ?_
 repeat refine c_r ?_
 refine rg0 ?_
 repeat refine c_r ?_
 rw[List.length_map]at hcs
 simp only[List.length_map]
 refine zam (fun m σ ds v=>ds=[]∧∃(i:Nat) (vO:Value) (LO:List (List Value)) (O:List RecL),i+m=Z.length∧σ 18=vi i∧σ 17=vi Z.length∧σ 16= .slice aS Z.length cS∧σ 7=vO∧σ 1= .func (.func 215) #[] #[]∧σ 2= .func (.func 216) #[] #[]∧
  OwnK 7 w2.heap.size v 201 vO LO∧LO.length=O.length∧(∀j (h:j<LO.length) (h':j<O.length),RecAt w0 LO[j] O[j])∧(∀r∈O,zbs r)∧O.length≤i∧O=zci zaC minT (fun x:RI=>x.1.2) (Z.take i) []∧Ext w2 v∧O.Pairwise (fun a b=>zaC a b<0)∧(∀o∈O,∀z∈Z.drop i,¬0<zaC o z.1.2)) Z.length ?_ ?_
 ·refine⟨rfl,0,.slice Option.none 0 0,[],[],by omega,vr0,vq0,vq0,vq0,vq0,vq0,OwnK.nil _ _ _ _,rfl,fun j h=>absurd h (by simp),fun r h=>absurd h (by simp),by simp,rfl,Keep.refl _ _,List.Pairwise.nil,fun o h=>absurd h (by simp)⟩
 rintro m σ ds v ⟨rfl,i,vO,LO,O,him,h18,h17,h16,h7,hs1,hs2,hO,hOl,hOat,hOok,hOi,hOf,hE3,hOs,hOle⟩
 repeat refine c_r ?_
 refine rg2 h18 h17 ?_
 repeat refine c_r ?_
 refine wc0 ?_ ?_
 ·intro hlt
  simp only[decide_eq_true_eq]at hlt
  have hiZ:i<Z.length:=by omega
  have hgi:=zad hE3 (hget i (by simpa using hiZ))
  have hi0:(0:Int)≤(i:Int):=by omega
  have hi1:(i:Int)<(Z.length:Int):=by omega
  obtain⟨xS,rfl⟩:=Option.isSome_iff_exists.1 (zaq hgi)
  obtain⟨r,hr⟩:∃r,Z[i]=r:=⟨_,rfl⟩
  have hUr:UR w0 r:=hr▸hUZ _ (List.getElem_mem hiZ)
  have hgr:zas v (adr (some xS) (i*7)) 7=some r.1.1:=by rw[hgi,List.getElem_map,hr];rfl
  repeat refine c_r ?_
  refine rq ?_;intro gd K hgd hK
  try simp (disch:=first|omega|assumption|rfl) only[go_sem,h18,h16,hi0,hi1,hgr]
  refine SD.set (P:=Tryz.prog) (t:=201) (zkA v) (j:=0) (by simp) hUr.1.len hUr.1.ones rfl rfl ?_
  intro v1 hvs1 hL1 hk1
  have hX1:=Ext.alloc v (.cells #[.slice Option.none 0 0,v32 0,vi 0,.slice Option.none 0 0,.slice Option.none 0 0,.slice Option.none 0 0,.slice Option.none 0 0] 201 (0,0))
  have hEv:Ext v v1:=Keep.to_ext hX1 rfl (fun i hi=>by omega) hk1
  have hvsz:v1.heap.size=v.heap.size+1:=by rw[hvs1];exact zai _ _
  clear hk1 hX1 hvs1
  try simp only[go_sem]
  refine hK _ _ ?_;clear hK hgd;clear K;try clear gd
  have hE4:=hE3.trans hEv
  have hO1:=hO.ext hEv
  have hg9:=hL1.get (j:=0) (by simp)
  have hsO:=hO.rowK
  obtain⟨aO,cO,hvO,hcO,hgO⟩:=hO1.rowK
  rw[hOl]at hvO
  repeat refine c_r ?_
  refine rg2 h7 hvO ?_
  repeat refine c_r ?_
  refine zay (Q:=fun e σ' ds' v'=>e= .normal∧ds'=[]∧σ' 36= .bool (zeK O r.1.2)∧σ' 18=vi i∧σ' 17=vi Z.length∧σ' 16= .slice (some xS) Z.length cS∧σ' 7= .slice aO O.length cO∧σ' 1= .func (.func 215) #[] #[]∧σ' 2= .func (.func 216) #[] #[]∧
   σ' 9= .pointer (some ⟨v.heap.size,0,Option.none⟩)∧σ' 10=vi O.length∧Ext v1 v') ?_ ?_
  ·rcases List.eq_nil_or_concat O with hO0| ⟨O',z,hO0⟩
   ·have hn:¬((0:Int)<(O.length:Int)):=by rw[hO0];simp
    have hal:zeK O r.1.2=false:=by rw[hO0];rfl
    refine zaJ (fun _=>false) [(0,true),(1,true),(2,true),(3,true),(4,true),(5,true),(6,true),(7,true),(8,true),(9,true),(10,false),(11,true),(12,true)] NoS mixed (by kernel_rfl) ?_;intro gd K x hgd hx hxe hK;clear hxe
    have hg2:∀n σ b,zav gd n σ (some (2,b))=zal (ev n σ (.tmp 26)) b:=(fun n σ b=>by rw[zac,show gd 2=some 26 from(by rw[hgd];rfl)];rfl)
    simp (disch:=first|omega|assumption|rfl) only[go_sem,h18,h17,h16,h7,hvO,hs1,hs2,decide_eq_false hn,↓hg2]
    refine hK _ _ ?_;clear hK hgd;clear K;try clear gd
    exact⟨rfl,rfl,by rw[hal];simp only[go_sem],(vq1 h18),(vq1 h17),(vq1 h16),(vq2 h7 hvO),(vq1 hs1),(vq1 hs2),vq0,vq0,hx⟩
   ·rw[List.concat_eq_append]at hO0
    obtain⟨j,hj⟩:∃j,O'.length=j:=⟨_,rfl⟩
    have hOj:O.length=j+1:=by rw[hO0];simp[hj]
    have hn:decide ((0:Int)<((j+1:Nat):Int))=true:=decide_eq_true (by omega)
    have hs:((j+1:Nat):Int) - 1=(j:Int):=by omega
    have hj0:(0:Int)≤(j:Int):=by omega
    have hj1:(j:Int)<((j+1:Nat):Int):=by omega
    have hal:zeK O r.1.2=decide (zaC z r.1.2=0):=by unfold zeK;rw[hO0];simp
    have hgj:=hgO j (by omega)
    have hRj:=hOat j (by omega) (by omega)
    have hxj:O[j]'(by omega)=z:=by simp only[hO0,←hj];simp
    rw[hxj]at hRj
    have hokx:zbs z:=hOok z (by rw[hO0];simp)
    obtain⟨xO,rfl⟩:=Option.isSome_iff_exists.1 (zaq hgj)
    obtain⟨cx,hcx⟩:∃cx,LO[j]'(by omega)=cx:=⟨_,rfl⟩
    rw[hcx]at hgj hRj
    rw[hOj]at hvO ⊢
    refine zaJ (fun _=>false) [(0,true),(1,true),(2,true),(3,true),(4,true),(5,true),(6,true),(7,true),(8,true),(9,true),(10,false),(11,true),(12,true)] NoS mixed (by kernel_rfl) ?_;intro gd K x hgd hx hxe hK;clear hxe
    have hg2:∀n σ b,zav gd n σ (some (2,b))=zal (ev n σ (.tmp 26)) b:=(fun n σ b=>by rw[zac,show gd 2=some 26 from(by rw[hgd];rfl)];rfl)
    have d1:=zad hx hgj
    have d2:=zad hx hg9
    simp (disch:=first|omega|assumption|rfl) only[go_sem,h18,h17,h16,h7,hvO,hs1,hs2,hn,hs,hj0,hj1,d1,d2,hOj,↓hg2]
    refine Fn.mono (zef x cx r.1.1 z r.1.2 (hRj.ext ((hE02.trans hE4).trans hx)) (hUr.1.ext ((hE02.trans hE4).trans hx)) hokx hUr.2) ?_
    rintro _ x2 ⟨rfl,hx2⟩
    refine⟨.inr hx2,?_⟩
    simp (disch:=first|omega|assumption|rfl) only[go_sem,↓hg2]
    refine hK _ _ ?_;clear hK hgd;clear K;try clear gd
    exact⟨rfl,rfl,by rw[hal];simp only[go_sem],(vq1 h18),(vq1 h17),(vq1 h16),(vq2 h7 hvO),(vq1 hs1),(vq1 hs2),vq0,vq0,hx.trans hx2⟩
  rintro _ σ2 _ v2 ⟨rfl,rfl,g36,g18,g17,g16,g7,gs1,gs2,g9,g10,hE5⟩
  have hE6:=hE4.trans hE5
  have hO2:=hO1.ext hE5
  have hg92:=zad hE5 hg9
  have hi1':(i:Int)+1=((i+1:Nat):Int):=by push_cast;rfl
  have htk:Z.take (i+1)=Z.take i++ [r]:=by rw[zap hiZ,hr]
  have hf1:zci zaC minT (fun x:RI=>x.1.2) (Z.take (i+1)) []=putC zaC minT r.1.2 O:=by
   rw[htk,hOf];unfold zci;rw[List.foldl_append];rfl
  have hdr:Z.drop i=r::Z.drop (i+1):=by rw[List.drop_eq_getElem_cons hiZ,hr]
  have hn1:(putC zaC minT r.1.2 O).Pairwise (fun a b=>zaC a b<0):=zcd cpr_R zll hOs
  have hn2:∀o∈putC zaC minT r.1.2 O,∀z∈Z.drop (i+1),¬0<zaC o z.1.2:=by
   refine zdY (Q:=fun o=>∀z∈Z.drop (i+1),¬0<zaC o z.1.2) (fun x hx h0 z hz=>?_) (fun z hz=>?_) (fun o ho z hz=>hOle o ho z (by rw[hdr];exact List.mem_cons_of_mem _ hz))
   ·have e1:zaC (minT x r.1.2) z.1.2=zaC x z.1.2:=rfl
    rw[e1];exact hx z hz
   ·have h3:=List.Pairwise.sublist (List.drop_sublist i Z) hs
    rw[hdr]at h3
    have h4:=(List.pairwise_cons.1 h3).1 z hz
    rcases h4 with h4|h4
    ·omega
    ·omega
  have hn3:∀o∈putC zaC minT r.1.2 O,zbs o:=zdY (fun x hx _=>⟨hx.lb,hx.len,hx.dat⟩) hUr.2 hOok
  repeat refine c_r ?_
  refine zaH (t:=zeK O r.1.2) (by simp only[go_sem,g36]) ?_ ?_
  ·intro hal
   rcases List.eq_nil_or_concat O with hO0| ⟨O',z,hO0⟩
   ·rw[hO0]at hal;simp[zeK]at hal
   rw[List.concat_eq_append]at hO0
   have hz0:zaC z r.1.2=0:=by unfold zeK at hal;rw[hO0]at hal;simpa using hal
   obtain⟨j,hj⟩:∃j,O'.length=j:=⟨_,rfl⟩
   have hOj:O.length=j+1:=by rw[hO0];simp[hj]
   have hs:((j+1:Nat):Int) - 1=(j:Int):=by omega
   have hj0:(0:Int)≤(j:Int):=by omega
   have hj1:(j:Int)<((j+1:Nat):Int):=by omega
   have hRj:=hOat j (by omega) (by omega)
   have hxj:O[j]'(by omega)=z:=by simp only[hO0,←hj];simp
   rw[hxj]at hRj
   have hokz:zbs z:=hOok z (by rw[hO0];simp)
   obtain⟨cx,hcx⟩:∃cx,LO[j]'(by omega)=cx:=⟨_,rfl⟩
   rw[hcx]at hRj
   rw[hOj]at hvO g10 g7
   rcases hO2.cases with ⟨hv0,h0⟩| ⟨b,cap,hvb,hbB,hbc,hbm,hSD⟩
   ·rw[h0]at hOl;simp at hOl;omega
   rw[hvO,hOl,hOj]at hvb
   have hao:aO=some ⟨b,0,Option.none⟩:=by injection hvb
   have hcap:cO=cap:=by injection hvb
   subst hao hcap
   have hdj:=hSD.get (j:=j) (by omega)
   rw[hcx]at hdj
   repeat refine c_r ?_
   refine zaJ (fun i=>i==12) [(0,true),(1,true),(2,true),(3,true),(4,true),(5,true),(6,true),(7,true),(8,true),(9,true),(10,false),(11,true),(12,false)] NoS mixed (by kernel_rfl) ?_;intro gd K x hgd hx hxe hK;clear hxe
   have d1:=zad hx hdj
   have d2:=zad hx hg92
   simp (disch:=first|omega|assumption|rfl) only[go_sem,g7,g10,gs2,g9,hs,hj0,hj1,d1,d2]
   refine Fn.mono (ziR x cx r.1.1 z r.1.2 (hRj.ext ((hE02.trans hE6).trans hx)) (hUr.1.ext ((hE02.trans hE6).trans hx))) ?_
   rintro _ v3 ⟨rfl,hE7⟩
   refine⟨.inr hE7,?_⟩
   simp (disch:=first|omega|assumption|rfl) only[go_sem,g7,g10,hs,hj0,hj1]
   have hSD3:=(hSD.ext hx).ext hE7
   have hRm:=hRj.minT (b:=r.1.2)
   refine SD.set (P:=Tryz.prog) (t:=201) hSD3 (j:=j) (by omega) hRm.len hRm.ones rfl rfl ?_
   intro v4 hv4 hL4 hk4
   refine⟨.inl rfl,?_⟩
   simp (disch:=first|omega|assumption|rfl) only[go_sem]
   refine hK _ _ ?_;clear hK hgd;clear K;try clear gd
   have hE8:Ext w2 v4:=Keep.to_ext ((hE6.trans hx).trans hE7) rfl (fun i hi=>by omega) hk4
   repeat refine c_r ?_
   refine rg2 g18 hi1' ?_
   repeat refine c_r ?_
   have hO4:=OwnK.of_sd (B:=w2.heap.size) hL4 hbB (by rw[List.length_set];exact hbc) hbm
   have hLl:LO.length=j+1:=by omega
   rw[List.length_set,hLl]at hO4
   have hput:putC zaC minT r.1.2 O=O'++ [minT z r.1.2]:=by
    rw[hO0]at hOs hOle ⊢
    rw[zi6 cpr_R hOs (by omega),if_pos hz0]
   rw[hput]at hn1 hn2 hn3
   subst hO0
   refine⟨m - 1,by omega,rfl,i+1,.slice (some ⟨b,0,Option.none⟩) (j+1) cO,_,O'++ [minT z r.1.2],by omega,vq0,(vq1 g17),(vq1 g16),(vq1 g7),by simp only[go_sem,gs1],by simp only[go_sem,gs2],hO4,by simp[hLl,hj],recs_set hj hLl hOat hRm,hn3,by simp at hOi ⊢;omega,by rw[hf1,hput],hE8,hn1,hn2⟩
  ·intro hal
   have hput:putC zaC minT r.1.2 O=O++ [r.1.2]:=by
    rcases List.eq_nil_or_concat O with hO0| ⟨O',z,hO0⟩
    ·rw[hO0];rfl
    ·rw[List.concat_eq_append]at hO0
     have hz0:¬zaC z r.1.2=0:=by unfold zeK at hal;rw[hO0]at hal;simpa using hal
     have hle:=hOle z (by rw[hO0];simp) r (by rw[hdr];simp)
     rw[hO0]at hOs ⊢
     rw[zi6 cpr_R hOs hle,if_neg hz0]
     simp
   rw[hput]at hn1 hn2 hn3
   rw[hvO]at hO2
   repeat refine c_r ?_
   refine rq ?_;intro gd K hgd hK
   try simp (disch:=first|omega|assumption|rfl) only[go_sem,g7,g9,hg92]
   refine zlS (k:=7) (by rfl) (by rfl) (by rfl) (by rfl) hUr.1.len (by decide) hUr.1.ones ?_
   intro x1 hX1 hXs hXo
   try simp only[go_sem]
   refine zgF (k:=7) (B:=w2.heap.size) (hO2.ext hX1) hXo.rowK (by rfl) (by rfl) (by rfl) (by rfl) (by rfl) (by rfl) (by decide) (by rfl) (by rfl) hXo.len hXo.ones (by simp;omega) (by decide) (hE6.trans hX1).size ?_
   intro vO' x2 hO3 hE7 _ _ _
   try simp only[go_sem]
   refine hK _ _ ?_;clear hK hgd;clear K;try clear gd
   repeat refine c_r ?_
   refine rg2 g18 hi1' ?_
   repeat refine c_r ?_
   refine⟨m - 1,by omega,rfl,i+1,vO',_,O++ [r.1.2],by omega,vq0,(vq1 g17),(vq1 g16),vq0,by simp only[go_sem,gs1],by simp only[go_sem,gs2],hO3,by simp[hOl],zkK hOl hOat hUr.1,hn3,by simp;omega,by rw[hf1,hput],hE7 w2 (hE6.trans hX1) (Nat.le_refl _),hn1,hn2⟩
 ·intro hlt
  simp only[decide_eq_false_iff_not]at hlt
  have hiZ:i=Z.length:=by omega
  repeat refine c_r ?_
  refine rq ?_;intro gd K hgd hK
  try simp (disch:=first|omega|assumption|rfl) only[go_sem,h7]
  obtain⟨aO,cO,hvO,hcO,hgO⟩:=hO.rowK
  have hblk:BlkB w2.heap.size v vO:=Owns.blk (C:=RecAt w0) (xs:=O) ⟨LO,hO,hOl,hOat⟩
  rw[hvO]at hblk
  rw[hvO]
  refine Fn.mono (P_rr.Clip_ok hcO) ?_
  rintro _ v1 ⟨rfl,hv1⟩
  try simp only[go_sem]
  refine hK _ _ ?_;clear hK hgd;clear K;try clear gd
  repeat refine c_r ?_
  have hfin:O=za3 R:=by
   rw[hOf,hiZ,List.take_length,zeF (jn:=minT) cpr_R zll (lt:=ltR) (older:=zhG) (fun h=>h.imp id (fun h=>h.2)) (fun {a b} h h'=>by unfold zhG at h h';omega) D Z [] hDo hs hp List.Pairwise.nil]
   unfold za3 zci
   rw[←hDr,List.foldl_map];rfl
  refine rt0 Tryz.ntmps214 ?_
  rw[hv1]
  rw[←hfin]
  exact⟨⟨LO,⟨aO,LO.length,rfl,Nat.le_refl _,hgO⟩,hOl,hOat⟩,hE2.trans hE3,hblk.same.mono hE2.size⟩
theorem zjB(w0 w:World)(hE0:Ext w0 w){v:Value}{R:List RecL}(hR:Rows 7 (RecAt w0) w v R)(hok:∀r∈R,zbs r)(hlen:R.length≤1000000000):
  Fn Tryz.prog 160 #[v] w (fun u w'=>Rows 7 (RecAt w0) w' u (za3 R)∧Ext w w'∧BlkB w.heap.size w' u):=by
 refine enter Tryz.func160 Tryz.ntmps160 rfl rfl ?_
 repeat refine c_r ?_
 refine rg0 ?_
 repeat refine c_r ?_
 refine rq ?_;intro gd K hgd hK
 try simp only[go_sem]
 refine Fn.mono (few_ok w0 w hE0 hR hok hlen) ?_
 rintro u w1 ⟨h1,hE1,hb⟩
 try simp only[go_sem]
 refine hK _ _ ?_;clear hK hgd;clear K;try clear gd
 repeat refine c_r ?_
 refine rt0 Tryz.ntmps160 ?_
 exact⟨h1,hE1,hb⟩
theorem zeU(a b:Int):sgn (a - b)=cmpI a b:=by unfold sgn cmpI;(repeat' split)<;>omega
theorem zbm{a b:Int}:cmpI a b=0↔a=b:=by unfold cmpI;(repeat' split)<;>omega
theorem zgI{α:Type}{cf:α→α→Int}{a b:List α}{i:Nat}(ha:i≤a.length)(hb:i≤b.length)(h:¬(i<a.length∧i<b.length)):lexC cf (a.drop i) (b.drop i)=cmpI a.length b.length:=by
 rw[zcF (by
  rcases Nat.lt_or_ge i a.length with h1|h1
  ·exact .inr (List.drop_eq_nil_of_le (by omega))
  ·exact .inl (List.drop_eq_nil_of_le h1))]
 rw[List.length_drop,List.length_drop]
 unfold cmpI
 (repeat' split)<;>omega
theorem zma(w:World)(a b:Int):Fn Tryz.prog 267 #[vi a,vi b] w (fun v w'=>v=vi (cmpI a b)∧Ext w w'):=by
 refine enter Tryz.func267 Tryz.ntmps267 rfl rfl ?_
 repeat (first|refine c_r ?_|refine rg0 ?_)
 refine wc0 ?_ ?_
 ·intro ht
  simp only[decide_eq_true_eq]at ht
  repeat (first|refine c_r ?_|refine rg0 ?_)
  refine rt0 Tryz.ntmps267 ?_
  exact⟨by rw[cmpI,if_pos ht],Keep.refl _ _⟩
 ·intro hf
  simp only[decide_eq_false_iff_not]at hf
  repeat (first|refine c_r ?_|refine rg0 ?_)
  refine wc0 ?_ ?_
  ·intro ht
   simp only[decide_eq_true_eq]at ht
   repeat (first|refine c_r ?_|refine rg0 ?_)
   refine rt0 Tryz.ntmps267 ?_
   exact⟨by rw[cmpI,if_neg hf,if_pos ht],Keep.refl _ _⟩
  ·intro hf2
   simp only[decide_eq_false_iff_not]at hf2
   repeat (first|refine c_r ?_|refine rg0 ?_)
   refine rt0 Tryz.ntmps267 ?_
   exact⟨by rw[cmpI,if_neg hf,if_neg hf2],Keep.refl _ _⟩
theorem zfQ(w:World)(ca cb:List Value)(a b:DatL)(ha:DatAt w ca a)(hb:DatAt w cb b)(hoa:DatOk a)(hob:DatOk b):
  Fn Tryz.prog 220 #[.agg ca.toArray,.agg cb.toArray] w (fun v w'=>v=vi (cmpD a b)∧Ext w w'):=by
 obtain⟨nm,nu,tx,rw',rfl,a1,a2,a3,a4⟩:=ha.ex
 obtain⟨nm2,nu2,tx2,rw2,rfl,b1,b2,b3,b4⟩:=hb.ex
 obtain⟨vn,⟨sn,cn,rfl,hcn,hgn⟩,hvn,hrn⟩:=a1
 obtain⟨vn2,⟨sn2,cn2,rfl,hcn2,hgn2⟩,hvn2,hrn2⟩:=b1
 obtain⟨su,cu,rfl,hcu,hgu⟩:=a2
 obtain⟨su2,cu2,rfl,hcu2,hgu2⟩:=b2
 obtain⟨st,ct,rfl,hct,hgt⟩:=a3
 obtain⟨st2,ct2,rfl,hct2,hgt2⟩:=b3
 obtain⟨sr,cr,rfl,hcr,hgr⟩:=a4
 obtain⟨sr2,cr2,rfl,hcr2,hgr2⟩:=b4
 have hnn:=hoa.nn
 have hnn2:=hob.nn
 have hnu:=hoa.nu
 have hnu2:=hob.nu
 have hnt:=hoa.nt
 have hnt2:=hob.nt
 rw[hvn]at hcn ⊢
 rw[hvn2]at hcn2 ⊢
 simp only[List.length_map]at hcu hgu hcu2 hgu2 hct hgt hct2 hgt2 hcr hgr hcr2 hgr2 ⊢
 refine enter Tryz.func220 Tryz.ntmps220 rfl rfl ?_
 repeat refine c_r ?_
 refine rg0 ?_
 repeat refine c_r ?_
 obtain⟨OA,hOA⟩:∃OA:Obj,(.cells #[vi a.ty,.slice sn a.names.length cn,.slice su a.nums.length cu,.slice st a.texts.length ct,.slice sr a.raw.length cr] 208 (0,0))=OA:=⟨_,rfl⟩
 obtain⟨OB,hOB⟩:∃OB:Obj,(.cells #[vi b.ty,.slice sn2 b.names.length cn2,.slice su2 b.nums.length cu2,.slice st2 b.texts.length ct2,.slice sr2 b.raw.length cr2] 208 (0,0))=OB:=⟨_,rfl⟩
 simp only[hOA,hOB]
 have hal:=zda w OA OB
 rw[show (w.alloc OA).heap.size=w.heap.size+1 from zai _ _]
 revert hal
 generalize (w.alloc OA).alloc OB=w1
 rintro⟨hE1,hs1,hA,hB⟩
 subst hOA hOB
 have rd:∀x,Ext w1 x→zae x (some ⟨w.heap.size,0,Option.none⟩)=some (vi a.ty)∧zae x (some ⟨w.heap.size,1,Option.none⟩)=some (.slice sn a.names.length cn)∧zae x (some ⟨w.heap.size,2,Option.none⟩)=some (.slice su a.nums.length cu)∧zae x (some ⟨w.heap.size,3,Option.none⟩)=some (.slice st a.texts.length ct)∧zae x (some ⟨w.heap.size,4,Option.none⟩)=some (.slice sr a.raw.length cr):=
  fun x hx=>⟨zaa hx (zab hA rfl),zaa hx (zab hA rfl),zaa hx (zab hA rfl),zaa hx (zab hA rfl),zaa hx (zab hA rfl)⟩
 have rd2:∀x,Ext w1 x→zae x (some ⟨w.heap.size+1,0,Option.none⟩)=some (vi b.ty)∧zae x (some ⟨w.heap.size+1,1,Option.none⟩)=some (.slice sn2 b.names.length cn2)∧zae x (some ⟨w.heap.size+1,2,Option.none⟩)=some (.slice su2 b.nums.length cu2)∧zae x (some ⟨w.heap.size+1,3,Option.none⟩)=some (.slice st2 b.texts.length ct2)∧zae x (some ⟨w.heap.size+1,4,Option.none⟩)=some (.slice sr2 b.raw.length cr2):=
  fun x hx=>⟨zaa hx (zab hB rfl),zaa hx (zab hB rfl),zaa hx (zab hB rfl),zaa hx (zab hB rfl),zaa hx (zab hB rfl)⟩
 clear hA hB
 obtain⟨p0,p1,p2,p3,p4⟩:=rd w1 (Keep.refl _ _)
 obtain⟨q0,q1,q2,q3,q4⟩:=rd2 w1 (Keep.refl _ _)
 refine rq ?_;intro gd K hgd hK
 try simp (disch:=first|omega|assumption|rfl) only[go_sem,p0,q0,Nat.add_zero]
 refine hK _ _ ?_;clear hK hgd;clear K;try clear gd
 repeat refine c_r ?_
 refine wc0 ?_ ?_
 ·intro hne
  simp only[Bool.not_eq_true',decide_eq_false_iff_not]at hne
  repeat refine c_r ?_
  refine rq ?_;intro gd K hgd hK
  try simp (disch:=first|omega|assumption|rfl) only[go_sem,p0,q0,Nat.add_zero]
  refine Fn.mono (zma _ _ _) ?_
  rintro _ w2 ⟨rfl,hE2⟩
  try simp only[go_sem]
  refine hK _ _ ?_;clear hK hgd;clear K;try clear gd
  repeat refine c_r ?_
  refine rt0 Tryz.ntmps220 ?_
  exact⟨by simp only[cmpD,orI];rw[if_neg (fun h=>hne (zbm.1 h))],hE1.trans hE2⟩
 intro heq
 simp only[Bool.not_eq_false',decide_eq_true_eq]at heq
 have hz0:=zbm.2 heq
 repeat refine c_r ?_
 refine rg0 ?_
 repeat refine c_r ?_
 refine zam (fun m σ ds v=>ds=[]∧∃i:Nat,i+m=a.names.length∧i≤b.names.length∧σ 5=vi i∧σ 2= .pointer (some ⟨w.heap.size,0,Option.none⟩)∧σ 3= .pointer (some ⟨w.heap.size+1,0,Option.none⟩)∧Ext w1 v∧lexC zcL a.names b.names=lexC zcL (a.names.drop i) (b.names.drop i)) a.names.length ?_ ?_
 ·exact⟨rfl,0,by omega,by omega,vr0,vq0,vq0,Keep.refl _ _,rfl⟩
 rintro m σ ds v ⟨rfl,i,him,hib,h5,h2,h3,hEv,hinv⟩
 obtain⟨p0,p1,p2,p3,p4⟩:=rd v hEv
 obtain⟨q0,q1,q2,q3,q4⟩:=rd2 v hEv
 repeat refine c_r ?_
 refine zay (Q:=fun e σ' ds' v'=>e= .normal∧ds'=[]∧v'=v∧σ' 5=vi i∧σ' 2= .pointer (some ⟨w.heap.size,0,Option.none⟩)∧σ' 3= .pointer (some ⟨w.heap.size+1,0,Option.none⟩)∧σ' 31= .bool (decide (i<a.names.length∧i<b.names.length))) ?_ ?_
 ·refine rq ?_;intro gd K hgd hK
  have hg5:∀n σ b,zav gd n σ (some (5,b))=zal (ev n σ (.tmp 25)) b:=(fun n σ b=>by rw[zac,show gd 5=some 25 from(by rw[hgd];rfl)];rfl)
  by_cases c1:(i:Int)<(a.names.length:Int)
  ·try simp (disch:=first|omega|assumption|rfl) only[go_sem,h5,h2,h3,p1,p2,p3,q1,q2,q3,Nat.zero_add,decide_eq_true c1,↓hg5]
   refine hK _ _ ?_;clear hK hgd;clear K;try clear gd
   refine⟨rfl,rfl,rfl,(vq1 h5),(vq1 h2),(vq1 h3),?_⟩
   rw[show decide (i<a.names.length∧i<b.names.length)=decide ((i:Int)<(b.names.length:Int)) from decide_eq_decide.2 ⟨fun h=>by omega,fun h=>⟨by omega,by omega⟩⟩]
   simp only[go_sem]
  ·try simp (disch:=first|omega|assumption|rfl) only[go_sem,h5,h2,h3,p1,p2,p3,q1,q2,q3,Nat.zero_add,decide_eq_false c1,↓hg5]
   refine hK _ _ ?_;clear hK hgd;clear K;try clear gd
   refine⟨rfl,rfl,rfl,(vq1 h5),(vq1 h2),(vq1 h3),?_⟩
   rw[show decide (i<a.names.length∧i<b.names.length)=false from decide_eq_false (fun h=>c1 (by omega))]
   simp only[go_sem]
 clear h5 h2 h3
 rintro _ σ1 _ v1 ⟨rfl,rfl,hv1,h5,h2,h3,hsc⟩
 rw[hv1]
 clear hv1 v1
 repeat refine c_r ?_
 refine zaH (t:=decide (i<a.names.length∧i<b.names.length)) ((vq1 hsc)) ?_ ?_
 ·intro hlt
  simp only[decide_eq_true_eq]at hlt
  have hi0:(0:Int)≤(i:Int):=by omega
  have hia:(i:Int)<(a.names.length:Int):=by omega
  have hib2:(i:Int)<(b.names.length:Int):=by omega
  have hi1':(i:Int)+1=((i+1:Nat):Int):=by push_cast;rfl
  have hstep:=zcv (cf:=zcL) hlt.1 hlt.2
  repeat refine c_r ?_
  have d1:=hgn i (by omega)
  have d2:=hgn2 i (by omega)
  obtain⟨xa,rfl⟩:=Option.isSome_iff_exists.1 (zag d1)
  obtain⟨xb,rfl⟩:=Option.isSome_iff_exists.1 (zag d2)
  refine zaJ (fun _=>false) [(0,true),(1,true),(2,true),(3,true),(4,true),(5,true),(6,true),(7,true),(8,true),(9,true),(10,false),(11,true)] NoS mixed (by kernel_rfl) ?_;intro gd K x hgd hx hxe hK;clear hxe
  obtain⟨p0',p1',p2',p3',p4'⟩:=rd x (hEv.trans hx)
  obtain⟨q0',q1',q2',q3',q4'⟩:=rd2 x (hEv.trans hx)
  have d1':=zaa ((hE1.trans hEv).trans hx) d1
  have d2':=zaa ((hE1.trans hEv).trans hx) d2
  simp (disch:=first|omega|assumption|rfl) only[go_sem,h5,h2,h3,p1',p3',q1',q3',Nat.zero_add,hi0,hia,hib2,d1',d2']
  refine Fn.mono (zfP _ _ _ _ _ ((hrn i (by omega) hlt.1).ext ((hE1.trans hEv).trans hx)) ((hrn2 i (by omega) hlt.2).ext ((hE1.trans hEv).trans hx)) (hoa.names _ (List.getElem_mem hlt.1)).1 (hob.names _ (List.getElem_mem hlt.2)).1 (by have:=(hoa.names _ (List.getElem_mem hlt.1)).2;omega) (by have:=(hob.names _ (List.getElem_mem hlt.2)).2;omega)) ?_
  rintro _ x1 ⟨rfl,hx1⟩
  refine⟨.inr hx1,?_⟩
  simp (disch:=first|omega|assumption|rfl) only[go_sem]
  refine hK _ _ ?_;clear hK hgd;clear K;try clear gd
  repeat refine c_r ?_
  refine rg0 ?_
  repeat refine c_r ?_
  refine wc0 ?_ ?_
  ·intro hne
   simp only[Bool.not_eq_true',decide_eq_false_iff_not]at hne
   repeat (first|refine c_r ?_|refine rg0 ?_)
   refine rt0 Tryz.ntmps220 ?_
   refine⟨?_,((hE1.trans hEv).trans hx).trans hx1⟩
   have hc:zcL a.names[i] b.names[i]≠0:=hne
   simp only[cmpD,orI]
   rw[if_pos hz0,hinv,hstep,if_neg hc,if_neg hc]
   rfl
  ·intro heq
   simp only[Bool.not_eq_false',decide_eq_true_eq]at heq
   have hc:zcL a.names[i] b.names[i]=0:=heq
   repeat refine c_r ?_
   refine rg2 h5 hi1' ?_
   repeat refine c_r ?_
   exact⟨m - 1,by omega,rfl,i+1,by omega,by omega,vq0,(vq1 h2),(vq1 h3),(hEv.trans hx).trans hx1,by rw[hinv,hstep,if_pos hc]⟩
 intro hge
 simp only[decide_eq_false_iff_not]at hge
 have hend:=zgI (cf:=zcL) (by omega:i≤a.names.length) hib hge
 repeat refine c_r ?_
 refine rq ?_;intro gd K hgd hK
 try simp (disch:=first|omega|assumption|rfl) only[go_sem,h2,h3,p1,p2,p3,q1,q2,q3,Nat.zero_add]
 refine hK _ _ ?_;clear hK hgd;clear K;try clear gd
 repeat refine c_r ?_
 refine wc0 ?_ ?_
 ·intro hne
  simp only[Bool.not_eq_true',decide_eq_false_iff_not]at hne
  have hne2:¬((a.names.length:Int)=(b.names.length:Int)):=fun h=>hne (by omega)
  repeat refine c_r ?_
  refine rq ?_;intro gd K hgd hK
  try simp (disch:=first|omega|assumption|rfl) only[go_sem,h2,h3,p1,p2,p3,q1,q2,q3,Nat.zero_add]
  refine Fn.mono (zdu _ _) ?_
  rintro _ x1 ⟨rfl,hx1⟩
  try simp only[go_sem]
  refine hK _ _ ?_;clear hK hgd;clear K;try clear gd
  repeat refine c_r ?_
  refine rt0 Tryz.ntmps220 ?_
  refine⟨?_,(hE1.trans hEv).trans hx1⟩
  have hc:lexC zcL a.names b.names≠0:=by rw[hinv,hend];exact fun h=>hne2 (zbm.1 h)
  rw[zeU]
  simp only[cmpD,orI]
  rw[if_pos hz0,if_neg hc,hinv,hend]
 intro heql
 simp only[Bool.not_eq_false',decide_eq_true_eq]at heql
 have heql2:(a.names.length:Int)=(b.names.length:Int):=by omega
 have hz1:lexC zcL a.names b.names=0:=by rw[hinv,hend];exact zbm.2 heql2
 have g2:=h2
 have g3:=h3
 have hEL0:=hEv
 clear hsc hinv hend hge him hib
 repeat refine c_r ?_
 refine rg0 ?_
 repeat refine c_r ?_
 refine zam (fun m σ ds v=>ds=[]∧∃i:Nat,i+m=a.nums.length∧i≤b.nums.length∧σ 7=vi i∧σ 2= .pointer (some ⟨w.heap.size,0,Option.none⟩)∧σ 3= .pointer (some ⟨w.heap.size+1,0,Option.none⟩)∧Ext w1 v∧lexC cmpI a.nums b.nums=lexC cmpI (a.nums.drop i) (b.nums.drop i)) a.nums.length ?_ ?_
 ·exact⟨rfl,0,by omega,by omega,vr0,(vq1 g2),(vq1 g3),hEL0,rfl⟩
 rintro m σ ds v ⟨rfl,i,him,hib,h5,h2,h3,hEv,hinv⟩
 obtain⟨p0,p1,p2,p3,p4⟩:=rd v hEv
 obtain⟨q0,q1,q2,q3,q4⟩:=rd2 v hEv
 repeat refine c_r ?_
 refine zay (Q:=fun e σ' ds' v'=>e= .normal∧ds'=[]∧v'=v∧σ' 7=vi i∧σ' 2= .pointer (some ⟨w.heap.size,0,Option.none⟩)∧σ' 3= .pointer (some ⟨w.heap.size+1,0,Option.none⟩)∧σ' 74= .bool (decide (i<a.nums.length∧i<b.nums.length))) ?_ ?_
 ·refine rq ?_;intro gd K hgd hK
  have hg5:∀n σ b,zav gd n σ (some (5,b))=zal (ev n σ (.tmp 68)) b:=(fun n σ b=>by rw[zac,show gd 5=some 68 from(by rw[hgd];rfl)];rfl)
  by_cases c1:(i:Int)<(a.nums.length:Int)
  ·try simp (disch:=first|omega|assumption|rfl) only[go_sem,h5,h2,h3,p1,p2,p3,q1,q2,q3,Nat.zero_add,decide_eq_true c1,↓hg5]
   refine hK _ _ ?_;clear hK hgd;clear K;try clear gd
   refine⟨rfl,rfl,rfl,(vq1 h5),(vq1 h2),(vq1 h3),?_⟩
   rw[show decide (i<a.nums.length∧i<b.nums.length)=decide ((i:Int)<(b.nums.length:Int)) from decide_eq_decide.2 ⟨fun h=>by omega,fun h=>⟨by omega,by omega⟩⟩]
   simp only[go_sem]
  ·try simp (disch:=first|omega|assumption|rfl) only[go_sem,h5,h2,h3,p1,p2,p3,q1,q2,q3,Nat.zero_add,decide_eq_false c1,↓hg5]
   refine hK _ _ ?_;clear hK hgd;clear K;try clear gd
   refine⟨rfl,rfl,rfl,(vq1 h5),(vq1 h2),(vq1 h3),?_⟩
   rw[show decide (i<a.nums.length∧i<b.nums.length)=false from decide_eq_false (fun h=>c1 (by omega))]
   simp only[go_sem]
 clear h5 h2 h3
 rintro _ σ1 _ v1 ⟨rfl,rfl,hv1,h5,h2,h3,hsc⟩
 rw[hv1]
 clear hv1 v1
 repeat refine c_r ?_
 refine zaH (t:=decide (i<a.nums.length∧i<b.nums.length)) ((vq1 hsc)) ?_ ?_
 ·intro hlt
  simp only[decide_eq_true_eq]at hlt
  have hi0:(0:Int)≤(i:Int):=by omega
  have hia:(i:Int)<(a.nums.length:Int):=by omega
  have hib2:(i:Int)<(b.nums.length:Int):=by omega
  have hi1':(i:Int)+1=((i+1:Nat):Int):=by push_cast;rfl
  have hstep:=zcv (cf:=cmpI) hlt.1 hlt.2
  repeat refine c_r ?_
  have d1:=hgu i (by simpa using hlt.1)
  have d2:=hgu2 i (by simpa using hlt.2)
  rw[List.getElem_map]at d1 d2
  obtain⟨xa,rfl⟩:=Option.isSome_iff_exists.1 (zag d1)
  obtain⟨xb,rfl⟩:=Option.isSome_iff_exists.1 (zag d2)
  have hva:=hoa.nv _ (List.getElem_mem hlt.1)
  have hvb:=hob.nv _ (List.getElem_mem hlt.2)
  have ec1:IntKind.i64.wrap a.nums[i]=a.nums[i]:=zkn (by omega) (by omega)
  have ec2:IntKind.i64.wrap b.nums[i]=b.nums[i]:=zkn (by omega) (by omega)
  refine zaJ (fun _=>false) [(0,true),(1,true),(2,true),(3,true),(4,true),(5,true),(6,true),(7,true),(8,true),(9,true),(10,true)] NoS mixed (by kernel_rfl) ?_;intro gd K x hgd hx hxe hK;clear hxe
  obtain⟨p0',p1',p2',p3',p4'⟩:=rd x (hEv.trans hx)
  obtain⟨q0',q1',q2',q3',q4'⟩:=rd2 x (hEv.trans hx)
  have d1':=zaa ((hE1.trans hEv).trans hx) d1
  have d2':=zaa ((hE1.trans hEv).trans hx) d2
  simp (disch:=first|omega|assumption|rfl) only[go_sem,h5,h2,h3,p2',q2',Nat.zero_add,hi0,hia,hib2,d1',d2']
  refine hK _ _ ?_;clear hK hgd;clear K;try clear gd
  repeat refine c_r ?_
  refine wc0 ?_ ?_
  ·intro hne
   simp only[Bool.not_eq_true',decide_eq_false_iff_not]at hne
   have hEx:=hEv.trans hx
   clear p0' p1' p2' p3' p4' q0' q1' q2' q3' q4'
   generalize x=y at*
   repeat refine c_r ?_
   refine zaJ (fun _=>false) [(0,true),(1,true),(2,true),(3,true),(4,true),(5,true),(6,true),(7,true),(8,true),(9,true),(10,true),(11,true),(12,true),(13,false),(14,true)] NoS mixed (by kernel_rfl) ?_;intro gd K x hgd hx hxe hK;clear hxe
   obtain⟨p0',p1',p2',p3',p4'⟩:=rd x (hEx.trans hx)
   obtain⟨q0',q1',q2',q3',q4'⟩:=rd2 x (hEx.trans hx)
   have d1':=zaa ((hE1.trans hEx).trans hx) d1
   have d2':=zaa ((hE1.trans hEx).trans hx) d2
   simp (disch:=first|omega|assumption|rfl) only[go_sem,h5,h2,h3,p2',q2',Nat.zero_add,hi0,hia,hib2,d1',d2',ec1,ec2]
   refine Fn.mono (zdu _ _) ?_
   rintro _ x1 ⟨rfl,hx1⟩
   refine⟨.inr hx1,?_⟩
   simp (disch:=first|omega|assumption|rfl) only[go_sem]
   refine hK _ _ ?_;clear hK hgd;clear K;try clear gd
   repeat refine c_r ?_
   refine rt0 Tryz.ntmps220 ?_
   refine⟨?_,((hE1.trans hEx).trans hx).trans hx1⟩
   have hc:cmpI a.nums[i] b.nums[i]≠0:=fun h=>hne (zbm.1 h)
   rw[zeU]
   simp only[cmpD,orI]
   rw[if_pos hz0,if_pos hz1,hinv,hstep,if_neg hc,if_neg hc]
  ·intro heq
   simp only[Bool.not_eq_false',decide_eq_true_eq]at heq
   have hc:cmpI a.nums[i] b.nums[i]=0:=zbm.2 heq
   repeat refine c_r ?_
   refine rg2 h5 hi1' ?_
   repeat refine c_r ?_
   exact⟨m - 1,by omega,rfl,i+1,by omega,by omega,vq0,(vq1 h2),(vq1 h3),hEv.trans hx,by rw[hinv,hstep,if_pos hc]⟩
 intro hge
 simp only[decide_eq_false_iff_not]at hge
 have hend:=zgI (cf:=cmpI) (by omega:i≤a.nums.length) hib hge
 repeat refine c_r ?_
 refine rq ?_;intro gd K hgd hK
 try simp (disch:=first|omega|assumption|rfl) only[go_sem,h2,h3,p1,p2,p3,q1,q2,q3,Nat.zero_add]
 refine hK _ _ ?_;clear hK hgd;clear K;try clear gd
 repeat refine c_r ?_
 refine wc0 ?_ ?_
 ·intro hne
  simp only[Bool.not_eq_true',decide_eq_false_iff_not]at hne
  have hne2:¬((a.nums.length:Int)=(b.nums.length:Int)):=fun h=>hne (by omega)
  repeat refine c_r ?_
  refine rq ?_;intro gd K hgd hK
  try simp (disch:=first|omega|assumption|rfl) only[go_sem,h2,h3,p1,p2,p3,q1,q2,q3,Nat.zero_add]
  refine Fn.mono (zdu _ _) ?_
  rintro _ x1 ⟨rfl,hx1⟩
  try simp only[go_sem]
  refine hK _ _ ?_;clear hK hgd;clear K;try clear gd
  repeat refine c_r ?_
  refine rt0 Tryz.ntmps220 ?_
  refine⟨?_,(hE1.trans hEv).trans hx1⟩
  have hc:lexC cmpI a.nums b.nums≠0:=by rw[hinv,hend];exact fun h=>hne2 (zbm.1 h)
  rw[zeU]
  simp only[cmpD,orI]
  rw[if_pos hz0,if_pos hz1,if_neg hc,hinv,hend]
 intro heql
 simp only[Bool.not_eq_false',decide_eq_true_eq]at heql
 have heql2:(a.nums.length:Int)=(b.nums.length:Int):=by omega
 have hz2:lexC cmpI a.nums b.nums=0:=by rw[hinv,hend];exact zbm.2 heql2
 have g2:=h2
 have g3:=h3
 have hEL1:=hEv
 clear hsc hinv hend hge him hib
 repeat refine c_r ?_
 refine rg0 ?_
 repeat refine c_r ?_
 refine zam (fun m σ ds v=>ds=[]∧∃i:Nat,i+m=a.texts.length∧i≤b.texts.length∧σ 8=vi i∧σ 2= .pointer (some ⟨w.heap.size,0,Option.none⟩)∧σ 3= .pointer (some ⟨w.heap.size+1,0,Option.none⟩)∧Ext w1 v∧lexC cmpL a.texts b.texts=lexC cmpL (a.texts.drop i) (b.texts.drop i)) a.texts.length ?_ ?_
 ·exact⟨rfl,0,by omega,by omega,vr0,(vq1 g2),(vq1 g3),hEL1,rfl⟩
 rintro m σ ds v ⟨rfl,i,him,hib,h5,h2,h3,hEv,hinv⟩
 obtain⟨p0,p1,p2,p3,p4⟩:=rd v hEv
 obtain⟨q0,q1,q2,q3,q4⟩:=rd2 v hEv
 repeat refine c_r ?_
 refine zay (Q:=fun e σ' ds' v'=>e= .normal∧ds'=[]∧v'=v∧σ' 8=vi i∧σ' 2= .pointer (some ⟨w.heap.size,0,Option.none⟩)∧σ' 3= .pointer (some ⟨w.heap.size+1,0,Option.none⟩)∧σ' 128= .bool (decide (i<a.texts.length∧i<b.texts.length))) ?_ ?_
 ·refine rq ?_;intro gd K hgd hK
  have hg5:∀n σ b,zav gd n σ (some (5,b))=zal (ev n σ (.tmp 122)) b:=(fun n σ b=>by rw[zac,show gd 5=some 122 from(by rw[hgd];rfl)];rfl)
  by_cases c1:(i:Int)<(a.texts.length:Int)
  ·try simp (disch:=first|omega|assumption|rfl) only[go_sem,h5,h2,h3,p1,p2,p3,q1,q2,q3,Nat.zero_add,decide_eq_true c1,↓hg5]
   refine hK _ _ ?_;clear hK hgd;clear K;try clear gd
   refine⟨rfl,rfl,rfl,(vq1 h5),(vq1 h2),(vq1 h3),?_⟩
   rw[show decide (i<a.texts.length∧i<b.texts.length)=decide ((i:Int)<(b.texts.length:Int)) from decide_eq_decide.2 ⟨fun h=>by omega,fun h=>⟨by omega,by omega⟩⟩]
   simp only[go_sem]
  ·try simp (disch:=first|omega|assumption|rfl) only[go_sem,h5,h2,h3,p1,p2,p3,q1,q2,q3,Nat.zero_add,decide_eq_false c1,↓hg5]
   refine hK _ _ ?_;clear hK hgd;clear K;try clear gd
   refine⟨rfl,rfl,rfl,(vq1 h5),(vq1 h2),(vq1 h3),?_⟩
   rw[show decide (i<a.texts.length∧i<b.texts.length)=false from decide_eq_false (fun h=>c1 (by omega))]
   simp only[go_sem]
 clear h5 h2 h3
 rintro _ σ1 _ v1 ⟨rfl,rfl,hv1,h5,h2,h3,hsc⟩
 rw[hv1]
 clear hv1 v1
 repeat refine c_r ?_
 refine zaH (t:=decide (i<a.texts.length∧i<b.texts.length)) ((vq1 hsc)) ?_ ?_
 ·intro hlt
  simp only[decide_eq_true_eq]at hlt
  have hi0:(0:Int)≤(i:Int):=by omega
  have hia:(i:Int)<(a.texts.length:Int):=by omega
  have hib2:(i:Int)<(b.texts.length:Int):=by omega
  have hi1':(i:Int)+1=((i+1:Nat):Int):=by push_cast;rfl
  have hstep:=zcv (cf:=cmpL) hlt.1 hlt.2
  repeat refine c_r ?_
  have d1:=hgt i (by simpa using hlt.1)
  have d2:=hgt2 i (by simpa using hlt.2)
  rw[List.getElem_map]at d1 d2
  obtain⟨xa,rfl⟩:=Option.isSome_iff_exists.1 (zag d1)
  obtain⟨xb,rfl⟩:=Option.isSome_iff_exists.1 (zag d2)
  refine zaJ (fun _=>false) [(0,true),(1,true),(2,true),(3,true),(4,true),(5,true),(6,true),(7,true),(8,true),(9,true),(10,false),(11,true)] NoS mixed (by kernel_rfl) ?_;intro gd K x hgd hx hxe hK;clear hxe
  obtain⟨p0',p1',p2',p3',p4'⟩:=rd x (hEv.trans hx)
  obtain⟨q0',q1',q2',q3',q4'⟩:=rd2 x (hEv.trans hx)
  have d1':=zaa ((hE1.trans hEv).trans hx) d1
  have d2':=zaa ((hE1.trans hEv).trans hx) d2
  simp (disch:=first|omega|assumption|rfl) only[go_sem,h5,h2,h3,p1',p3',q1',q3',Nat.zero_add,hi0,hia,hib2,d1',d2']
  refine Fn.mono (zfO _ _ _) ?_
  rintro _ x1 ⟨rfl,hx1⟩
  refine⟨.inr hx1,?_⟩
  simp (disch:=first|omega|assumption|rfl) only[go_sem]
  refine hK _ _ ?_;clear hK hgd;clear K;try clear gd
  repeat refine c_r ?_
  refine rg0 ?_
  repeat refine c_r ?_
  refine wc0 ?_ ?_
  ·intro hne
   simp only[Bool.not_eq_true',decide_eq_false_iff_not]at hne
   repeat (first|refine c_r ?_|refine rg0 ?_)
   refine rt0 Tryz.ntmps220 ?_
   refine⟨?_,((hE1.trans hEv).trans hx).trans hx1⟩
   have hc:cmpL a.texts[i] b.texts[i]≠0:=hne
   simp only[cmpD,orI]
   rw[if_pos hz0,if_pos hz1,if_pos hz2,hinv,hstep,if_neg hc,if_neg hc]
  ·intro heq
   simp only[Bool.not_eq_false',decide_eq_true_eq]at heq
   have hc:cmpL a.texts[i] b.texts[i]=0:=heq
   repeat refine c_r ?_
   refine rg2 h5 hi1' ?_
   repeat refine c_r ?_
   exact⟨m - 1,by omega,rfl,i+1,by omega,by omega,vq0,(vq1 h2),(vq1 h3),(hEv.trans hx).trans hx1,by rw[hinv,hstep,if_pos hc]⟩
 intro hge
 simp only[decide_eq_false_iff_not]at hge
 have hend:=zgI (cf:=cmpL) (by omega:i≤a.texts.length) hib hge
 repeat refine c_r ?_
 refine rq ?_;intro gd K hgd hK
 try simp (disch:=first|omega|assumption|rfl) only[go_sem,h2,h3,p1,p2,p3,q1,q2,q3,Nat.zero_add]
 refine hK _ _ ?_;clear hK hgd;clear K;try clear gd
 repeat refine c_r ?_
 refine wc0 ?_ ?_
 ·intro hne
  simp only[Bool.not_eq_true',decide_eq_false_iff_not]at hne
  have hne2:¬((a.texts.length:Int)=(b.texts.length:Int)):=fun h=>hne (by omega)
  repeat refine c_r ?_
  refine rq ?_;intro gd K hgd hK
  try simp (disch:=first|omega|assumption|rfl) only[go_sem,h2,h3,p1,p2,p3,q1,q2,q3,Nat.zero_add]
  refine Fn.mono (zdu _ _) ?_
  rintro _ x1 ⟨rfl,hx1⟩
  try simp only[go_sem]
  refine hK _ _ ?_;clear hK hgd;clear K;try clear gd
  repeat refine c_r ?_
  refine rt0 Tryz.ntmps220 ?_
  refine⟨?_,(hE1.trans hEv).trans hx1⟩
  have hc:lexC cmpL a.texts b.texts≠0:=by rw[hinv,hend];exact fun h=>hne2 (zbm.1 h)
  rw[zeU]
  simp only[cmpD,orI]
  rw[if_pos hz0,if_pos hz1,if_pos hz2,if_neg hc,hinv,hend]
 intro heql
 simp only[Bool.not_eq_false',decide_eq_true_eq]at heql
 have heql2:(a.texts.length:Int)=(b.texts.length:Int):=by omega
 have hz3:lexC cmpL a.texts b.texts=0:=by rw[hinv,hend];exact zbm.2 heql2
 have g2:=h2
 have g3:=h3
 have hEL2:=hEv
 repeat refine c_r ?_
 refine rq ?_;intro gd K hgd hK
 try simp (disch:=first|omega|assumption|rfl) only[go_sem,h2,h3,p4,q4,Nat.zero_add]
 refine zb3 (l:=a.raw) rfl rfl rfl (vq0) (fun j hj=>?_) ?_
 ·have:=zaa (hE1.trans hEv) (hgr j (by simpa using hj))
  rw[List.getElem_map]at this;exact this
 try simp (disch:=first|omega|assumption|rfl) only[go_sem,h2,h3,p4,q4,Nat.zero_add]
 refine zb3 (l:=b.raw) rfl rfl rfl (vq0) (fun j hj=>?_) ?_
 ·have:=zaa (hE1.trans hEv) (hgr2 j (by simpa using hj))
  rw[List.getElem_map]at this;exact this
 try simp only[go_sem]
 refine Fn.mono (zfO _ _ _) ?_
 rintro _ x1 ⟨rfl,hx1⟩
 try simp only[go_sem]
 refine hK _ _ ?_;clear hK hgd;clear K;try clear gd
 repeat refine c_r ?_
 refine rt0 Tryz.ntmps220 ?_
 refine⟨?_,(hE1.trans hEv).trans hx1⟩
 simp only[cmpD,orI]
 rw[if_pos hz0,if_pos hz1,if_pos hz2,if_pos hz3]
 by_cases hr:cmpL a.raw b.raw=0
 ·rw[if_pos hr,hr]
 ·rw[if_neg hr]
theorem zh4(a b:RecL):zaC a b=if zcL a.owner b.owner=0 then cmpD a.dat b.dat else zcL a.owner b.owner:=by
 simp only[zaC,cmpD,orI]
 (repeat' split)<;>simp_all
theorem zdE(w:World)(ca cb:List Value)(a b:RecL)(ha:RecAt w ca a)(hb:RecAt w cb b)(hoa:zbs a)(hob:zbs b):
  Fn Tryz.prog 165 #[.agg ca.toArray,.agg cb.toArray] w (fun v w'=>v=vi (zaC a b)∧Ext w w'):=by
 obtain⟨ow,ds,rfl,a1,a2⟩:=ha.ex
 obtain⟨ow2,ds2,rfl,b1,b2⟩:=hb.ex
 have a2':=a2
 have b2':=b2
 obtain⟨nm,nu,tx,rw',rfl,_⟩:=a2.ex
 obtain⟨nm2,nu2,tx2,rw2,rfl,_⟩:=b2.ex
 refine enter Tryz.func165 Tryz.ntmps165 rfl rfl ?_
 repeat refine c_r ?_
 refine rg0 ?_
 repeat refine c_r ?_
 rw[zai]
 refine zaO ?_
 intro w1 hE1 hs1 hA hB
 have p0:zae w1 (some ⟨w.heap.size,0,Option.none⟩)=some ow:=zab hA rfl
 have q0:zae w1 (some ⟨w.heap.size+1,0,Option.none⟩)=some ow2:=zab hB rfl
 refine rq ?_;intro gd K hgd hK
 try simp (disch:=first|omega|assumption|rfl) only[go_sem,p0,q0,Nat.add_zero]
 refine Fn.mono (zfP _ _ _ _ _ (a1.ext hE1) (b1.ext hE1) hoa.lb hob.lb (by have:=hoa.len;omega) (by have:=hob.len;omega)) ?_
 rintro _ w2 ⟨rfl,hE2⟩
 try simp only[go_sem]
 refine hK _ _ ?_;clear hK hgd;clear K;try clear gd
 repeat refine c_r ?_
 refine rg0 ?_
 repeat refine c_r ?_
 refine wc0 ?_ ?_
 ·intro hne
  simp only[Bool.not_eq_true',decide_eq_false_iff_not]at hne
  have hne':¬zcL a.owner b.owner=0:=hne
  repeat (first|refine c_r ?_|refine rg0 ?_)
  refine rt0 Tryz.ntmps165 ?_
  exact⟨by rw[zh4,if_neg hne'];rfl,hE1.trans hE2⟩
 ·intro heq
  simp only[Bool.not_eq_false',decide_eq_true_eq]at heq
  have heq':zcL a.owner b.owner=0:=heq
  have p5:zas w2 (some ⟨w.heap.size,2,Option.none⟩) 5=some [vi a.dat.ty,nm,nu,tx,rw']:=zaL (hE2.at hA) (Nat.le_refl 7)
  have q5:zas w2 (some ⟨w.heap.size+1,2,Option.none⟩) 5=some [vi b.dat.ty,nm2,nu2,tx2,rw2]:=zaL (hE2.at hB) (Nat.le_refl 7)
  repeat refine c_r ?_
  refine rq ?_;intro gd K hgd hK
  try simp (disch:=first|omega|assumption|rfl) only[go_sem,p5,q5,Nat.add_zero]
  refine Fn.mono (zfQ _ _ _ a.dat b.dat (a2'.ext (hE1.trans hE2)) (b2'.ext (hE1.trans hE2)) hoa.dat hob.dat) ?_
  rintro _ w3 ⟨rfl,hE3⟩
  try simp only[go_sem]
  refine hK _ _ ?_;clear hK hgd;clear K;try clear gd
  repeat refine c_r ?_
  refine rt0 Tryz.ntmps165 ?_
  exact⟨by rw[zh4,if_pos heq'],(hE1.trans hE2).trans hE3⟩
theorem ziQ(w:World)(ca cb:List Value)(a b:RecL)(ha:RecAt w ca a)(hb:RecAt w cb b)(hoa:zbs a)(hob:zbs b):
  Fn Tryz.prog 166 #[.agg ca.toArray,.agg cb.toArray] w (fun v w'=>v= .bool (decide (zaC a b=0))∧Ext w w'):=by
 have ha':=ha
 have hb':=hb
 obtain⟨ow,ds,rfl,a1,a2⟩:=ha.ex
 obtain⟨ow2,ds2,rfl,b1,b2⟩:=hb.ex
 obtain⟨nm,nu,tx,rw',rfl,_⟩:=a2.ex
 obtain⟨nm2,nu2,tx2,rw2,rfl,_⟩:=b2.ex
 refine enter Tryz.func166 Tryz.ntmps166 rfl rfl ?_
 repeat refine c_r ?_
 refine rg0 ?_
 repeat refine c_r ?_
 rw[zai]
 refine zaO ?_
 intro w1 hE1 hs1 hA hB
 have p:=zfC (n:=7) hA rfl
 have q:=zfC (n:=7) hB rfl
 refine rq ?_;intro gd K hgd hK
 try simp (disch:=first|omega|assumption|rfl) only[go_sem,p,q]
 refine Fn.mono (zdE _ _ _ a b (ha'.ext hE1) (hb'.ext hE1) hoa hob) ?_
 rintro _ w2 ⟨rfl,hE2⟩
 try simp only[go_sem]
 refine hK _ _ ?_;clear hK hgd;clear K;try clear gd
 repeat refine c_r ?_
 refine rt0 Tryz.ntmps166 ?_
 exact⟨rfl,hE1.trans hE2⟩
section
variable {α : Type} {cf : α → α → Int} {jn : α → α → α}
def tst(O:List α)(k:Nat)(p:α→Bool):Bool:=match O[k]? with
 |some x=>p x
 |Option.none=>false
theorem zdQ{O:List α}{k:Nat}(h:k<O.length)(p:α→Bool):tst O k p=p O[k]:=by unfold tst;rw[List.getElem?_eq_getElem h]
theorem zej{O:List α}{k:Nat}(h:¬k<O.length)(p:α→Bool):tst O k p=false:=by unfold tst;rw[List.getElem?_eq_none (by omega)]
theorem zi5{r:α}:∀{O:List α} {k:Nat} (hk:k<O.length),(∀j (h:j<O.length),j<k→cf O[j] r<0)→cf O[k] r=0→putC cf jn r O=O.set k (jn O[k] r)
 | [],_,h,_,_=>absurd h (by simp)
 |x::O,0,_,_,h0=>by
  have h0':cf x r=0:=h0
  simp only[putC]
  rw[if_neg (by omega),if_pos h0'];rfl
 |x::O,k+1,hk,h,h0=>by
  have hx:cf x r<0:=h 0 (by simp) (by omega)
  have ih:=zi5 (r:=r) (O:=O) (k:=k) (by simpa using hk) (fun j hj hjk=>h (j+1) (by simpa using hj) (by omega)) h0
  simp only[putC]
  rw[if_pos hx,ih];rfl
theorem zhu{r:α}:∀{O:List α} {k:Nat},k≤O.length→(∀j (h:j<O.length),j<k→cf O[j] r<0)→(∀h:k<O.length,¬cf O[k] r<0∧¬cf O[k] r=0)→putC cf jn r O=O.take k++ [r]++O.drop k
 | [],k,h,_,_=>by
  have:k=0:=by simpa using h
  subst this;rfl
 |x::O,0,_,_,hn=>by
  obtain⟨h1,h2⟩:=hn (by simp)
  have h1':¬cf x r<0:=h1
  have h2':¬cf x r=0:=h2
  simp only[putC]
  rw[if_neg h1',if_neg h2'];rfl
 |x::O,k+1,hk,h,hn=>by
  have hx:cf x r<0:=h 0 (by simp) (by omega)
  have ih:=zhu (r:=r) (O:=O) (k:=k) (by simpa using hk) (fun j hj hjk=>h (j+1) (by simpa using hj) (by omega)) (fun h=>hn (by simpa using h))
  simp only[putC]
  rw[if_pos hx,ih];rfl
end
theorem za6(w:World):zeQ 7 (RecAt w):=⟨fun h=>h.len,fun h=>h.ones⟩
theorem RecAt.ttl{w:World}{cs:List Value}{r:RecL}(h:RecAt w cs r):cs[1]? =some (v32 r.ttl):=by
 obtain⟨ow,ds,rfl,_⟩:=h.ex
 rfl
theorem zl9(w0 w:World)(hE0:Ext w0 w){v:Value}{R:List RecL}(hR:Rows 7 (RecAt w0) w v R)(hok:∀r∈R,zbs r)(hlen:R.length≤1000000000):
  Fn Tryz.prog 117 #[v] w (fun u w'=>Owns 7 (RecAt w0) w.heap.size w' 210 u (za3 R)∧Ext w w'):=by
 obtain⟨aR,cR,rfl,hcR,hgR⟩:=hR.open
 refine enter Tryz.func117 Tryz.ntmps117 rfl rfl ?_
 repeat refine c_r ?_
 refine rg0 ?_
 repeat refine c_r ?_
 refine rg0 ?_
 repeat refine c_r ?_
 refine rg0 ?_
 repeat refine c_r ?_
 refine zam (fun m σ ds A=>ds=[]∧∃(i:Nat) (vO:Value) (O:List RecL),i+m=R.length∧σ 4=vi i∧σ 0= .slice aR R.length cR∧σ 3=vO∧Owns 7 (RecAt w0) w.heap.size A 210 vO O∧O=zci zaC minT (fun x:RecL=>x) (R.take i) []∧Ext w A∧(∀o∈O,zbs o)∧O.length≤i) R.length ?_ ?_
 ·exact⟨rfl,0,_,[],by omega,vr0,vq0,vq0,Owns.nil _ _ _ _ _,rfl,Keep.refl _ _,fun o h=>absurd h (by simp),by simp⟩
 rintro m σ ds A ⟨rfl,i,vO,O,him,h4,h0,h3,hO,hOf,hEA,hOok,hOi⟩
 repeat refine c_r ?_
 refine rg2 h4 h0 ?_
 repeat refine c_r ?_
 refine wc0 ?_ ?_
 ·intro hlt
  simp only[decide_eq_true_eq]at hlt
  have hiR:i<R.length:=by omega
  have hi0:(0:Int)≤(i:Int):=by omega
  have hi1:(i:Int)<(R.length:Int):=by omega
  have hi1':(i:Int)+1=((i+1:Nat):Int):=by push_cast;rfl
  obtain⟨cr,hcr,hRr⟩:=hgR i hiR
  obtain⟨r,hr⟩:∃r,R[i]=r:=⟨_,rfl⟩
  rw[hr]at hRr
  have hrok:zbs r:=hr▸hok _ (List.getElem_mem hiR)
  obtain⟨xR,rfl⟩:=Option.isSome_iff_exists.1 (zaq hcr)
  have hf1:zci zaC minT (fun x:RecL=>x) (R.take (i+1)) []=putC zaC minT r O:=by
   rw[zap hiR,hr,hOf];unfold zci;rw[List.foldl_append];rfl
  have hn3:∀o∈putC zaC minT r O,zbs o:=zdY (fun x hx _=>⟨hx.lb,hx.len,hx.dat⟩) hrok hOok
  obtain⟨aO,cO,hvO,hcO,hgO⟩:=hO.rows.open
  rw[hvO]at h3 hO
  clear hvO
  repeat refine c_r ?_
  refine rg0 ?_
  repeat refine c_r ?_
  refine zam (fun m2 σ2 ds2 A2=>ds2=[]∧∃(k:Nat),k+m2=O.length∧σ2 5=vi k∧σ2 4=vi i∧σ2 0= .slice (some xR) R.length cR∧σ2 3= .slice aO O.length cO∧Ext A A2∧∀j (h:j<O.length),j<k→zaC O[j] r<0) O.length ?_ ?_
  ·exact⟨rfl,0,by omega,vr0,(vq1 h4),(vq1 h0),(vq1 h3),Keep.refl _ _,fun j h hj=>absurd hj (by omega)⟩
  clear h3 h4 h0
  rintro m2 σ ds A2 ⟨rfl,k,hkm,h5,h4,h0,h3,hE2,hlow⟩
  repeat refine c_r ?_
  refine zay (Q:=fun e σ' ds' v'=>e= .normal∧ds'=[]∧σ' 5=vi k∧σ' 4=vi i∧σ' 0= .slice (some xR) R.length cR∧σ' 3= .slice aO O.length cO∧Ext A2 v'∧σ' 28= .bool (tst O k fun x=>decide (zaC x r<0))) ?_ ?_
  ·by_cases hk:k<O.length
   ·rw[zdQ hk]
    obtain⟨ck,hck,hRk⟩:=hgO k hk
    obtain⟨xO,rfl⟩:=Option.isSome_iff_exists.1 (zaq hck)
    have hkd:decide ((k:Int)<(O.length:Int))=true:=decide_eq_true (by omega)
    have hk0:(0:Int)≤(k:Int):=by omega
    have hk1:(k:Int)<(O.length:Int):=by omega
    refine zaJ (fun _=>false) [(0,true),(1,true),(2,true),(3,true),(4,true),(5,true),(6,true),(7,true),(8,true),(9,true),(10,true),(11,true),(12,true),(13,false),(14,true),(15,true)] NoS mixed (by kernel_rfl) ?_;intro gd K x hgd hx hxe hK;clear hxe
    have hg4:∀n σ b,zav gd n σ (some (4,b))=zal (ev n σ (.tmp 17)) b:=(fun n σ b=>by rw[zac,show gd 4=some 17 from(by rw[hgd];rfl)];rfl)
    have d1:=zad (hE2.trans hx) hck
    have d2:=zad ((hEA.trans hE2).trans hx) hcr
    simp (disch:=first|omega|assumption|rfl) only[go_sem,h5,h4,h0,h3,hkd,decide_true,hk0,hk1,hi0,hi1,d1,d2,↓hg4]
    refine Fn.mono (zdE x _ _ O[k] r (hRk.ext (((hE0.trans hEA).trans hE2).trans hx)) (hRr.ext (((hE0.trans hEA).trans hE2).trans hx)) (hOok _ (List.getElem_mem hk)) hrok) ?_
    rintro _ x2 ⟨rfl,hx2⟩
    refine⟨.inr hx2,?_⟩
    simp (disch:=first|omega|assumption|rfl) only[go_sem,↓hg4]
    refine hK _ _ ?_;clear hK hgd;clear K;try clear gd
    exact⟨rfl,rfl,(vq1 h5),(vq1 h4),(vq1 h0),(vq1 h3),hx.trans hx2,vq0⟩
   ·rw[zej hk]
    have hkd:decide ((k:Int)<(O.length:Int))=false:=decide_eq_false (by omega)
    refine zaJ (fun _=>false) [(0,true),(1,true),(2,true),(3,true),(4,true),(5,true),(6,true),(7,true),(8,true),(9,true),(10,true),(11,true),(12,true),(13,false),(14,true),(15,true)] NoS mixed (by kernel_rfl) ?_;intro gd K x hgd hx hxe hK;clear hxe
    have hg4:∀n σ b,zav gd n σ (some (4,b))=zal (ev n σ (.tmp 17)) b:=(fun n σ b=>by rw[zac,show gd 4=some 17 from(by rw[hgd];rfl)];rfl)
    simp (disch:=first|omega|assumption|rfl) only[go_sem,h5,h4,h0,h3,hkd,↓hg4]
    refine hK _ _ ?_;clear hK hgd;clear K;try clear gd
    exact⟨rfl,rfl,(vq1 h5),(vq1 h4),(vq1 h0),(vq1 h3),hx,vq0⟩
  clear h5 h4 h0 h3
  rintro _ σ1 _ A3 ⟨rfl,rfl,h5,h4,h0,h3,hE3,h28⟩
  repeat refine c_r ?_
  refine zaH (t:=tst O k fun x=>decide (zaC x r<0)) ((vq1 h28)) ?_ ?_
  ·intro ht
   have hk:k<O.length:=Classical.byContradiction fun h=>by rw[zej h]at ht;cases ht
   rw[zdQ hk,decide_eq_true_eq]at ht
   have hk1':(k:Int)+1=((k+1:Nat):Int):=by push_cast;rfl
   repeat refine c_r ?_
   refine rg2 h5 hk1' ?_
   repeat refine c_r ?_
   refine⟨m2 - 1,by omega,rfl,k+1,by omega,vq0,(vq1 h4),(vq1 h0),(vq1 h3),hE2.trans hE3,fun j hj hjk=>?_⟩
   by_cases hj2:j=k
   ·subst hj2;exact ht
   ·exact hlow j hj (by omega)
  intro ht
  have hstop:∀h:k<O.length,¬zaC O[k] r<0:=fun h h2=>by
   rw[zdQ h]at ht
   exact of_decide_eq_false ht h2
  have hkO:k≤O.length:=by omega
  have hE23:=hE2.trans hE3
  clear h28 ht hE3 hE2
  repeat refine c_r ?_
  have hEA3:=hEA.trans hE23
  have hO3:=hO.ext hE23
  refine zay (Q:=fun e σ' ds' v'=>e= .normal∧ds'=[]∧σ' 5=vi k∧σ' 4=vi i∧σ' 0= .slice (some xR) R.length cR∧σ' 3= .slice aO O.length cO∧Ext A3 v'∧σ' 45= .bool (tst O k fun x=>decide (zaC x r=0))) ?_ ?_
  ·by_cases hk:k<O.length
   ·rw[zdQ hk]
    obtain⟨ck,hck,hRk⟩:=hgO k hk
    obtain⟨xO,rfl⟩:=Option.isSome_iff_exists.1 (zaq hck)
    have hkd:decide ((k:Int)<(O.length:Int))=true:=decide_eq_true (by omega)
    have hk0:(0:Int)≤(k:Int):=by omega
    have hk1:(k:Int)<(O.length:Int):=by omega
    refine zaJ (fun _=>false) [(0,true),(1,true),(2,true),(3,true),(4,true),(5,true),(6,true),(7,true),(8,true),(9,true),(10,true),(11,true),(12,true),(13,false),(14,true)] NoS mixed (by kernel_rfl) ?_;intro gd K x hgd hx hxe hK;clear hxe
    have hg4:∀n σ b,zav gd n σ (some (4,b))=zal (ev n σ (.tmp 35)) b:=(fun n σ b=>by rw[zac,show gd 4=some 35 from(by rw[hgd];rfl)];rfl)
    have d1:=zad (hE23.trans hx) hck
    have d2:=zad (hEA3.trans hx) hcr
    simp (disch:=first|omega|assumption|rfl) only[go_sem,h5,h4,h0,h3,hkd,decide_true,hk0,hk1,hi0,hi1,d1,d2,↓hg4]
    refine Fn.mono (ziQ x _ _ O[k] r (hRk.ext ((hE0.trans hEA3).trans hx)) (hRr.ext ((hE0.trans hEA3).trans hx)) (hOok _ (List.getElem_mem hk)) hrok) ?_
    rintro _ x2 ⟨rfl,hx2⟩
    refine⟨.inr hx2,?_⟩
    simp (disch:=first|omega|assumption|rfl) only[go_sem,↓hg4]
    refine hK _ _ ?_;clear hK hgd;clear K;try clear gd
    exact⟨rfl,rfl,(vq1 h5),(vq1 h4),(vq1 h0),(vq1 h3),hx.trans hx2,vq0⟩
   ·rw[zej hk]
    have hkd:decide ((k:Int)<(O.length:Int))=false:=decide_eq_false (by omega)
    refine zaJ (fun _=>false) [(0,true),(1,true),(2,true),(3,true),(4,true),(5,true),(6,true),(7,true),(8,true),(9,true),(10,true),(11,true),(12,true),(13,false),(14,true)] NoS mixed (by kernel_rfl) ?_;intro gd K x hgd hx hxe hK;clear hxe
    have hg4:∀n σ b,zav gd n σ (some (4,b))=zal (ev n σ (.tmp 35)) b:=(fun n σ b=>by rw[zac,show gd 4=some 35 from(by rw[hgd];rfl)];rfl)
    simp (disch:=first|omega|assumption|rfl) only[go_sem,h5,h4,h0,h3,hkd,↓hg4]
    refine hK _ _ ?_;clear hK hgd;clear K;try clear gd
    exact⟨rfl,rfl,(vq1 h5),(vq1 h4),(vq1 h0),(vq1 h3),hx,vq0⟩
  clear h5 h4 h0 h3
  rintro _ σ1 _ A4 ⟨rfl,rfl,h5,h4,h0,h3,hE4,h45⟩
  have hEA4:=hEA3.trans hE4
  have hO4:=hO3.ext hE4
  repeat refine c_r ?_
  refine zaH (t:=tst O k fun x=>decide (zaC x r=0)) ((vq1 h45)) ?_ ?_
  ·intro ht
   have hk:k<O.length:=Classical.byContradiction fun h=>by rw[zej h]at ht;cases ht
   rw[zdQ hk,decide_eq_true_eq]at ht
   have hput:=zi5 (jn:=minT) hk hlow ht
   obtain⟨ck,hck,hRk⟩:=hgO k hk
   obtain⟨xO,rfl⟩:=Option.isSome_iff_exists.1 (zaq hck)
   have hk0:(0:Int)≤(k:Int):=by omega
   have hk1:(k:Int)<(O.length:Int):=by omega
   rcases hO4.cases with ⟨hv0,_⟩| ⟨b,cap,LO,hvb,hbB,hbc,hbm,hSD,hLl,hLat⟩
   ·cases hv0
   have hxb:xO=⟨b,0,Option.none⟩:=by injection hvb with e;injection e
   have hcap:cO=cap:=by injection hvb
   subst hxb hcap
   have hgk:=hSD.get (j:=k) (by omega)
   have hRk:=hLat k (by omega) hk
   have f1:zae A4 (some ⟨b,k*7+1,Option.none⟩)=some (v32 (O[k]).ttl):=by
    have h1:=zb8 hgk (j:=1) (by rw[hRk.len];omega)
    have h2:=hRk.ttl
    rw[List.getElem?_eq_getElem (by rw[hRk.len];omega)]at h2
    rw[Option.some.inj h2]at h1;exact h1
   have f2:zae A4 (adr (adr (some xR) (i*7)) 1)=some (v32 r.ttl):=by
    have h1:=zb8 (zad hEA4 hcr) (j:=1) (by rw[hRr.len];omega)
    have h2:=hRr.ttl
    rw[List.getElem?_eq_getElem (by rw[hRr.len];omega)]at h2
    rw[Option.some.inj h2]at h1;exact h1
   obtain⟨xi,hxi⟩:∃xi,adr (some xR) (i*7)=some xi:=⟨_,rfl⟩
   rw[hxi]at f2
   repeat refine c_r ?_
   refine zaJ (fun _=>false) [(0,true),(1,true),(2,true),(3,true),(4,true),(5,true),(6,true),(7,true),(8,true),(9,true),(10,true)] NoS mixed (by kernel_rfl) ?_;intro gd K x hgd hx hxe hK;clear hxe
   have f1':=zaa hx f1
   have f2':=zaa hx f2
   simp (disch:=first|omega|assumption|rfl) only[go_sem,h5,h4,h0,h3,hk0,hk1,hi0,hi1,f1',f2',hxi,Nat.zero_add]
   refine hK _ _ ?_;clear hK hgd;clear K;try clear gd
   repeat refine c_r ?_
   have hnext:∀{v'},Ext w v'→SD 7 v' b 210 cO (LO.set k (LO[k].set 1 (v32 (min O[k].ttl r.ttl))))→Owns 7 (RecAt w0) w.heap.size v' 210 (.slice (some ⟨b,0,Option.none⟩) O.length cO) (putC zaC minT r O):=fun {v'} _ hD=>by
    rw[hput]
    have:=Owns.of_sd (C:=RecAt w0) (xs:=O.set k (minT O[k] r)) hD hbB (by simpa using hbc) hbm (by simp[hLl]) (all_set hLl hLat hRk.minT)
    simpa using this
   refine wc0 ?_ ?_
   ·intro hlt2
    simp only[decide_eq_true_eq]at hlt2
    have hmin:min O[k].ttl r.ttl=r.ttl:=Int.min_eq_right (by omega)
    rw[hmin]at hnext
    repeat refine c_r ?_
    refine rq ?_;intro gd K hgd hK
    have g2:=zaa hx f2
    try simp (disch:=first|omega|assumption|rfl) only[go_sem,h5,h4,h0,h3,hk0,hk1,hi0,hi1,g2,hxi,Nat.zero_add]
    refine SD.setAt (P:=Tryz.prog) (t:=199) (hSD.ext hx) (j:=k) (i:=1) (by omega) (by decide) rfl rfl rfl ?_
    intro v4 hv4 hL4 hk4
    try simp only[go_sem]
    refine hK _ _ ?_;clear hK hgd;clear K;try clear gd
    have hE5:Ext w v4:=Keep.to_ext (hEA4.trans hx) rfl (fun i hi=>by omega) hk4
    repeat refine c_r ?_
    refine rg2 h4 hi1' ?_
    repeat refine c_r ?_
    exact⟨m - 1,by omega,rfl,i+1,_,_,by omega,vq0,(vq1 h0),(vq1 h3),hnext hE5 hL4,hf1.symm,hE5,hn3,by rw[hput];simp;omega⟩
   ·intro hlt2
    simp only[decide_eq_false_iff_not]at hlt2
    have hmin:min O[k].ttl r.ttl=O[k].ttl:=Int.min_eq_left (by omega)
    rw[hmin]at hnext
    have hsame:LO[k].set 1 (v32 O[k].ttl)=LO[k]:=by
     have h2:=hRk.ttl
     apply List.ext_getElem?
     intro j
     rw[List.getElem?_set]
     split
     ·rename_i hj;subst hj
      rw[if_pos (by rw[hRk.len];omega),h2]
     ·rfl
    rw[hsame,List.set_getElem_self]at hnext
    repeat refine c_r ?_
    refine rg2 h4 hi1' ?_
    repeat refine c_r ?_
    exact⟨m - 1,by omega,rfl,i+1,_,_,by omega,vq0,(vq1 h0),(vq1 h3),hnext (hEA4.trans hx) (hSD.ext hx),hf1.symm,hEA4.trans hx,hn3,by rw[hput];simp;omega⟩
  ·intro ht
   have hmiss:∀h:k<O.length,¬zaC O[k] r<0∧¬zaC O[k] r=0:=fun h=>by
    rw[zdQ h,decide_eq_false_iff_not]at ht
    exact⟨hstop h,ht⟩
   have hput:=zhu (jn:=minT) hkO hlow hmiss
   have hk0:(0:Int)≤(k:Int):=by omega
   have hk1:(k:Int)≤(O.length:Int):=by omega
   have hcutlo:=hO4.rows.cut (lo:=0) (hi:=k) (by omega) hkO
   have hcuthi:=hO4.rows.cut (lo:=k) (hi:=O.length) hkO (Nat.le_refl _)
   rw[List.drop_zero,Nat.sub_zero]at hcutlo
   rw[List.take_of_length_le (by simp)]at hcuthi
   repeat refine c_r ?_
   refine zay (Q:=fun e σ' ds' v'=>e= .normal∧ds'=[]∧σ' 5=vi k∧σ' 4=vi i∧σ' 0= .slice (some xR) R.length cR∧σ' 3= .slice aO O.length cO∧Ext A4 v'∧∃xv,σ' 6=xv∧Owns 7 (RecAt w0) A4.heap.size v' 210 xv (O.take k++ [r])) ?_ ?_
   ·refine zic (fun _=>false) (.run [(1,true),(2,true),(3,true),(5,true),(6,true),(7,true),(8,true)] (.fork 4 [0,9] (fun i=>if i=0 then(.run [] (.fork 3 [4,9] (fun i=>if i=4 then(.run [(9,false),(10,false),(11,true)] .fin) else(.run [(4,false),(10,false),(11,true)] .fin)))) else(.run [(0,false),(4,false),(10,false),(11,true)] .fin)))) (zev A4.heap.size) mixed (by kernel_rfl) ?_;intro gd K x hgd hx hxe hK;clear hxe
    have hx0:Ext A4 x:=⟨hx.os,hx.tape,hx.output,hx.size,fun b hb _=>hx.block b hb (by unfold zev;omega),hx.drawn⟩
    have hxs:=hx.size
    have d2:=zad (hEA4.trans hx0) hcr
    simp (disch:=first|omega|assumption|rfl) only[go_sem,h5,h4,h0,h3,hk0,hk1,hi0,hi1,d2]
    refine⟨fun a ha hb=>by have:=zjr hcr (by decide) ha;have:=hEA4.size;unfold zev at hb;omega,?_⟩
    simp only[zbF,zb4];refine⟨?_,?_⟩
    ·simp (disch:=first|omega|assumption|rfl) only[go_sem]
     refine zlT (k:=7) (C:=RecAt w0) rfl rfl rfl rfl ?_
     intro w3 hE3 hs3 ho3
     refine⟨.inr hE3.keep,?_⟩
     simp (disch:=first|omega|assumption|rfl) only[go_sem]
     simp only[zbF,zb4];refine⟨?_,?_⟩
     ·simp (disch:=first|omega|assumption|rfl) only[go_sem]
      refine zaV (za6 w0) ho3 (hcutlo.ext (hx0.trans hE3)) rfl rfl rfl rfl rfl rfl (by decide) (vr0) (vr0) (by simp;omega) (by decide) (by omega) ?_
      intro v4 w4 ho4 hE4' hk4 _
      refine⟨.inr (hk4.mono fun b _ hb=>by have:=(ho3.ge hb).1;show _≤_;omega),?_⟩
      have hE4'':=hE4' _ hE3 (Nat.le_refl _)
      have hs4:=hk4.size
      simp (disch:=first|omega|assumption|rfl) only[go_sem]
      refine zbg (za6 w0) rfl rfl rfl rfl hRr (by decide) ?_
      intro w5 hE5 hs5 ho5
      refine⟨.inr hE5.keep,?_⟩
      simp (disch:=first|omega|assumption|rfl) only[go_sem]
      refine zaV (za6 w0) (ho4.ext hE5) ho5.rows rfl rfl rfl rfl rfl rfl (by decide) (vr0) (vr0) (by simp;omega) (by decide) (by omega) ?_
      intro v6 w6 ho6 hE6 hk6 _
      refine⟨.inr (hk6.mono fun b _ hb=>by have:=(ho4.ge hb).1;show _≤_;omega),?_⟩
      simp (disch:=first|omega|assumption|rfl) only[go_sem]
      refine hK _ _ ⟨rfl,rfl,(vq1 h5),(vq1 h4),(vq1 h0),(vq1 h3),hx0.trans (hE6 _ (hE4''.trans hE5) (Nat.le_refl _)),_,by simp only[go_sem];rfl,?_⟩
      exact ho6.mono hxs
     ·simp (disch:=first|omega|assumption|rfl) only[go_sem]
      refine zbg (za6 w0) rfl rfl rfl rfl hRr (by decide) ?_
      intro w5 hE5 hs5 ho5
      refine⟨.inr hE5.keep,?_⟩
      simp (disch:=first|omega|assumption|rfl) only[go_sem]
      refine zaV (za6 w0) (ho3.ext hE5) (hcutlo.ext ((hx0.trans hE3).trans hE5)) rfl rfl rfl rfl rfl rfl (by decide) (vr0) (vr0) (by simp;omega) (by decide) (by omega) ?_
      intro v4 w4 ho4 hE4' hk4 _
      have hs4:=hk4.size
      refine⟨.inr (hk4.mono fun b _ hb=>by have:=(ho3.ge hb).1;show _≤_;omega),?_⟩
      have ho5':=ho5.keep hk4 (fun b hb hb2=>by have:=(ho5.ge hb).1;have:=(ho3.ge hb2).2;omega)
      simp (disch:=first|omega|assumption|rfl) only[go_sem]
      refine zaV (za6 w0) ho4 ho5'.rows rfl rfl rfl rfl rfl rfl (by decide) (vr0) (vr0) (by simp;omega) (by decide) (by omega) ?_
      intro v6 w6 ho6 hE6 hk6 _
      refine⟨.inr (hk6.mono fun b _ hb=>by have:=(ho4.ge hb).1;show _≤_;omega),?_⟩
      simp (disch:=first|omega|assumption|rfl) only[go_sem]
      refine hK _ _ ⟨rfl,rfl,(vq1 h5),(vq1 h4),(vq1 h0),(vq1 h3),hx0.trans (hE6 _ (hE4' _ (hE3.trans hE5) (Nat.le_refl _)) (Nat.le_refl _)),_,by simp only[go_sem];rfl,?_⟩
      exact ho6.mono hxs
    ·simp (disch:=first|omega|assumption|rfl) only[go_sem]
     refine zbg (za6 w0) rfl rfl rfl rfl hRr (by decide) ?_
     intro w5 hE5 hs5 ho5
     refine⟨.inr hE5.keep,?_⟩
     simp (disch:=first|omega|assumption|rfl) only[go_sem]
     refine zlT (k:=7) (C:=RecAt w0) rfl rfl rfl rfl ?_
     intro w3 hE3 hs3 ho3
     refine⟨.inr hE3.keep,?_⟩
     simp (disch:=first|omega|assumption|rfl) only[go_sem]
     refine zaV (za6 w0) ho3 (hcutlo.ext ((hx0.trans hE5).trans hE3)) rfl rfl rfl rfl rfl rfl (by decide) (vr0) (vr0) (by simp;omega) (by decide) (by omega) ?_
     intro v4 w4 ho4 hE4' hk4 _
     refine⟨.inr (hk4.mono fun b _ hb=>by have:=(ho3.ge hb).1;show _≤_;omega),?_⟩
     have hE4'':=hE4' _ hE3 (Nat.le_refl _)
     have hs4:=hk4.size
     simp (disch:=first|omega|assumption|rfl) only[go_sem]
     refine zaV (za6 w0) ho4 (ho5.ext hE4'').rows rfl rfl rfl rfl rfl rfl (by decide) (vr0) (vr0) (by simp;omega) (by decide) (by omega) ?_
     intro v6 w6 ho6 hE6 hk6 _
     refine⟨.inr (hk6.mono fun b _ hb=>by have:=(ho4.ge hb).1;show _≤_;omega),?_⟩
     simp (disch:=first|omega|assumption|rfl) only[go_sem]
     refine hK _ _ ⟨rfl,rfl,(vq1 h5),(vq1 h4),(vq1 h0),(vq1 h3),hx0.trans (hE6 _ (hE5.trans hE4'') (by omega)),_,by simp only[go_sem];rfl,?_⟩
     exact ho6.mono (by omega)
   clear h5 h4 h0 h3
   rintro _ σ6 _ v6 ⟨rfl,rfl,h5,h4,h0,h3,hE6,xv,h6,hox⟩
   repeat refine c_r ?_
   refine rq ?_;intro gd K hgd hK
   try simp (disch:=first|omega|assumption|rfl) only[go_sem,h5,h4,h0,h3,h6,hk0,hk1]
   refine zaV (za6 w0) hox (hcuthi.ext hE6) rfl rfl rfl rfl rfl rfl (by decide) ((vq1 h6)) (vr0) (by simp;omega) (by decide) hE6.size ?_
   intro v7 w7 ho7 hE7 _ _
   have hE7':=hE7 _ hE6 (Nat.le_refl _)
   try simp only[go_sem]
   refine hK _ _ ?_;clear hK hgd;clear K;try clear gd
   repeat refine c_r ?_
   refine rg2 h4 hi1' ?_
   repeat refine c_r ?_
   exact⟨m - 1,by omega,rfl,i+1,v7,putC zaC minT r O,by omega,vq0,(vq1 h0),vq0,by rw[hput];exact ho7.mono hEA4.size,hf1.symm,hEA4.trans hE7',hn3,by rw[hput];simp;omega⟩
 ·intro hge
  simp only[decide_eq_false_iff_not]at hge
  have hiR:i=R.length:=by omega
  rw[hiR,List.take_length]at hOf
  repeat refine c_r ?_
  refine rg1 h3 ?_
  repeat refine c_r ?_
  refine rt1 h3 Tryz.ntmps117 ?_
  have hfin:O=za3 R:=hOf
  rw[←hfin]
  exact⟨hO,hEA⟩
def isL(o:Nm)(t:Int)(r:RecL):Bool:=decide (t=r.dat.ty) && decide (zaj o=zaj r.owner)
structure SetL where
 owner:Nm
 ty:Int
 ttl:Int
 data:List DatL
def mkS(r:RecL)(l:List RecL):SetL:=⟨r.owner,r.dat.ty,l.foldl (fun t x=>min t x.ttl) r.ttl,l.map RecL.dat⟩
def grpF:Nat→List RecL→List SetL
 |0,_=>[]
 |_,[]=>[]
 |n+1,r::l=>mkS r ((r::l).takeWhile (isL r.owner r.dat.ty))::grpF n ((r::l).dropWhile (isL r.owner r.dat.ty))
def grp(l:List RecL):List SetL:=grpF l.length l
theorem zgO(r:RecL):isL r.owner r.dat.ty r=true:=by simp[isL]
theorem zhS:∀(n m:Nat) (l:List RecL),l.length≤n→l.length≤m→grpF n l=grpF m l
 |0,0,_,_,_=>rfl
 |0,m+1,l,h,_=>by
  have:l=[]:=List.length_eq_zero_iff.1 (by omega)
  subst this;rfl
 |n+1,0,l,_,h=>by
  have:l=[]:=List.length_eq_zero_iff.1 (by omega)
  subst this;rfl
 |n+1,m+1,[],_,_=>rfl
 |n+1,m+1,r::l,h1,h2=>by
  simp only[List.length_cons]at h1 h2
  have hd:((r::l).dropWhile (isL r.owner r.dat.ty)).length≤l.length:=by
   rw[List.dropWhile_cons_of_pos (zgO r)]
   exact(List.dropWhile_sublist _).length_le
  simp only[grpF]
  rw[zhS n m _ (by omega) (by omega)]
theorem zgQ(r:RecL)(l:List RecL):grp (r::l)=mkS r ((r::l).takeWhile (isL r.owner r.dat.ty))::grp ((r::l).dropWhile (isL r.owner r.dat.ty)):=by
 have hd:((r::l).dropWhile (isL r.owner r.dat.ty)).length≤l.length:=by
  rw[List.dropWhile_cons_of_pos (zgO r)]
  exact(List.dropWhile_sublist _).length_le
 unfold grp
 show grpF (l.length+1) (r::l)=_
 simp only[grpF]
 rw[zhS l.length ((r::l).dropWhile (isL r.owner r.dat.ty)).length _ hd (Nat.le_refl _)]
theorem zlr:grp []=[]:=rfl
theorem zf1{α:Type}{p:α→Bool}{l:List α}{n:Nat}(hn:n≤l.length)(h:∀j (hj:j<l.length),j<n→p l[j]=true)(hs:∀h:n<l.length,p l[n]=false):l.takeWhile p=l.take n∧l.dropWhile p=l.drop n:=by
 have h1:∀x∈l.take n,p x=true:=fun x hx=>by
  obtain⟨j,hj,rfl⟩:=List.getElem_of_mem hx
  rw[List.getElem_take]
  simp at hj
  exact h j (by omega) (by omega)
 constructor
 ·conv=>lhs;rw[←List.take_append_drop n l]
  rw[List.takeWhile_append_of_pos h1]
  by_cases hlt:n<l.length
  ·rw[List.drop_eq_getElem_cons hlt,List.takeWhile_cons_of_neg (by rw[hs hlt];exact Bool.false_ne_true),List.append_nil]
  ·rw[List.drop_eq_nil_of_le (by omega)];simp
 ·conv=>lhs;rw[←List.take_append_drop n l]
  rw[List.dropWhile_append_of_pos h1]
  by_cases hlt:n<l.length
  ·rw[List.drop_eq_getElem_cons hlt,List.dropWhile_cons_of_neg (by rw[hs hlt];exact Bool.false_ne_true)]
  ·rw[List.drop_eq_nil_of_le (by omega)];simp
def ofC(R:List RecL)(o:Nm)(t:Int):List RecL:=za3 (R.filter (isL o t))
theorem zhV{β:Type}{cf:RecL→RecL→Int}{jn:RecL→RecL→RecL}{p:β→RecL}{Q:RecL→Prop}(hj:∀x r,Q x→Q r→cf x r=0→Q (jn x r)):∀(l:List β) (acc:List RecL),(∀x∈l,Q (p x))→(∀x∈acc,Q x)→∀x∈zci cf jn p l acc,Q x
 | [],_,_,h=>h
 |r::l,acc,hl,ha=>zhV hj l _ (fun x hx=>hl x (List.mem_cons_of_mem _ hx)) (zdY (fun x hx h0=>hj x (p r) hx (hl r (List.mem_cons_self ..)) h0) (hl r (List.mem_cons_self ..)) ha)
theorem zbQ{Q:RecL→Prop}(hQ:∀a b,Q a→Q (minT a b)){l:List RecL}(h:∀x∈l,Q x):∀x∈za3 l,Q x:=
 zhV (fun x r hx _ _=>hQ x r hx) l [] h (fun x hx=>absurd hx (by simp))
theorem zdp:∀(l:List RecL),(za3 l).length≤l.length:=by
 have h1:∀(r:RecL) (O:List RecL),(putC zaC minT r O).length≤O.length+1:=fun r O=>by
  induction O with
  |nil=>simp[putC]
  |cons x O ih=>
   simp only[putC]
   split
   ·simp;omega
   ·split<;>simp
 have h2:∀(l acc:List RecL),(zci zaC minT (fun r=>r) l acc).length≤acc.length+l.length:=fun l=>by
  induction l with
  |nil=>intro acc;simp[zci]
  |cons r l ih=>
   intro acc
   have:=ih (putC zaC minT r acc)
   have:=h1 r acc
   show(zci zaC minT (fun r=>r) l (putC zaC minT r acc)).length≤_
   simp only[List.length_cons];omega
 intro l
 have h3:(za3 l).length≤([]:List RecL).length+l.length:=h2 l []
 simpa using h3
theorem ofC_is{R:List RecL}{o:Nm}{t:Int}:∀x∈ofC R o t,isL o t x=true:=by
 unfold ofC
 exact zbQ (fun a b h=>h) (fun x hx=>(List.mem_filter.1 hx).2)
theorem zhU{l:List RecL}:∀(acc:List RecL),acc.Pairwise (fun a b=>zaC a b<0)→(zci zaC minT (fun r=>r) l acc).Pairwise (fun a b=>zaC a b<0):=by
 induction l with
 |nil=>exact fun acc h=>h
 |cons r l ih=>exact fun acc h=>ih _ (zcd cpr_R zll h)
abbrev zkh(R:List RecL):Prop:=R.Pairwise (fun a b=>zaC a b<0)
theorem zg2(l:List RecL):zkh (za3 l):=zhU [] List.Pairwise.nil
theorem putC_app{r:RecL}{O:List RecL}(h:∀x∈O,zaC x r<0):putC zaC minT r O=O++ [r]:=by
 induction O with
 |nil=>rfl
 |cons x O ih=>
  simp only[putC]
  rw[if_pos (h x (List.mem_cons_self ..)),ih (fun y hy=>h y (List.mem_cons_of_mem _ hy))];rfl
theorem zlQ{R:List RecL}(h:zkh R):za3 R=R:=by
 have:∀(l acc:List RecL),zkh (acc++l)→zci zaC minT (fun r=>r) l acc=acc++l:=fun l=>by
  induction l with
  |nil=>intro acc _;simp[zci]
  |cons r l ih=>
   intro acc hs
   show zci zaC minT (fun r=>r) l (putC zaC minT r acc)=_
   have h1:=(List.pairwise_append.1 hs).2.2
   rw[putC_app (fun x hx=>h1 x hx r (List.mem_cons_self ..)),ih (acc++ [r]) (by simpa using hs)]
   simp
 exact this R [] h
theorem zjO{R:List RecL}(h:zkh R)(o:Nm)(t:Int):ofC R o t=R.filter (isL o t):=zlQ (h.filter _)
theorem grp_one{o:Nm}{t:Int}{r:RecL}{l:List RecL}(h:∀x∈r::l,isL o t x=true):grp (r::l)=[mkS r (r::l)]:=by
 have hr:=h r (List.mem_cons_self ..)
 simp only[isL,Bool.and_eq_true,decide_eq_true_eq]at hr
 have h2:∀x∈r::l,isL r.owner r.dat.ty x=true:=fun x hx=>by
  have:=h x hx
  simp only[isL,Bool.and_eq_true,decide_eq_true_eq]at this ⊢
  exact⟨hr.1.symm.trans this.1,hr.2.symm.trans this.2⟩
 obtain⟨e1,e2⟩:=zf1 (p:=isL r.owner r.dat.ty) (l:=r::l) (n:=(r::l).length) (Nat.le_refl _) (fun j hj _=>h2 _ (List.getElem_mem hj)) (fun h=>absurd h (by omega))
 rw[zgQ,e1,e2]
 rw[List.take_length,List.drop_length];rfl
def IterT{α:Type}(P:Program)(g:FuncId)(cap:Array Value)(W0:World)(n0:Nat)(C T:Nat→Prop)(own:Nat)(Pre:List α→α→Prop)(Full:List α→Prop)(enc:Nat→α→World→Array Value→Prop):Prop:=
 ∀(l:Nat) (J Jx:List α→World→Prop) (W:World),Ext W0 W→n0≤W.heap.size→
  (∀pre A B,J pre A→Keep (fun b=>span W.heap.size own b∨T b) A B→J pre B)→(∀pre A B,Jx pre A→Keep (fun b=>span W.heap.size own b∨T b) A B→Jx pre B)→
  (∀pre x A args,Pre pre x→J pre A→W.heap.size+own≤A.heap.size→KeepB n0 (fun b=>C b∨T b) W A→enc W.heap.size x A args→Yld P l args A (fun v B=>
   (v= .bool true∧J (pre++ [x]) B∧KeepB n0 C A B∧∀b,span W.heap.size own b→B.heap[b]? =A.heap[b]?)∨(v= .bool false∧Jx (pre++ [x]) B)))→
  J [] W→Fn P g (#[.func (.yield l) #[] #[]]++cap) W (fun _ B=>(∃xs,Full xs∧J xs B)∨∃pre x,Pre pre x∧Jx (pre++ [x]) B)
theorem W_rangeT{α:Type}{P:Program}{n:Nat}{f:Operand}{ps:Array Tmp}{assign body:Code}{Q:Post}{σ:Sto}{ds:List Deferred}{w:World}
  {g:FuncId} {cap:Array Value} {W0:World} {n0:Nat} {C T:Nat→Prop} {own:Nat} {Pre:List α→α→Prop} {Full:List α→Prop} {enc:Nat→α→World→Array Value→Prop}
  (hf:ev n σ f= .func (.func g) #[] cap) (hc:zan P g=true) (hit:IterT P g cap W0 n0 C T own Pre Full enc) (hW0:Ext W0 w) (hn0:n0≤w.heap.size) (hCn:∀b,C b→b<w.heap.size) (hTn:∀b,T b→b<w.heap.size)
  (henc:∀x A args,enc (w.heap.size+2) x A args→args.size=ps.size)
  (I:List α→World→Prop) (Ix:Code→List α→World→Prop)
  (hI:∀pre A B,I pre A→Keep (fun b=>span w.heap.size (2+own) b∨T b) A B→I pre B)
  (hIx:∀c pre A B,Ix c pre A→Keep (fun b=>span w.heap.size (2+own) b∨T b) A B→Ix c pre B)
  (h0:I [] w)
  (hround:∀(l:Nat) (pre:List α) (x:α) (A:World) (args:Array Value),Pre pre x→w.heap.size+2+own≤A.heap.size→I pre A→enc (w.heap.size+2) x A args→
   W P (some l) n assign (zdv (fun σ1 ds1 A1=>ds1=[]∧KeepB (w.heap.size+2+own) C A A1∧∀A2,Keep (two w.heap.size) A1 A2→W P (some l) n body (zkE I Ix (w.heap.size+2+own) C (pre++ [x]) A2) σ1 [] A2) (fun _ _ _ _=>False))
    (zdF σ (ps.zip args).toList) [] A)
  (hdone:∀xs w',Full xs→w.heap.size+2≤w'.heap.size→I xs w'→w'.heap[w.heap.size]? =some (.deferred (some []))→Q .normal σ ({target:= .collected w.heap.size,args:=#[]}::ds) w')
  (hstop:∀c pre x w',w.heap.size+2≤w'.heap.size→Pre pre x→Ix c (pre++ [x]) w'→w'.heap[w.heap.size]? =some (.deferred (some []))→
   W P Option.none n c Q σ ({target:= .collected w.heap.size,args:=#[]}::ds) w'):
  W P Option.none n (.rangeFunc f ps assign body) Q σ ds w:=by
 refine wpIn_rangeFunc ?_
 intro fn _
 generalize hrec:zeO fn (act n σ ds).tmps ps assign body w.heap.size=rec
 obtain⟨W1,hW1⟩:∃W1,(w.alloc (.deferred (some []))).alloc (.loop (rec .ready Option.none))=W1:=⟨_,rfl⟩
 have hsz1:W1.heap.size=w.heap.size+2:=by rw[←hW1];simp
 have hL1:W1.heap[w.heap.size+1]? =some (.loop (rec .ready Option.none)):=by
  rw[←hW1];have:=World.alloc_heap_new (w.alloc (.deferred (some []))) (.loop (rec .ready Option.none));rwa [World.size_alloc]at this
 have hK1:W1.heap[w.heap.size]? =some (.deferred (some [])):=by
  rw[←hW1];exact(RowKit.Below.heap_alloc _ _ _ (by simp)).trans (World.alloc_heap_new w _)
 have hE1:Ext w W1:=by rw[←hW1];exact(Ext.alloc w _).trans (Ext.alloc _ _)
 have hI1:I [] W1:=hI _ _ _ h0 (hE1.mono (fun _ _ h=>h.elim))
 have hl2:two w.heap.size (w.heap.size+1):= .inr rfl
 have hl2':span w.heap.size (2+own) (w.heap.size+1):=by unfold span;omega
 refine⟨w.heap.size+1,[{target:= .collected w.heap.size,args:=#[]}],W1,{target:= .fn (.func g) cap,args:=#[.func (.yield (w.heap.size+1)) #[] #[]]},W1,g,
  #[.func (.yield (w.heap.size+1)) #[] #[]]++cap,W1,?_,?_,?_,?_,zdk,?_⟩
 ·rw[←hW1,←hrec];exact run_enterLoop_outer _ _ _ _ _
 ·simp only[resolve,zcn,hf]
  simp[Deferred.ofValue,ev]
 ·intro f' hf';trivial
 ·simp only[invoke];exact zbU hc
 ·-- the iterator's contract
  have hsp:∀{n:Nat} b,b<n→(span W1.heap.size own b∨T b)→(span w.heap.size (2+own) b∨T b):=fun b _ h=>h.imp (fun h=>by unfold span at*;omega) id
  have hno:∀b,two w.heap.size b→¬(span W1.heap.size own b∨T b):=fun b hb h=>by
   rcases h with h|h
   ·unfold span at h;unfold two at hb;omega
   ·have:=hTn _ h;unfold two at hb;omega
  have hCl:∀b,two w.heap.size b→¬C b:=fun b hb hcb=>by have:=hCn b hcb;rcases hb with rfl|rfl<;>omega
  refine zcM (CallsIn.mono (hit (w.heap.size+1)
   (fun pre B=>I pre B∧w.heap.size+2≤B.heap.size∧B.heap[w.heap.size+1]? =some (.loop (rec .ready Option.none))∧B.heap[w.heap.size]? =some (.deferred (some [])))
   (fun pre B=>∃c,Ix c pre B∧w.heap.size+2≤B.heap.size∧B.heap[w.heap.size+1]? =some (.loop (rec .done (some c)))∧B.heap[w.heap.size]? =some (.deferred (some [])))
   W1 (hW0.trans hE1) (by omega) ?_ ?_ ?_ ⟨hI1,by omega,hL1,hK1⟩) ?_)
  ·rintro pre A B ⟨hi,hs,hl,hk⟩ hAB
   exact⟨hI _ _ _ hi (hAB.mono hsp),Nat.le_trans hs hAB.size,(hAB.block _ (by omega) (hno _ hl2)).trans hl,(hAB.block _ (by omega) (hno _ (.inl rfl))).trans hk⟩
  ·rintro pre A B ⟨c,hi,hs,hl,hk⟩ hAB
   exact⟨c,hIx _ _ _ _ hi (hAB.mono hsp),Nat.le_trans hs hAB.size,(hAB.block _ (by omega) (hno _ hl2)).trans hl,(hAB.block _ (by omega) (hno _ (.inl rfl))).trans hk⟩
  ·-- one round
   rintro pre x A args hxs ⟨hi,hs,hl,hk⟩ hsA _ hx
   rw[hsz1]at hx
   have hy:=run_yield (P:=P) (args:=args) hl (by rw[←hrec];exact henc x A args hx)
   unfold Yld zg3
   dsimp only
   rw[show (#[]++args:Array Value)=args from by simp]
   rw[hy,←hrec]
   dsimp only[zeO,opR]
   refine zcD (r:=Option.none) (n:=0) (roundIn_of_wpIn (F:=fw Option.none) (n:=0) trivial ?_)
   have hin:(fw Option.none).inRound (w.heap.size+1)=fw (some (w.heap.size+1)):=rfl
   rw[hin]
   have hfold:(ps.zip args).foldl (fun t (x:Tmp×Value)=>t.setIfInBounds x.1 x.2) (act n σ ds).tmps=(act n (zdF σ (ps.zip args).toList) []).tmps:=by
    rw[←Array.foldl_toList]
    exact zcH n ds _ σ
   have hst:({tmps:=(ps.zip args).foldl (fun t (x:Tmp×Value)=>t.setIfInBounds x.1 x.2) (act n σ ds).tmps,defers:=[]}:Act)=act n (zdF σ (ps.zip args).toList) []:=by
    rw[hfold];rfl
   have hr:=hround (w.heap.size+1) pre x A args hxs (by omega) hi hx
   unfold W at hr
   rw[←hst]at hr
   refine wpIn_mono hr ?_
   rintro e a A1 ⟨σ1,ds1,rfl,hq⟩
   cases e with
   |normal=>
    obtain⟨rfl,hA1,hbody⟩:=hq
    have hlA1:A1.heap[w.heap.size+1]? =some (.loop (rec .ready Option.none)):=(hA1.block _ (by omega) (hCl _ hl2)).trans hl
    have hkA1:A1.heap[w.heap.size]? =some (.deferred (some [])):=(hA1.block _ (by omega) (hCl _ (.inl rfl))).trans hk
    have hlt1:w.heap.size+1<A1.heap.size:=(Array.getElem?_eq_some_iff.1 hlA1).1
    refine⟨_,run_beginRound hlA1 (by rw[←hrec];rfl),?_⟩
    have hb:=hbody _ (zaF (w:=A1) (r:=w.heap.size+1) (o:= .loop {rec .ready Option.none with state:= .busy}) hl2)
    refine wpIn_mono hb ?_
    have hlA2:(A1.putObj (w.heap.size+1) (.loop {rec .ready Option.none with state:= .busy})).heap[w.heap.size+1]? =some (.loop {rec .ready Option.none with state:= .busy}):=World.putObj_heap_same hlt1
    have hkA2:(A1.putObj (w.heap.size+1) (.loop {rec .ready Option.none with state:= .busy})).heap[w.heap.size]? =some (.deferred (some [])):=(World.putObj_heap_other (by omega)).trans hkA1
    have fin:∀(jump:Option Code) (B:World),KeepB (w.heap.size+2+own) C (A1.putObj (w.heap.size+1) (.loop {rec .ready Option.none with state:= .busy})) B→
      (Instr.endRound (w.heap.size+1) jump).run P B= .ok (.bool jump.isNone) (B.putObj (w.heap.size+1) (.loop (rec (if jump.isNone then .ready else .done) jump)))∧
      w.heap.size+2≤(B.putObj (w.heap.size+1) (.loop (rec (if jump.isNone then .ready else .done) jump))).heap.size∧
      (B.putObj (w.heap.size+1) (.loop (rec (if jump.isNone then .ready else .done) jump))).heap[w.heap.size+1]? =some (.loop (rec (if jump.isNone then .ready else .done) jump))∧
      (B.putObj (w.heap.size+1) (.loop (rec (if jump.isNone then .ready else .done) jump))).heap[w.heap.size]? =some (.deferred (some []))∧
      KeepB n0 C A (B.putObj (w.heap.size+1) (.loop (rec (if jump.isNone then .ready else .done) jump)))∧
      ∀b,span W1.heap.size own b→(B.putObj (w.heap.size+1) (.loop (rec (if jump.isNone then .ready else .done) jump))).heap[b]? =A.heap[b]?:=by
     intro jump B hB
     have hlB:=(hB.block _ (by omega) (hCl _ hl2)).trans hlA2
     have hkB:=(hB.block _ (by omega) (hCl _ (.inl rfl))).trans hkA2
     have hltB:w.heap.size+1<B.heap.size:=(Array.getElem?_eq_some_iff.1 hlB).1
     refine⟨?_,by simp;omega,World.putObj_heap_same hltB,(World.putObj_heap_other (by omega)).trans hkB,?_,?_⟩
     ·have:=run_endRound (P:=P) jump hlB
      rw[←hrec]at this ⊢
      exact this
     ·refine(hA1.mono (by omega) (fun _ _ h=>h)).trans (KeepB.trans ?_ ((hB.mono (by omega) (fun _ _ h=>h)).trans ?_))
      ·exact(zaF (S:=two w.heap.size) hl2).toB (by omega) (fun i hi hs=>by rcases hs with rfl|rfl<;>omega)
      ·exact(zaF (S:=two w.heap.size) hl2).toB (by omega) (fun i hi hs=>by rcases hs with rfl|rfl<;>omega)
     ·intro b hb
      unfold span at hb
      have hCb:¬C b:=fun h=>by have:=hCn b h;omega
      exact(World.putObj_heap_other (by omega)).trans ((hB.block b (by omega) hCb).trans ((World.putObj_heap_other (by omega)).trans (hA1.block b (by omega) hCb)))
    rintro e a B ⟨σ2,ds2,rfl,hq⟩
    cases e with
    |normal=>
     obtain⟨hi',hB⟩:=hq
     obtain⟨h1,h2,h3,h4,h5,h6⟩:=fin Option.none B hB
     exact⟨_,_,h1,_,rfl,.inl ⟨rfl,⟨hI _ _ _ hi' (zaF (.inl hl2')),h2,h3.trans (by rw[←hrec];rfl),h4⟩,h5,h6⟩⟩
    |ret=>
     obtain⟨hi',hB⟩:=hq
     obtain⟨h1,h2,h3,h4,h5,_⟩:=fin (some .ret) B hB
     exact⟨_,_,h1,_,rfl,.inr ⟨rfl,_,hIx _ _ _ _ hi' (zaF (.inl hl2')),h2,h3.trans (by rw[←hrec];rfl),h4⟩⟩
    |exit id=>
     obtain⟨hi',hB⟩:=hq
     obtain⟨h1,h2,h3,h4,h5,_⟩:=fin (some (.exit id)) B hB
     exact⟨_,_,h1,_,rfl,.inr ⟨rfl,_,hIx _ _ _ _ hi' (zaF (.inl hl2')),h2,h3.trans (by rw[←hrec];rfl),h4⟩⟩
    |goto t=>
     obtain⟨hi',hB⟩:=hq
     obtain⟨h1,h2,h3,h4,h5,_⟩:=fin (some (.goto t)) B hB
     exact⟨_,_,h1,_,rfl,.inr ⟨rfl,_,hIx _ _ _ _ hi' (zaF (.inl hl2')),h2,h3.trans (by rw[←hrec];rfl),h4⟩⟩
    |panic c=>exact hq.elim
    |outgrown=>exact hq.elim
   |ret=>exact hq.elim
   |exit id=>exact hq.elim
   |goto t=>exact hq.elim
   |panic c=>exact hq.elim
   |outgrown=>exact hq.elim
  ·rintro e B ⟨v,rfl,h⟩
   rcases h with ⟨xs,hfull,hi,hs,hl,hk⟩| ⟨pre,x,hxs,c,hi,hs,hl,hk⟩
   ·have hend:=run_endLoop (P:=P) hl (by rw[←hrec];simp[zeO])
    have hp:(rec LoopState.ready Option.none).pending=Option.none:=by rw[←hrec];rfl
    rw[hp]at hend
    refine⟨Option.none,_,hend,?_⟩
    exact⟨σ,_,rfl,hdone xs _ hfull (by simp;omega) (hI _ _ _ hi (zaF (.inl hl2'))) ((World.putObj_heap_other (by omega)).trans hk)⟩
   ·have hend:=run_endLoop (P:=P) hl (by rw[←hrec];simp[zeO])
    have hp:(rec LoopState.done (some c)).pending=some c:=by rw[←hrec];rfl
    rw[hp]at hend
    refine⟨some c,_,hend,?_⟩
    exact hstop c pre x _ (by simp;omega) hxs (hIx _ _ _ _ hi (zaF (.inl hl2'))) ((World.putObj_heap_other (by omega)).trans hk)
end Go.Proofs.YtahbdamijngmmaaGreat
namespace Go.Proofs.YtahbdamijngmmaaGreat.P_cd
open Go Go.Proofs.YtahbdamijngmmaaGreat
set_option maxRecDepth 10000
theorem Clip_ok{w:World}{a:Option Addr}{n c:Nat}(hc:n≤c):Fn Tryz.prog 283 #[.slice a n c] w (fun u w'=>u= .slice a n n∧w'=w):=by
 refine enter Tryz.func283 Tryz.ntmps283 rfl rfl ?_
 repeat refine c_r ?_
 refine rg0 ?_
 repeat refine c_r ?_
 refine rq ?_;intro gd K hgd hK
 try simp only[go_sem]
 have hcl:slD Tryz.prog (some (TypeDesc.slice 197)) (Value.slice a n c) Option.none (some (Value.int IntKind.i64 ↑n)) (some (Value.int IntKind.i64 ↑n))=some (.slice a n n):=zdU hc (by rfl)
 rw[hcl]
 try simp only[go_sem]
 refine hK _ _ ?_;clear hK hgd;clear K;try clear gd
 repeat refine c_r ?_
 refine rt0 Tryz.ntmps283 ?_
 exact⟨rfl,rfl⟩
end Go.Proofs.YtahbdamijngmmaaGreat.P_cd
namespace Go.Proofs.YtahbdamijngmmaaGreat
open Go
set_option maxRecDepth 10000
theorem is_ok(w:World)(ow tl dv:Value)(o:Nm)(t:Int)(cr:List Value)(r:RecL)(ho:Row w ow (o.map vs))(hr:RecAt w cr r)(hlo:LB o)(hlen:o.length≤1000000000000000)(hok:zbs r):
  Fn Tryz.prog 280 #[.agg #[ow,vi t,tl,dv],.agg cr.toArray] w (fun v w'=>v= .bool (isL o t r)∧Ext w w'):=by
 obtain⟨ow2,ds,rfl,a1,a2⟩:=hr.ex
 obtain⟨nm,nu,tx,rw',rfl,_⟩:=a2.ex
 refine enter Tryz.func280 Tryz.ntmps280 rfl rfl ?_
 repeat refine c_r ?_
 refine rg0 ?_
 repeat refine c_r ?_
 rw[zai]
 refine zaO ?_
 intro w1 hE1 hs1 hA hB
 have p0:zae w1 (some ⟨w.heap.size,0,Option.none⟩)=some ow:=zab hA rfl
 have p1:zae w1 (some ⟨w.heap.size,1,Option.none⟩)=some (vi t):=zab hA rfl
 have q0:zae w1 (some ⟨w.heap.size+1,0,Option.none⟩)=some ow2:=zab hB rfl
 have q2:zae w1 (some ⟨w.heap.size+1,2,Option.none⟩)=some (vi r.dat.ty):=zab hB rfl
 by_cases ht:t=r.dat.ty
 ·refine rq ?_;intro gd K hgd hK
  have hg6:∀n σ b,zav gd n σ (some (6,b))=zal (ev n σ (.tmp 11)) b:=(fun n σ b=>by rw[zac,show gd 6=some 11 from(by rw[hgd];rfl)];rfl)
  try simp (disch:=first|omega|assumption|rfl) only[go_sem,p0,p1,q0,q2,Nat.add_zero,decide_eq_true ht,↓hg6]
  refine Fn.mono (zew _ _ _ _ _ (ho.ext hE1) (a1.ext hE1) hlo hok.lb (by omega) (by have:=hok.len;omega)) ?_
  rintro _ w2 ⟨rfl,hE2⟩
  try simp only[go_sem]
  refine hK _ _ ?_;clear hK hgd;clear K;try clear gd
  repeat refine c_r ?_
  refine rt0 Tryz.ntmps280 ?_
  refine⟨?_,hE1.trans hE2⟩
  unfold isL
  rw[decide_eq_true ht,Bool.true_and]
 ·refine rq ?_;intro gd K hgd hK
  have hg6:∀n σ b,zav gd n σ (some (6,b))=zal (ev n σ (.tmp 11)) b:=(fun n σ b=>by rw[zac,show gd 6=some 11 from(by rw[hgd];rfl)];rfl)
  try simp (disch:=first|omega|assumption|rfl) only[go_sem,p0,p1,q0,q2,Nat.add_zero,decide_eq_false ht,↓hg6]
  refine hK _ _ ?_;clear hK hgd;clear K;try clear gd
  repeat refine c_r ?_
  refine rt0 Tryz.ntmps280 ?_
  refine⟨?_,hE1⟩
  unfold isL
  rw[decide_eq_false ht,Bool.false_and]
end Go.Proofs.YtahbdamijngmmaaGreat
