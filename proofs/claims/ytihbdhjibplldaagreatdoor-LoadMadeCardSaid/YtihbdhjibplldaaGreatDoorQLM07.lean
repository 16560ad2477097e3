/-
  Texts of a proof, joined: JL, JM, JN, JO, JP, JQ, HQ, HR, HS, HT, HU, HW, HV, KR, KR5, KR6, E6, E7, E8, B3, K24, E9, E10, F2, Y4, F3, F4, Y5, F5, E11, E12, E13, F6, F7, F8, F9, G0, G1, G2, G3, G4, G5, HX, K26, JR, JS, JT, JU, LF, ND, JY, JZ, NA.
  Conditions: none.
-/
import Derived.Test.YtihbdhjibplldaaGreatDoorQLM06
import Derived.Test.YtihbdhjibplldaaGreatDoorQLM04
import Derived.Test.YtihbdhjibplldaaGreatDoorQLM02
import Derived.Test.YtihbdhjibplldaaGreatDoorQLM03
import Derived.Test.YtihbdhjibplldaaGreatDoorQLM05
import Derived.MapFrom
import Derived.Test.YtihbdhjibplldaaGreatDoorQLM01
set_option linter.unusedVariables false
set_option linter.unusedSimpArgs false
set_option linter.defProp false
set_option linter.unnecessarySimpa false
set_option maxHeartbeats 8000000
namespace Go.Proofs.YtihbdhjibplldaaGreatDoor
open Go
set_option maxRecDepth 10000
def catW(ws:List (Lab×Bool)):Lab:=ws.flatMap (·.1)
theorem zhz{ws:List (Lab×Bool)}(h:∀x∈ws,x.1.length≤1000000):(catW ws).length≤1000000*ws.length:=by
 induction ws with
 |nil=>exact Nat.zero_le _
 |cons x l ih=>
  have h1:=h x (List.mem_cons_self ..)
  have h2:=ih fun y hy=>h y (List.mem_cons_of_mem _ hy)
  unfold catW at*
  rw[List.flatMap_cons,List.length_append,List.length_cons]
  omega
def Pairs(s:Lab)(bs:List UInt8):Prop:=s.length=2*bs.length∧∀i (h:i<bs.length) (h1:2*i<s.length) (h2:2*i+1<s.length),∃x y,hexV s[2*i]=some x∧hexV s[2*i+1]=some y∧bs[i].toNat=16*x+y
theorem zhP{W0 w:World}{b:Nat}{t:Lab}{ws:List (Lab×Bool)}{ov:Value}{n:Nat}{bs:List UInt8}(hW:WX W0)(h:Rdr W0 w b ((t,false)::ws) ov 0)(hl:ws.length≤1000)(ht:t.length≤1000000)(hn:decP 4294967295 t=(n,0))(hn2:n≤1024)(hwq:∀x∈ws,x.2=false∧x.1.length≤1000000)(htr:Lib.trimS (catW ws) digs16=[])(hlen:(catW ws).length=2*n)(hp:Pairs (catW ws) bs):
  Fn Tryz.prog 185 #[.pointer (some ⟨b,0,Option.none⟩)] w (fun v w'=>Own w.heap.size w' 5 v (bs.map zao)∧Rdr W0 w' b [] ov 0∧Keep (fun i=>i=b) w w'):=by
 have hbl:=h.lt
 have hcl:=zhz fun x hx=>(hwq x hx).2
 have hml:1000000*ws.length≤1000000*1000:=Nat.mul_le_mul_left _ hl
 refine enter Tryz.func185 Tryz.ntmps185 rfl rfl ?_
 refine go trivial ?_
 refine rc trivial (zcL h (by omega)) ?_
 rintro _ w1 ⟨rfl,hR1,hk1⟩
 refine rd trivial (zbh (hW.ext hR1.ext) t 4294967295 (by omega) (by omega)) ?_
 rintro _ w2 ⟨rfl,hE2⟩
 rw[hn]
 simp only[if_neg (show¬false=true by decide)]at hR1
 refine rgo trivial ?_
 refine rc trivial (zcm (hR1.extx hE2) 0) ?_
 rintro _ w3 ⟨hR3,hk3⟩
 rw[show za6 0 0=0 from rfl]at hR3
 have d1:decide ((1024:Int)<(n:Int))=false:=decide_eq_false (by omega)
 refine rgo d1 ?_
 have hk03:Keep (fun i=>i=b) w w3:=(hk1.trans (hE2.mono fun _ _ h=>h.elim)).trans hk3
 have ez:decide ((0:Int)=0)=true:=rfl
 refine zav (Q:=fun e' σ' ds' v'=>e'= .exit 0∧ds'=[]∧(σ' 0= .pointer (some ⟨b,0,Option.none⟩)∧σ' 3= .int .u64 n∧σ' 5=vs (catW ws))∧Rdr W0 v' b [] ov 0∧Keep (fun i=>i=b) w v') ?_ ?_
 ·refine zbg (fun m σ ds v=>ds=[]∧∃i,i+m=ws.length∧(σ 0= .pointer (some ⟨b,0,Option.none⟩)∧σ 3= .int .u64 n∧σ 5=vs (catW (ws.take i)))∧Rdr W0 v b (ws.drop i) ov 0∧Keep (fun i=>i=b) w v) ws.length ?_ ?_
  ·exact⟨rfl,0,by omega,⟨vr0,vr0,vr0⟩,hR3,hk03⟩
  rintro m σ ds v ⟨rfl,i,him,⟨s0,s3,s5⟩,hR,hk⟩
  obtain⟨wv,hb,hr⟩:=hR.at'
  obtain⟨aw,cw,rfl,_,_⟩:=hr.open
  have c0:zad v (some ⟨b,0,Option.none⟩)=some (.slice aw (ws.drop i).length cw):=zaa hb rfl
  have c2:zad v (some ⟨b,2,Option.none⟩)=some (vi 0):=zaa hb rfl
  by_cases hi:i<ws.length
  ·have d2:decide ((0:Int)<((ws.drop i).length:Int))=true:=decide_eq_true (by rw[List.length_drop];omega)
   rw[List.drop_eq_getElem_cons hi]at hR
   obtain⟨⟨u,q⟩,hu⟩:∃x,ws[i]=x:=⟨_,rfl⟩
   have hum:(u,q)∈ws:=hu▸List.getElem_mem hi
   obtain⟨hq,hul⟩:=hwq _ hum
   simp only at hq hul
   subst hq
   rw[hu]at hR
   refine go (an3 s0 s3 s5) ?_
   refine rgg [(6,29)] (an8 s0 s3 s5 c0 c2 d2 ez (Nat.zero_add 2)) ?_
   refine go (an3 s0 s3 s5) ?_
   refine rc (an3 s0 s3 s5) (zcL hR (by rw[List.length_drop];omega)) ?_
   rintro _ v1 ⟨rfl,hR1',hk1'⟩
   simp only[if_neg (show¬false=true by decide)]at hR1'
   have hct:catW (ws.take (i+1))=catW (ws.take i)++u:=by rw[zal hi,hu];unfold catW;simp
   have hcl1:=zhz (ws:=ws.take i) fun x hx=>(hwq x (List.mem_of_mem_take hx)).2
   rw[List.length_take]at hcl1
   have hml1:1000000*min i ws.length≤1000000*1000:=Nat.mul_le_mul_left _ (by omega)
   have l1:(catW (ws.take i)).length+u.length≤9223372036854775807:=by omega
   refine rgo (an4 s0 s3 s5 l1) ?_
   exact⟨m - 1,by omega,rfl,i+1,by omega,⟨(vq1 s0),(vq1 s3),by rw[hct];first| (simp only[go_sem,s5];done)| (simp only[go_sem,s5];rfl)⟩,hR1',hk.trans hk1'⟩
  ·have d2:decide ((0:Int)<((ws.drop i).length:Int))=false:=decide_eq_false (by rw[List.length_drop];omega)
   refine go (an3 s0 s3 s5) ?_
   refine rgg [(6,29)] (an7 s0 s3 s5 c0 c2 d2 (Nat.zero_add 2)) ?_
   refine go (an3 s0 s3 s5) ?_
   rw[List.drop_of_length_le (by omega)]at hR
   rw[List.take_of_length_le (by omega)]at s5
   exact⟨rfl,rfl,⟨(vq1 s0),(vq1 s3),(vq1 s5)⟩,hR,hk⟩
 rintro _ σ0 _ w4 ⟨rfl,rfl,⟨s0,s3,s5⟩,hR4,hk4⟩
 obtain⟨s,hs⟩:∃s,catW ws=s:=⟨_,rfl⟩
 rw[hs]at htr hlen hp hcl s5
 obtain⟨hpl,hpx⟩:=hp
 refine go (an3 s0 s3 s5) ?_
 refine rcg [(3,43)] (an3 s0 s3 s5) (zeD w4 s (by omega)) ?_
 rintro _ w5 ⟨rfl,hE5⟩
 rw[decide_eq_true htr]
 have f1:(2:Int)*(n:Int)=((2*n:Nat):Int):=by omega
 have d3:decide (((s.length:Nat):Int)=((2*n:Nat):Int))=true:=decide_eq_true (by omega)
 have hR5:=hR4.extx hE5
 obtain⟨wv5,hb5,_⟩:=hR5.at'
 have c5:zad w5 (some ⟨b,2,Option.none⟩)=some (vi 0):=zaa hb5 rfl
 refine reg [(3,43)] (an5 s0 s3 s5 f1 d3) ?_
 refine go (an6 s0 s3 s5 c5 ez (Nat.zero_add 2)) ?_
 have hk5:Keep (fun i=>i=b) w w5:=hk4.trans (hE5.mono fun _ _ h=>h.elim)
 have hsz5:=hk5.size
 refine zbg (fun m σ ds v=>ds=[]∧∃j,j+m=bs.length∧(σ 5=vs s∧σ 7=vi ((2*j:Nat):Int))∧Ext w5 v∧∃sv,σ 6=sv∧Own w5.heap.size v 5 sv ((bs.take j).map zao)) bs.length ?_ ?_
 ·exact⟨rfl,0,by omega,⟨(vr1 s5),vr0⟩,Keep.refl _ _,_,vr0,Own.nil _ _ _⟩
 rintro m σ ds v ⟨rfl,j,hjm,⟨r5,r7⟩,hEv,sv,r6,hown⟩
 obtain⟨I,hI⟩:∃I,2*j=I:=⟨_,rfl⟩
 rw[hI]at r7
 by_cases hj:j<bs.length
 ·have d4:decide ((I:Int)<(s.length:Int))=true:=decide_eq_true (by omega)
  have i1:I<s.length:=by omega
  have i2:I+1<s.length:=by omega
  obtain⟨x,y,hx,hy,hxy⟩:=hpx j hj (by omega) (by omega)
  simp only[hI]at hx hy
  have hI2:(I:Int)+2=((I+2:Nat):Int):=by push_cast;rfl
  have z0:(0:Int)≤(I:Int):=by omega
  have z1:(I:Int)≤((I+2:Nat):Int):=by omega
  have z2:((I+2:Nat):Int)≤(s.length:Int):=by omega
  have hsl:List.take (I+2 - I) (List.drop I s)=[s[I],s[I+1]]:=by
   rw[show I+2 - I=2 by omega,List.drop_eq_getElem_cons i1,List.drop_eq_getElem_cons i2]
   rfl
  refine go (an4 r5 r7 r6 d4) ?_
  refine rc (an8 r5 r7 r6 hI2 z0 z1 z2 hsl) (Pu16_ok v hx hy) ?_
  rintro _ v1 ⟨rfl,hE1⟩
  have hbl2:=bs[j].toNat_lt
  rw[←hxy]
  obtain⟨c,hc⟩:∃c,bs[j]=c:=⟨_,rfl⟩
  rw[hc]at hbl2 ⊢
  have hbv:zao c= .int .u8 (c.toNat:Int):=rfl
  have hsv:=hEv.size
  have hsv1:=hE1.size
  refine rgo (an3 r5 r7 r6) ?_
  refine rq ?_;intro gd K hgd hK
  try simp (disch:=first|omega|assumption|rfl) only[go_sem,r6]
  refine za5 (z:= .int .u8 0) rfl rfl rfl rfl rfl ?_
  intro y1 hy1 hys1 hyo
  try simp (disch:=first|omega|assumption|rfl) only[go_sem,r6]
  refine za2 (e:=5) ((hown.ext hE1).ext hy1) hyo.row rfl rfl rfl rfl rfl rfl ((vr1 r6)) (vr0) (fun q hq=>by rw[List.mem_singleton.1 hq];rfl) (by simp;omega) (by decide) (by omega) ?_
  intro sv' y2 hown2 hX2 hK2 hb2'
  try simp only[go_sem]
  refine hK _ _ ?_;clear hK hgd;clear K;try clear gd
  refine go (an3 r5 r7 hI2) ?_
  refine⟨m - 1,by omega,rfl,j+1,by omega,⟨(vq1 r5),by rw[show 2*(j+1)=I+2 by omega];simp only[go_sem,hI2]⟩,hX2 w5 ((hEv.trans hE1).trans hy1) (Nat.le_refl _),sv',vr0,?_⟩
  rw[zal hj,hc,List.map_append,List.map_cons,List.map_nil,hbv]
  exact hown2
 ·have d4:decide ((I:Int)<(s.length:Int))=false:=decide_eq_false (by omega)
  refine go (an4 r5 r7 r6 d4) ?_
  rw[List.take_of_length_le (by omega)]at hown
  refine zaf (.inr rfl) Tryz.ntmps185 rfl (zac ((vr1 r6)) zae) ?_
  exact⟨hown.mono hsz5,hR5.extx hEv,hk5.trans (hEv.mono fun _ _ h=>h.elim)⟩
def zaC(t:Int):Int×Int×Int×Int:=if t=1 then(0,0,0,4) else if t=28 then(0,0,0,16) else if t=15 then(1,1,0,0) else if t=6 then(2,5,0,0) else if t=16 then(0,0, -1,0) else if t=2∨t=5∨t=12∨t=39 then(1,0,0,0) else(0,0,0, -1)
def zeE(x:Int×Int×Int×Int):Value:= .agg #[vi x.1,vi x.2.1,vi x.2.2.1,vi x.2.2.2]
theorem zdI(a b c d:Int):∀v∈ [vi a,vi b,vi c,vi d],one v=true:=fun v h=>by
 simp at h
 rcases h with rfl|rfl|rfl|rfl<;>rfl
theorem ziY(w:World)(t:Int):Fn Tryz.prog 183 #[vi t] w (fun v w'=>v=zeE (zaC t)∧Ext w w'):=by
 refine enter Tryz.func183 Tryz.ntmps183 rfl rfl ?_
 refine go trivial ?_
 refine zam ?_
 intro w1 hE1 hs1 hA
 unfold zaC
 by_cases h0:t=1
 ·have d0:decide (t=1)=true:=decide_eq_true h0
  rw[if_pos h0]
  refine go d0 ?_
  refine rq ?_;intro gd K hgd hK
  try simp only[go_sem]
  refine⟨by kernel_rfl,?_⟩
  rw[show bdV Tryz.prog 251 [(3,vi 4)]=some (.agg #[vi 0,vi 0,vi 0,vi 4]) from by kernel_rfl]
  try simp only[go_sem]
  refine zaK (P:=Tryz.prog) (t:=251) (l:=[vi 0,vi 0,vi 0,vi 4]) hA rfl (zdI _ _ _ _) rfl rfl ?_
  intro w2 hs2 hB2 hk2
  try simp only[go_sem]
  refine hK _ _ ?_;clear hK hgd;clear K;try clear gd
  refine go trivial ?_
  refine zaf (.inr rfl) Tryz.ntmps183 rfl (zaL (x:=⟨w.heap.size,0,Option.none⟩) (k:=4) (vr0) rfl rfl (zai hB2 rfl) zae) ?_
  exact⟨rfl,Keep.to_ext hE1 rfl (fun b hb=>by omega) hk2⟩
 have d0:decide (t=1)=false:=decide_eq_false h0
 rw[if_neg h0]
 by_cases h1:t=28
 ·have d1:decide (t=28)=true:=decide_eq_true h1
  rw[if_pos h1]
  refine go (an2 d0 d1) ?_
  refine rq ?_;intro gd K hgd hK
  try simp only[go_sem]
  refine⟨by kernel_rfl,?_⟩
  rw[show bdV Tryz.prog 251 [(3,vi 16)]=some (.agg #[vi 0,vi 0,vi 0,vi 16]) from by kernel_rfl]
  try simp only[go_sem]
  refine zaK (P:=Tryz.prog) (t:=251) (l:=[vi 0,vi 0,vi 0,vi 16]) hA rfl (zdI _ _ _ _) rfl rfl ?_
  intro w2 hs2 hB2 hk2
  try simp only[go_sem]
  refine hK _ _ ?_;clear hK hgd;clear K;try clear gd
  refine go trivial ?_
  refine zaf (.inr rfl) Tryz.ntmps183 rfl (zaL (x:=⟨w.heap.size,0,Option.none⟩) (k:=4) (vr0) rfl rfl (zai hB2 rfl) zae) ?_
  exact⟨rfl,Keep.to_ext hE1 rfl (fun b hb=>by omega) hk2⟩
 have d1:decide (t=28)=false:=decide_eq_false h1
 rw[if_neg h1]
 by_cases h2:t=15
 ·have d2:decide (t=15)=true:=decide_eq_true h2
  rw[if_pos h2]
  refine go (an3 d0 d1 d2) ?_
  refine rq ?_;intro gd K hgd hK
  try simp only[go_sem]
  refine⟨by kernel_rfl,?_⟩
  rw[show bdV Tryz.prog 251 [(0,vi 1),(1,vi 1)]=some (.agg #[vi 1,vi 1,vi 0,vi 0]) from by kernel_rfl]
  try simp only[go_sem]
  refine zaK (P:=Tryz.prog) (t:=251) (l:=[vi 1,vi 1,vi 0,vi 0]) hA rfl (zdI _ _ _ _) rfl rfl ?_
  intro w2 hs2 hB2 hk2
  try simp only[go_sem]
  refine hK _ _ ?_;clear hK hgd;clear K;try clear gd
  refine go trivial ?_
  refine zaf (.inr rfl) Tryz.ntmps183 rfl (zaL (x:=⟨w.heap.size,0,Option.none⟩) (k:=4) (vr0) rfl rfl (zai hB2 rfl) zae) ?_
  exact⟨rfl,Keep.to_ext hE1 rfl (fun b hb=>by omega) hk2⟩
 have d2:decide (t=15)=false:=decide_eq_false h2
 rw[if_neg h2]
 by_cases h3:t=6
 ·have d3:decide (t=6)=true:=decide_eq_true h3
  rw[if_pos h3]
  refine go (an4 d0 d1 d2 d3) ?_
  refine rq ?_;intro gd K hgd hK
  try simp only[go_sem]
  refine⟨by kernel_rfl,?_⟩
  rw[show bdV Tryz.prog 251 [(0,vi 2),(1,vi 5)]=some (.agg #[vi 2,vi 5,vi 0,vi 0]) from by kernel_rfl]
  try simp only[go_sem]
  refine zaK (P:=Tryz.prog) (t:=251) (l:=[vi 2,vi 5,vi 0,vi 0]) hA rfl (zdI _ _ _ _) rfl rfl ?_
  intro w2 hs2 hB2 hk2
  try simp only[go_sem]
  refine hK _ _ ?_;clear hK hgd;clear K;try clear gd
  refine go trivial ?_
  refine zaf (.inr rfl) Tryz.ntmps183 rfl (zaL (x:=⟨w.heap.size,0,Option.none⟩) (k:=4) (vr0) rfl rfl (zai hB2 rfl) zae) ?_
  exact⟨rfl,Keep.to_ext hE1 rfl (fun b hb=>by omega) hk2⟩
 have d3:decide (t=6)=false:=decide_eq_false h3
 rw[if_neg h3]
 by_cases h4:t=16
 ·have d4:decide (t=16)=true:=decide_eq_true h4
  rw[if_pos h4]
  refine go (an5 d0 d1 d2 d3 d4) ?_
  refine rq ?_;intro gd K hgd hK
  try simp only[go_sem]
  refine⟨by kernel_rfl,?_⟩
  rw[show bdV Tryz.prog 251 [(2,vi (-1))]=some (.agg #[vi 0,vi 0,vi (-1),vi 0]) from by kernel_rfl]
  try simp only[go_sem]
  refine zaK (P:=Tryz.prog) (t:=251) (l:=[vi 0,vi 0,vi (-1),vi 0]) hA rfl (zdI _ _ _ _) rfl rfl ?_
  intro w2 hs2 hB2 hk2
  try simp only[go_sem]
  refine hK _ _ ?_;clear hK hgd;clear K;try clear gd
  refine go trivial ?_
  refine zaf (.inr rfl) Tryz.ntmps183 rfl (zaL (x:=⟨w.heap.size,0,Option.none⟩) (k:=4) (vr0) rfl rfl (zai hB2 rfl) zae) ?_
  exact⟨rfl,Keep.to_ext hE1 rfl (fun b hb=>by omega) hk2⟩
 have d4:decide (t=16)=false:=decide_eq_false h4
 rw[if_neg h4]
 by_cases h5:t=2
 ·have d5:decide (t=2)=true:=decide_eq_true h5
  rw[if_pos (show t=2∨t=5∨t=12∨t=39 by omega)]
  refine go (an6 d0 d1 d2 d3 d4 d5) ?_
  refine rq ?_;intro gd K hgd hK
  try simp only[go_sem]
  refine⟨by kernel_rfl,?_⟩
  rw[show bdV Tryz.prog 251 [(0,vi 1)]=some (.agg #[vi 1,vi 0,vi 0,vi 0]) from by kernel_rfl]
  try simp only[go_sem]
  refine zaK (P:=Tryz.prog) (t:=251) (l:=[vi 1,vi 0,vi 0,vi 0]) hA rfl (zdI _ _ _ _) rfl rfl ?_
  intro w2 hs2 hB2 hk2
  try simp only[go_sem]
  refine hK _ _ ?_;clear hK hgd;clear K;try clear gd
  refine go trivial ?_
  refine zaf (.inr rfl) Tryz.ntmps183 rfl (zaL (x:=⟨w.heap.size,0,Option.none⟩) (k:=4) (vr0) rfl rfl (zai hB2 rfl) zae) ?_
  exact⟨rfl,Keep.to_ext hE1 rfl (fun b hb=>by omega) hk2⟩
 have d5:decide (t=2)=false:=decide_eq_false h5
 by_cases h6:t=5
 ·have d6:decide (t=5)=true:=decide_eq_true h6
  rw[if_pos (show t=2∨t=5∨t=12∨t=39 by omega)]
  refine go (an7 d0 d1 d2 d3 d4 d5 d6) ?_
  refine rq ?_;intro gd K hgd hK
  try simp only[go_sem]
  refine⟨by kernel_rfl,?_⟩
  rw[show bdV Tryz.prog 251 [(0,vi 1)]=some (.agg #[vi 1,vi 0,vi 0,vi 0]) from by kernel_rfl]
  try simp only[go_sem]
  refine zaK (P:=Tryz.prog) (t:=251) (l:=[vi 1,vi 0,vi 0,vi 0]) hA rfl (zdI _ _ _ _) rfl rfl ?_
  intro w2 hs2 hB2 hk2
  try simp only[go_sem]
  refine hK _ _ ?_;clear hK hgd;clear K;try clear gd
  refine go trivial ?_
  refine zaf (.inr rfl) Tryz.ntmps183 rfl (zaL (x:=⟨w.heap.size,0,Option.none⟩) (k:=4) (vr0) rfl rfl (zai hB2 rfl) zae) ?_
  exact⟨rfl,Keep.to_ext hE1 rfl (fun b hb=>by omega) hk2⟩
 have d6:decide (t=5)=false:=decide_eq_false h6
 by_cases h7:t=12
 ·have d7:decide (t=12)=true:=decide_eq_true h7
  rw[if_pos (show t=2∨t=5∨t=12∨t=39 by omega)]
  refine go (an8 d0 d1 d2 d3 d4 d5 d6 d7) ?_
  refine rq ?_;intro gd K hgd hK
  try simp only[go_sem]
  refine⟨by kernel_rfl,?_⟩
  rw[show bdV Tryz.prog 251 [(0,vi 1)]=some (.agg #[vi 1,vi 0,vi 0,vi 0]) from by kernel_rfl]
  try simp only[go_sem]
  refine zaK (P:=Tryz.prog) (t:=251) (l:=[vi 1,vi 0,vi 0,vi 0]) hA rfl (zdI _ _ _ _) rfl rfl ?_
  intro w2 hs2 hB2 hk2
  try simp only[go_sem]
  refine hK _ _ ?_;clear hK hgd;clear K;try clear gd
  refine go trivial ?_
  refine zaf (.inr rfl) Tryz.ntmps183 rfl (zaL (x:=⟨w.heap.size,0,Option.none⟩) (k:=4) (vr0) rfl rfl (zai hB2 rfl) zae) ?_
  exact⟨rfl,Keep.to_ext hE1 rfl (fun b hb=>by omega) hk2⟩
 have d7:decide (t=12)=false:=decide_eq_false h7
 by_cases h8:t=39
 ·have d8:decide (t=39)=true:=decide_eq_true h8
  rw[if_pos (show t=2∨t=5∨t=12∨t=39 by omega)]
  refine go (an9 d0 d1 d2 d3 d4 d5 d6 d7 d8) ?_
  refine rq ?_;intro gd K hgd hK
  try simp only[go_sem]
  refine⟨by kernel_rfl,?_⟩
  rw[show bdV Tryz.prog 251 [(0,vi 1)]=some (.agg #[vi 1,vi 0,vi 0,vi 0]) from by kernel_rfl]
  try simp only[go_sem]
  refine zaK (P:=Tryz.prog) (t:=251) (l:=[vi 1,vi 0,vi 0,vi 0]) hA rfl (zdI _ _ _ _) rfl rfl ?_
  intro w2 hs2 hB2 hk2
  try simp only[go_sem]
  refine hK _ _ ?_;clear hK hgd;clear K;try clear gd
  refine go trivial ?_
  refine zaf (.inr rfl) Tryz.ntmps183 rfl (zaL (x:=⟨w.heap.size,0,Option.none⟩) (k:=4) (vr0) rfl rfl (zai hB2 rfl) zae) ?_
  exact⟨rfl,Keep.to_ext hE1 rfl (fun b hb=>by omega) hk2⟩
 have d8:decide (t=39)=false:=decide_eq_false h8
 rw[if_neg (show¬(t=2∨t=5∨t=12∨t=39) by omega)]
 refine go (an9 d0 d1 d2 d3 d4 d5 d6 d7 d8) ?_
 refine rq ?_;intro gd K hgd hK
 try simp only[go_sem]
 refine⟨by kernel_rfl,?_⟩
 rw[show bdV Tryz.prog 251 [(3,vi (-1))]=some (.agg #[vi 0,vi 0,vi 0,vi (-1)]) from by kernel_rfl]
 try simp only[go_sem]
 refine zaK (P:=Tryz.prog) (t:=251) (l:=[vi 0,vi 0,vi 0,vi (-1)]) hA rfl (zdI _ _ _ _) rfl rfl ?_
 intro w2 hs2 hB2 hk2
 try simp only[go_sem]
 refine hK _ _ ?_;clear hK hgd;clear K;try clear gd
 refine go trivial ?_
 refine zaf (.inr rfl) Tryz.ntmps183 rfl (zaL (x:=⟨w.heap.size,0,Option.none⟩) (k:=4) (vr0) rfl rfl (zai hB2 rfl) zae) ?_
 exact⟨rfl,Keep.to_ext hE1 rfl (fun b hb=>by omega) hk2⟩
def txD(d:DatL):Int:=if (zaC d.ty).2.2.1<0 then min (max (d.texts.length:Int) 1) 32 else(zaC d.ty).2.2.1
def rwD(d:DatL):Int:=if (zaC d.ty).2.2.2<0 then(d.raw.length:Int) else(zaC d.ty).2.2.2
def zcI(d:DatL):Bool:=decide ((d.names.length:Int)=(zaC d.ty).1) && decide ((d.nums.length:Int)=(zaC d.ty).2.1) && decide ((d.texts.length:Int)=txD d) && decide ((d.raw.length:Int)=rwD d)
theorem form_ok{w:World}{cs:List Value}{d:DatL}(hd:DatAt w cs d):Fn Tryz.prog 212 #[.agg cs.toArray] w (fun v w'=>v= .bool (zcI d)∧Ext w w'):=by
  obtain⟨nm,nu,tx,rw',rfl,⟨vals,⟨an,cn,rfl,hcn,hgn⟩,hvl,hvr⟩,⟨au,cu,rfl,hcu,hgu⟩,⟨at1,ct,rfl,hct,hgt⟩,⟨ar,cr,rfl,hcr,hgr⟩⟩:=hd.ex
  simp only[List.length_map]at hcu hgu hct hgt hcr hgr
  simp only[List.length_map,hvl]
  refine enter Tryz.func212 Tryz.ntmps212 rfl rfl ?_
  refine go trivial ?_
  refine zam ?_
  intro w1 hE1 hs1 hA
  have p0:zad w1 (some ⟨w.heap.size,0,Option.none⟩)=some (vi d.ty):=zaa hA rfl
  obtain⟨⟨a,b,c,r⟩,hsh⟩:∃x,zaC d.ty=x:=⟨_,rfl⟩
  have htx:txD d=if c<0 then min (max (d.texts.length:Int) 1) 32 else c:=by unfold txD;rw[hsh]
  have hrw:rwD d=if r<0 then(d.raw.length:Int) else r:=by unfold rwD;rw[hsh]
  refine rq ?_;intro gd K hgd hK
  try simp (disch:=first|omega|assumption|rfl) only[go_sem,p0,Nat.add_zero]
  refine Fn.mono (ziY w1 d.ty) ?_
  rintro _ w2 ⟨rfl,hE2⟩
  rw[hsh]
  unfold zeE
  simp only
  try simp only[go_sem]
  refine zbj (P:=Tryz.prog) (l:=[vi a,vi b,vi c,vi r]) rfl (zdI _ _ _ _) rfl rfl ?_
  intro w3 hE3 hs3 hB3
  try simp only[go_sem]
  refine hK _ _ ?_;clear hK hgd;clear K;try clear gd
  obtain⟨P,hP⟩:∃P,w2.heap.size=P:=⟨_,rfl⟩
  rw[hP]at hB3
  simp only[hP]
  have hE13:=(hE1.trans hE2).trans hE3
  have hA3:=Ext.at (hE2.trans hE3) hA
  have hs2:=hE2.size
  have hs3':=hE3.size
  have vars:∀{z:World},Keep (fun i=>i=P) w3 z→zad z (some ⟨w.heap.size,1,Option.none⟩)=some (.slice an d.names.length cn)∧zad z (some ⟨w.heap.size,2,Option.none⟩)=some (.slice au d.nums.length cu)∧zad z (some ⟨w.heap.size,3,Option.none⟩)=some (.slice at1 d.texts.length ct)∧zad z (some ⟨w.heap.size,4,Option.none⟩)=some (.slice ar d.raw.length cr):=fun {z} hk=>by
    have hz:=(hk.block w.heap.size (by omega) (by omega)).trans hA3
    exact⟨zaa hz rfl,zaa hz rfl,zaa hz rfl,zaa hz rfl⟩
  have c2:zad w3 (some ⟨P,2,Option.none⟩)=some (vi c):=za1 (j:=2) hB3 rfl
  obtain⟨t1,ht1⟩:∃t,decide (c<0)=t:=⟨_,rfl⟩
  refine go (an3 c2 ht1 (Nat.zero_add 2)) ?_
  refine zav (Q:=fun e σ' ds' v'=>e= .normal∧ds'=[]∧(σ' 1= .pointer (some ⟨w.heap.size,0,Option.none⟩)∧σ' 3= .pointer (some ⟨P,0,Option.none⟩))∧v'.heap[P]? =some (.cells [vi a,vi b,vi (txD d),vi r].toArray 251 (0,0))∧Keep (fun i=>i=P) w3 v') ?_ ?_
  · cases t1 with
    |true=>
      have hc:=of_decide_eq_true ht1
      rw[if_pos hc]at htx
      obtain⟨_,_,k3,_⟩:=vars (Keep.refl _ w3)
      refine go trivial ?_
      refine rq ?_;intro gd K hgd hK
      try simp (disch:=first|omega|assumption|rfl) only[go_sem,k3,Nat.zero_add]
      refine zd5 (vr0) (vr0) ?_
      try simp only[go_sem]
      refine zfU (vr0) (vr0) ?_
      rw[←htx]
      try simp (disch:=first|omega|assumption|rfl) only[go_sem,Nat.zero_add]
      refine zcG (P:=Tryz.prog) (t:=3) (j:=2) (u:=vi (txD d)) hB3 (by simp) rfl rfl rfl ?_
      intro z hz hbz hkz
      try simp only[go_sem]
      refine hK _ _ ?_;clear hK hgd;clear K;try clear gd
      refine go trivial ?_
      exact⟨rfl,rfl,⟨vr0,vr0⟩,hbz,hkz⟩
    |false=>
      have hc:=of_decide_eq_false ht1
      rw[if_neg hc]at htx
      refine go trivial ?_
      exact⟨rfl,rfl,⟨vr0,vr0⟩,by rw[htx];exact hB3,Keep.refl _ _⟩
  rintro _ σ1 _ v1 ⟨rfl,rfl,⟨s1,s3⟩,hB4,hk4⟩
  have c3:zad v1 (some ⟨P,3,Option.none⟩)=some (vi r):=za1 (j:=3) hB4 rfl
  obtain⟨t2,ht2⟩:∃t,decide (r<0)=t:=⟨_,rfl⟩
  refine go (an5 s1 s3 c3 ht2 (Nat.zero_add 3)) ?_
  refine zav (Q:=fun e σ' ds' v'=>e= .normal∧ds'=[]∧(σ' 1= .pointer (some ⟨w.heap.size,0,Option.none⟩)∧σ' 3= .pointer (some ⟨P,0,Option.none⟩))∧v'.heap[P]? =some (.cells [vi a,vi b,vi (txD d),vi (rwD d)].toArray 251 (0,0))∧Keep (fun i=>i=P) w3 v') ?_ ?_
  · cases t2 with
    |true=>
      rw[if_pos (of_decide_eq_true ht2)]at hrw
      obtain⟨_,_,_,k4⟩:=vars hk4
      refine go (an2 s1 s3) ?_
      refine rq ?_;intro gd K hgd hK
      try simp (disch:=first|omega|assumption|rfl) only[go_sem,s1,s3,k4,Nat.zero_add]
      refine zcG (P:=Tryz.prog) (t:=3) (j:=3) (u:=vi (d.raw.length:Int)) hB4 (by simp) rfl rfl rfl ?_
      intro z hz hbz hkz
      try simp only[go_sem]
      refine hK _ _ ?_;clear hK hgd;clear K;try clear gd
      refine go (an2 s1 s3) ?_
      exact⟨rfl,rfl,⟨(vq1 s1),(vq1 s3)⟩,by rw[hrw];exact hbz,hk4.trans hkz⟩
    |false=>
      rw[if_neg (of_decide_eq_false ht2)]at hrw
      refine go (an2 s1 s3) ?_
      exact⟨rfl,rfl,⟨(vq1 s1),(vq1 s3)⟩,by rw[hrw];exact hB4,hk4⟩
  clear s1 s3
  rintro _ σ2 _ v2 ⟨rfl,rfl,⟨s1,s3⟩,hB5,hk5⟩
  obtain⟨k1,k2,k3,k4⟩:=vars hk5
  have e0:zad v2 (some ⟨P,0,Option.none⟩)=some (vi a):=za1 (j:=0) hB5 rfl
  have e1:zad v2 (some ⟨P,1,Option.none⟩)=some (vi b):=za1 (j:=1) hB5 rfl
  have e2:zad v2 (some ⟨P,2,Option.none⟩)=some (vi (txD d)):=za1 (j:=2) hB5 rfl
  have e3:zad v2 (some ⟨P,3,Option.none⟩)=some (vi (rwD d)):=za1 (j:=3) hB5 rfl
  have hfm:zcI d=(decide ((d.names.length:Int)=a) && decide ((d.nums.length:Int)=b) && decide ((d.texts.length:Int)=txD d) && decide ((d.raw.length:Int)=rwD d)):=by unfold zcI;rw[hsh]
  have hEf:Ext w v2:=Keep.to_ext hE13 rfl (fun i hi=>by omega) hk5
  obtain⟨b1,hb1⟩:∃t,decide ((d.names.length:Int)=a)=t:=⟨_,rfl⟩
  obtain⟨b2,hb2⟩:∃t,decide ((d.nums.length:Int)=b)=t:=⟨_,rfl⟩
  obtain⟨b3,hb3⟩:∃t,decide ((d.texts.length:Int)=txD d)=t:=⟨_,rfl⟩
  obtain⟨b4,hb4⟩:∃t,decide ((d.raw.length:Int)=rwD d)=t:=⟨_,rfl⟩
  rw[hb1,hb2,hb3,hb4]at hfm
  rw[hfm]
  refine go (an2 s1 s3) ?_
  cases b1<;>cases b2<;>cases b3<;>cases b4<;>
    (refine rgg [(6,29),(14,37),(22,45)] (an9 s1 s3 k1 k2 k3 k4 e0 e1 (an9 e2 e3 hb1 hb2 hb3 hb4 (Nat.zero_add 1) (Nat.zero_add 2) (an2 (Nat.zero_add 3) (Nat.zero_add 4)))) ?_
     refine go trivial ?_
     refine zaf (.inr rfl) Tryz.ntmps212 rfl (zac (vr0) zae) ?_
     exact⟨rfl,hEf⟩)
def zey(ts:List Lab):Bool:=ts.any fun t=>decide (255<t.length)
theorem zjh(w:World)(t:Lab)(hl:t.length≤1000000000):Fn Tryz.prog 214 #[vs t] w (fun v w'=>v= .bool (decide (255<t.length))∧Ext w w'):=by
 have h1:decide ((255:Int)<(t.length:Int))=decide (255<t.length):=decide_eq_decide.2 (by omega)
 refine enter Tryz.func214 Tryz.ntmps214 rfl rfl ?_
 refine go h1 ?_
 refine rt0 Tryz.ntmps214 ?_
 exact⟨rfl,Keep.refl _ _⟩
theorem Idx_ok{w:World}{v:Value}{ts:List Lab}(hr:Row w v (ts.map vs))(hl:ts.length≤1000000000)(hx:∀t∈ts,t.length≤1000000000):Fn Tryz.prog 229 #[v,.func (.func 214) #[] #[]] w (fun u w'=>Ext w w'∧∃k:Int,u=vi k∧decide (0≤k)=zey ts):=by
 obtain⟨a,c,rfl,hg⟩:=ziE hr
 refine enter Tryz.func229 Tryz.ntmps229 rfl rfl ?_
 refine go trivial ?_
 refine zbq ts.length (fun i σ v=>(σ 0= .slice a ts.length c∧σ 1= .func (.func 214) #[] #[]∧σ 7=vi ts.length∧σ 8=vi i)∧Ext w v∧∀j (h:j<ts.length),j<i→ts[j].length≤255) ?_ ?_ ?_
 ·exact⟨⟨vr0,vr0,vr0,vr0⟩,Keep.refl _ _,fun j _ h=>by omega⟩
 ·rintro i σ v hi r ⟨⟨s0,s1,s7,s8⟩,hE,hlow⟩
  obtain⟨x,rfl,g0⟩:=hg i hi
  have g:=zab hE g0
  obtain⟨t,ht⟩:∃t,ts[i]=t:=⟨_,rfl⟩
  rw[ht]at g
  have htl:=hx t (ht▸List.getElem_mem hi)
  have hi0:(0:Int)≤(i:Int):=by omega
  have hi1:(i:Int)<(ts.length:Int):=by omega
  have hi2:(i:Int)+1=((i+1:Nat):Int):=by push_cast;rfl
  refine go (an8 s0 s1 s7 s8 r g hi0 hi1) ?_
  refine rc (an6 s0 s1 s8 g hi0 hi1) (zjh v t htl) ?_
  rintro _ v1 ⟨rfl,hE1⟩
  by_cases hlt:255<t.length
  ·rw[decide_eq_true hlt]
   refine rgo (an2 s0 s8) ?_
   refine zaf (.inr rfl) Tryz.ntmps229 rfl (zac ((vr1 s8)) zae) ?_
   refine⟨hE.trans hE1,(i:Int),rfl,?_⟩
   have:zey ts=true:=by
    unfold zey
    rw[List.any_eq_true]
    exact⟨t,ht▸List.getElem_mem hi,decide_eq_true hlt⟩
   rw[this]
   exact decide_eq_true hi0
  ·rw[decide_eq_false hlt]
   refine rgo (an5 s0 s1 s7 s8 hi2) ?_
   refine⟨rfl,⟨(vq1 s0),(vq1 s1),(vq1 s7),(vq1 hi2)⟩,hE.trans hE1,fun j hj hji=>?_⟩
   by_cases e:j=i
   ·subst e;rw[ht];omega
   ·exact hlow j hj (by omega)
 ·rintro σ v r ⟨⟨s0,s1,s7,s8⟩,hE,hlow⟩
  refine go (an5 s0 s1 s7 s8 r) ?_
  refine zaf (.inr rfl) Tryz.ntmps229 rfl (zac (vr0) zae) ?_
  refine⟨hE, -1,rfl,?_⟩
  have:zey ts=false:=by
   unfold zey
   rw[List.any_eq_false]
   intro t ht
   obtain⟨j,hj,rfl⟩:=List.mem_iff_getElem.1 ht
   have:=hlow j hj hj
   simp;omega
  rw[this];rfl
theorem zg1{w:World}{v:Value}{ts:List Lab}(hr:Row w v (ts.map vs))(hl:ts.length≤1000000000)(hx:∀t∈ts,t.length≤1000000000):Fn Tryz.prog 213 #[v,.func (.func 214) #[] #[]] w (fun u w'=>u= .bool (zey ts)∧Ext w w'):=by
 refine enter Tryz.func213 Tryz.ntmps213 rfl rfl ?_
 refine go trivial ?_
 refine rc trivial (Idx_ok hr hl hx) ?_
 rintro _ w1 ⟨hE1,k,rfl,hk⟩
 refine rgo hk ?_
 refine rt0 Tryz.ntmps213 ?_
 exact⟨rfl,hE1⟩
def zbx(d:DatL):Int:=if d.ty<1∨65535<d.ty then 6 else if zcI d=false then 2 else match d.names.find? (fun n=>decide (zaX n≠0)) with
 |some n=>zaX n
 |Option.none=>if d.ty=15∧65535<d.nums.headD 0 then 7 else if 1024<d.raw.length∨zey d.texts=true then 3 else 0
theorem zkb{w:World}{cs:List Value}{d:DatL}(hd:DatAt w cs d)(hT:DatT d):Fn Tryz.prog 186 #[.agg cs.toArray] w (fun v w'=>v=vi (zbx d)∧Ext w w'):=by
 have hS:=hT.s
 have hd0:=hd
 obtain⟨nm,nu,tx,rw',rfl,⟨vals,⟨an,cn,rfl,hcn,hgn⟩,hvl,hvr⟩,hnu,htx,hrw⟩:=hd.ex
 obtain⟨au,cu,hau,hcu,hgu⟩:=id hnu
 obtain⟨at1,ct,hat,_⟩:=id htx
 obtain⟨ar,cr,har,_⟩:=id hrw
 rw[List.length_map]at hau hat har hcu
 subst hau
 subst hat
 subst har
 unfold zbx
 refine enter Tryz.func186 Tryz.ntmps186 rfl rfl ?_
 refine go trivial ?_
 refine zam ?_
 intro w1 hE1 hs1 hA
 have p0:zad w1 (some ⟨w.heap.size,0,Option.none⟩)=some (vi d.ty):=zaa hA rfl
 have p5:zaq w1 (some ⟨w.heap.size,0,Option.none⟩) 5=some [vi d.ty,.slice an vals.length cn,.slice au d.nums.length cu,.slice at1 d.texts.length ct,.slice ar d.raw.length cr]:=zai (n:=5) hA rfl
 by_cases c1:d.ty<1
 ·rw[if_pos (.inl c1)]
  refine go trivial ?_
  refine rgg [(3,10)] (an3 p0 (decide_eq_true c1) (Nat.add_zero 0)) ?_
  refine go trivial ?_
  refine zaf (.inr rfl) Tryz.ntmps186 rfl (zac (vr0) zae) ?_
  exact⟨rfl,hE1⟩
 by_cases c2:65535<d.ty
 ·rw[if_pos (.inr c2)]
  refine go trivial ?_
  refine rgg [(3,10)] (an4 p0 (decide_eq_false c1) (decide_eq_true c2) (Nat.add_zero 0)) ?_
  refine go trivial ?_
  refine zaf (.inr rfl) Tryz.ntmps186 rfl (zac (vr0) zae) ?_
  exact⟨rfl,hE1⟩
 rw[if_neg (by omega)]
 refine go trivial ?_
 refine rgg [(3,10)] (an4 p0 (decide_eq_false c1) (decide_eq_false c2) (Nat.add_zero 0)) ?_
 refine go trivial ?_
 refine rc p5 (form_ok (hd0.ext hE1)) ?_
 rintro _ w2 ⟨rfl,hE2⟩
 cases hf:zcI d with
 |false=>
  rw[if_pos rfl]
  refine rgo trivial ?_
  refine zaf (.inr rfl) Tryz.ntmps186 rfl (zac (vr0) zae) ?_
  exact⟨rfl,hE1.trans hE2⟩
 |true=>
 rw[if_neg (by decide)]
 have hA2:=Ext.at hE2 hA
 have q1:zad w2 (some ⟨w.heap.size,1,Option.none⟩)=some (.slice an vals.length cn):=zaa hA2 rfl
 refine rgo (an2 q1 (Nat.zero_add 1)) ?_
 have hE12:=hE1.trans hE2
 have hnames:=hS.names
 have hnn:=hT.nn
 refine zbq vals.length (fun i σ v=>(σ 1= .pointer (some ⟨w.heap.size,0,Option.none⟩)∧σ 20= .slice an vals.length cn∧σ 21=vi vals.length∧σ 22=vi i)∧Ext w2 v∧∀j (h:j<d.names.length),j<i→zaX d.names[j]=0) ?_ ?_ ?_
 ·exact⟨⟨vr0,vr0,vr0,vr0⟩,Keep.refl _ _,fun j _ h=>by omega⟩
 ·rintro i σ v hi r ⟨⟨s1,s20,s21,s22⟩,hE,hlow⟩
  have g0:=hgn i hi
  obtain⟨xN,rfl⟩:=Option.isSome_iff_exists.1 (zap g0)
  have hEv:=hE12.trans hE
  have g:=zab hEv g0
  have hin:i<d.names.length:=by omega
  have hrow:=(hvr i hi hin).ext hEv
  obtain⟨nv,hnv⟩:∃nv,vals[i]=nv:=⟨_,rfl⟩
  obtain⟨n,hn⟩:∃n,d.names[i]=n:=⟨_,rfl⟩
  rw[hnv]at g hrow
  rw[hn]at hrow
  have hnS:=hnames n (hn▸List.getElem_mem hin)
  have hi0:(0:Int)≤(i:Int):=by omega
  have hi1:(i:Int)<(vals.length:Int):=by omega
  have hi2:(i:Int)+1=((i+1:Nat):Int):=by push_cast;rfl
  obtain⟨na,nc,hne,_⟩:=id hrow
  refine go (an8 s1 s20 s21 s22 r g hi0 hi1) ?_
  refine rc (an4 s1 s20 s21 s22) (zgr v nv n hrow (fun l hl=>by have:=hnS.1 l hl;omega) (by have:=hnS.2;omega)) ?_
  rintro _ v1 ⟨rfl,hE1'⟩
  by_cases hc:zaX n=0
  ·refine rgo (an6 s1 s20 s21 s22 hi2 (decide_eq_true hc)) ?_
   refine⟨rfl,⟨(vq1 s1),(vq1 s20),(vq1 s21),(vq1 hi2)⟩,hE.trans hE1',fun j hj hji=>?_⟩
   by_cases e:j=i
   ·subst e;rw[hn];exact hc
   ·exact hlow j hj (by omega)
  ·refine rgo (an2 s1 (decide_eq_false hc)) ?_
   refine zaf (.inr rfl) Tryz.ntmps186 rfl (zac (vr0) zae) ?_
   have hfind:d.names.find? (fun n=>decide (zaX n≠0))=some n:=by
    rw[List.find?_eq_some_iff_getElem]
    refine⟨decide_eq_true hc,i,hin,hn,fun j hj=>?_⟩
    simp[hlow j (by omega) hj]
   rw[hfind]
   exact⟨rfl,hEv.trans hE1'⟩
 rintro σ v r ⟨⟨s1,s20,s21,s22⟩,hE,hlow⟩
 have hnone:d.names.find? (fun n=>decide (zaX n≠0))=Option.none:=by
  rw[List.find?_eq_none]
  intro n hn
  obtain⟨j,hj,rfl⟩:=List.mem_iff_getElem.1 hn
  simp[hlow j hj (by omega)]
 rw[hnone]
 simp only
 have hEv:=hE12.trans hE
 have hAv:=Ext.at (hE2.trans hE) hA
 have u0:zad v (some ⟨w.heap.size,0,Option.none⟩)=some (vi d.ty):=zaa hAv rfl
 have u2:zad v (some ⟨w.heap.size,2,Option.none⟩)=some (.slice au d.nums.length cu):=zaa hAv rfl
 have u3:zad v (some ⟨w.heap.size,3,Option.none⟩)=some (.slice at1 d.texts.length ct):=zaa hAv rfl
 have u4:zad v (some ⟨w.heap.size,4,Option.none⟩)=some (.slice ar d.raw.length cr):=zaa hAv rfl
 refine go (an5 s1 s20 s21 s22 r) ?_
 obtain⟨tt,htt⟩:∃tt,decide (d.ty=15∧65535<d.nums.headD 0)=tt:=⟨_,rfl⟩
 refine zav (Q:=fun e σ' ds' v'=>e= .normal∧ds'=[]∧v=v'∧σ' 1= .pointer (some ⟨w.heap.size,0,Option.none⟩)∧σ' 32= .bool tt) ?_ ?_
 ·by_cases c3:d.ty=15
  ·have hn1:d.nums.length=1:=by
    unfold zcI at hf
    simp only[Bool.and_eq_true,decide_eq_true_eq]at hf
    have h2:=hf.1.1.2
    rw[c3]at h2
    have h3:(zaC 15).2.1=1:=rfl
    rw[h3]at h2
    omega
   obtain⟨x,hx⟩:∃x,d.nums[0]'(by omega)=x:=⟨_,rfl⟩
   have hhd:d.nums.headD 0=x:=by
    cases hnn:d.nums with
    |nil=>rw[hnn]at hn1;cases hn1
    |cons a l=>simp[hnn]at hx;simpa using hx
   have gu:=zab hEv (hgu 0 (by rw[List.length_map];omega))
   rw[List.getElem_map,hx,zak]at gu
   obtain⟨xU,rfl⟩:∃x,au=some x:=by
    cases au with
    |none=>cases gu
    |some x=>exact⟨x,rfl⟩
   have n0:(0:Int)<(d.nums.length:Int):=by omega
   have d2:decide ((65535:Int)<x)=tt:=by rw[←htt,hhd];exact decide_eq_decide.2 ⟨fun h=>⟨c3,h⟩,fun h=>h.2⟩
   refine rgg [(3,36)] (an9 s1 u0 u2 (decide_eq_true c3) gu n0 d2 (Nat.add_zero 0) (an4 (Nat.zero_add 2) Int.toNat_zero (Nat.zero_mul 1) (zak (some xU)))) ?_
   exact⟨rfl,rfl,rfl,(vq1 s1),vr0⟩
  ·have d2:tt=false:=by rw[←htt];exact decide_eq_false fun h=>c3 h.1
   subst d2
   refine rgg [(3,36)] (an4 s1 u0 (decide_eq_false c3) (Nat.add_zero 0)) ?_
   exact⟨rfl,rfl,rfl,(vq1 s1),vr0⟩
 rintro _ σ1 _ v1 ⟨rfl,rfl,hv1,g1,g32⟩
 subst hv1
 cases tt with
 |true=>
  rw[if_pos (of_decide_eq_true htt)]
  refine go (an2 g1 g32) ?_
  refine zaf (.inr rfl) Tryz.ntmps186 rfl (zac (vr0) zae) ?_
  exact⟨rfl,hEv⟩
 |false=>
 rw[if_neg (of_decide_eq_false htt)]
 have htx':=hS.tx
 by_cases c4:1024<d.raw.length
 ·have d4:decide ((1024:Int)<(d.raw.length:Int))=true:=decide_eq_true (by omega)
  rw[if_pos (.inl c4)]
  refine go (an5 g1 g32 u4 d4 (Nat.zero_add 4)) ?_
  refine zaf (.inr rfl) Tryz.ntmps186 rfl (zac (vr0) zae) ?_
  exact⟨rfl,hEv⟩
 have d4:decide ((1024:Int)<(d.raw.length:Int))=false:=decide_eq_false (by omega)
 refine go (an5 g1 g32 u4 d4 (Nat.zero_add 4)) ?_
 refine rc (an3 g1 u3 (Nat.zero_add 3)) (zg1 (htx.ext hEv) (by have:=hS.nt;omega) fun t ht=>by have:=htx' t ht;omega) ?_
 rintro _ v2 ⟨rfl,hE3⟩
 cases hlt:zey d.texts with
 |true=>
  rw[if_pos (.inr rfl)]
  refine rgo trivial ?_
  refine zaf (.inr rfl) Tryz.ntmps186 rfl (zac (vr0) zae) ?_
  exact⟨rfl,hEv.trans hE3⟩
 |false=>
  rw[if_neg (fun h=>by rcases h with h|h;exact c4 h;cases h)]
  refine rgo trivial ?_
  refine zaf (.inr rfl) Tryz.ntmps186 rfl (zac (vr0) zae) ?_
  exact⟨rfl,hEv.trans hE3⟩
def zfe(t:Int)(n:Nat):Bool:=if (zaC t).2.2.1<0 then decide (1≤(n:Int)) && decide ((n:Int)≤32) else if 0<(zaC t).2.2.2 then decide ((n:Int)=1) else if (zaC t).2.2.2<0 then false else decide ((n:Int)=(zaC t).1+(zaC t).2.1)
theorem shape_lt(t:Int):0≤(zaC t).1∧(zaC t).1≤5∧0≤(zaC t).2.1∧(zaC t).2.1≤5:=by
 unfold zaC
 (repeat' split)<;>decide
theorem zd8{W0 w:World}{b:Nat}{ws:List (Lab×Bool)}{ov:Value}{e:Int}(h:Rdr W0 w b ws ov e)(t:Int):Fn Tryz.prog 187 #[.pointer (some ⟨b,0,Option.none⟩),vi t] w (fun v w'=>v= .bool (zfe t ws.length)∧Ext w w'):=by
  obtain⟨wv,hb,hr⟩:=h.at'
  obtain⟨wa,wc,rfl,_,_⟩:=hr.open
  obtain⟨n,hn⟩:∃n,ws.length=n:=⟨_,rfl⟩
  rw[hn]at hb ⊢
  have hsl:=shape_lt t
  obtain⟨⟨a,c,x,r⟩,hsh⟩:∃x,zaC t=x:=⟨_,rfl⟩
  unfold zfe
  rw[hsh]at hsl ⊢
  simp only at hsl ⊢
  refine enter Tryz.func187 Tryz.ntmps187 rfl rfl ?_
  refine go trivial ?_
  refine rq ?_;intro gd K hgd hK
  try simp only[go_sem]
  refine Fn.mono (ziY w t) ?_
  rintro _ w2 ⟨rfl,hE2⟩
  rw[hsh]
  unfold zeE
  simp only
  try simp only[go_sem]
  refine zbj (P:=Tryz.prog) (l:=[vi a,vi c,vi x,vi r]) rfl (zdI _ _ _ _) rfl rfl ?_
  intro w3 hE3 hs3 hB3
  try simp only[go_sem]
  refine hK _ _ ?_;clear hK hgd;clear K;try clear gd
  have hE:=hE2.trans hE3
  have c0:zad w3 (some ⟨b,0,Option.none⟩)=some (.slice wa n wc):=zaa (Ext.at hE hb) rfl
  have k0:zad w3 (some ⟨w2.heap.size,0,Option.none⟩)=some (vi a):=za1 (j:=0) hB3 rfl
  have k1:zad w3 (some ⟨w2.heap.size,1,Option.none⟩)=some (vi c):=za1 (j:=1) hB3 rfl
  have k2:zad w3 (some ⟨w2.heap.size,2,Option.none⟩)=some (vi x):=za1 (j:=2) hB3 rfl
  have k3:zad w3 (some ⟨w2.heap.size,3,Option.none⟩)=some (vi r):=za1 (j:=3) hB3 rfl
  by_cases hx:x<0
  · rw[if_pos hx]
    refine go (an3 k2 (decide_eq_true hx) (Nat.zero_add 2)) ?_
    obtain⟨b1,hb1⟩:∃t,decide (1≤(n:Int))=t:=⟨_,rfl⟩
    obtain⟨b2,hb2⟩:∃t,decide ((n:Int)≤32)=t:=⟨_,rfl⟩
    rw[hb1,hb2]
    cases b1<;>cases b2<;>
      (refine rgg [(6,18)] (an4 c0 hb1 hb2 (Nat.add_zero 0)) ?_
       refine go trivial ?_
       refine zaf (.inr rfl) Tryz.ntmps187 rfl (zac (vr0) zae) ?_
       exact⟨rfl,hE⟩)
  rw[if_neg hx]
  by_cases hr1:0<r
  · rw[if_pos hr1]
    refine go (an9 k2 (decide_eq_false hx) (Nat.zero_add 2) k3 (decide_eq_true hr1) (Nat.zero_add 3) c0 (Nat.add_zero 0) trivial) ?_
    refine zaf (.inr rfl) Tryz.ntmps187 rfl (zac (vr0) zae) ?_
    exact⟨rfl,hE⟩
  rw[if_neg hr1]
  by_cases hr2:r<0
  · rw[if_pos hr2]
    refine go (an8 k2 (decide_eq_false hx) (Nat.zero_add 2) k3 (decide_eq_false hr1) (Nat.zero_add 3) (decide_eq_true hr2) trivial) ?_
    refine zaf (.inr rfl) Tryz.ntmps187 rfl (zac (vr0) zae) ?_
    exact⟨rfl,hE⟩
  rw[if_neg hr2]
  refine go (an8 k2 (decide_eq_false hx) (Nat.zero_add 2) k3 (decide_eq_false hr1) (Nat.zero_add 3) (decide_eq_false hr2) trivial) ?_
  refine zaS (fun _=>false) [(0,true),(1,true),(2,true),(3,true),(4,true),(5,true),(6,true),(7,true),(8,true),(9,true),(10,true),(11,true)] NoS mixed (by kernel_rfl) ?_;intro gd K x hgd hx hxe hK;have hx0:=zaP hxe;clear hxe
  have c0x:=zab hx0 c0
  have k0x:=zab hx0 k0
  have k1x:=zab hx0 k1
  simp (disch:=first|omega|assumption|rfl) only[go_sem,c0x,k0x,k1x,Nat.add_zero,Nat.zero_add]
  refine hK _ _ ?_;clear hK hgd;clear K;try clear gd
  refine go trivial ?_
  refine zaf (.inr rfl) Tryz.ntmps187 rfl (zac (vr0) zae) ?_
  exact⟨rfl,hE.trans hx0⟩
theorem zcH(t:Int)(a b c d:Value)(ha:one a=true)(hb:one b=true)(hc:one c=true)(hd:one d=true):∀v∈ [vi t,a,b,c,d],one v=true:=fun v h=>by
 simp at h
 rcases h with rfl|rfl|rfl|rfl|rfl<;>first|rfl|assumption
theorem ziP{W0 w:World}{b:Nat}{t:Lab}{q:Bool}{ov:Value}{e:Int}{ps:List Lab}(hW:WX W0)(h:Rdr W0 w b [(t,q)] ov e)(ht:t.length≤1000000)(hsp:SplP t ps)(hpl:ps.length≤1000000)(hpx:∀p∈ps,p.length≤1000000):
  Fn Tryz.prog 160 #[.pointer (some ⟨b,0,Option.none⟩),vi 1] w (fun v w'=>(∃rv,v= .agg #[vi 1,.slice Option.none 0 0,.slice Option.none 0 0,.slice Option.none 0 0,rv]∧Own w.heap.size w' 5 rv (ps.map octP))∧Rdr W0 w' b [] ov (zgM (if ps.length=4 then(if q=true then za6 e 2 else e) else za6 (if q=true then za6 e 2 else e) 2) ps)∧Keep (fun i=>i=b) w w'):=by
 have hbl:=h.lt
 have hlow:=h.low
 refine enter Tryz.func160 Tryz.ntmps160 rfl rfl ?_
 refine go trivial ?_
 refine zam ?_
 intro w1 hE1 hs1 hA
 refine rq ?_;intro gd K hgd hK
 try simp only[go_sem]
 refine⟨by kernel_rfl,?_⟩
 rw[show bdV Tryz.prog 34 [(0,vi 1)]=some (.agg #[vi 1,.slice Option.none 0 0,.slice Option.none 0 0,.slice Option.none 0 0,.slice Option.none 0 0]) from by kernel_rfl]
 try simp only[go_sem]
 refine zbj (P:=Tryz.prog) (l:=[vi 1,.slice Option.none 0 0,.slice Option.none 0 0,.slice Option.none 0 0,.slice Option.none 0 0]) rfl (zcH _ _ _ _ _ rfl rfl rfl rfl) rfl rfl ?_
 intro w2 hE2 hs2 hB2
 try simp only[go_sem]
 refine hK _ _ ?_;clear hK hgd;clear K;try clear gd
 rw[hs1]at hB2
 simp only[hs1]
 have hR2:=(h.extx hE1).extx hE2
 refine go trivial ?_
 refine rc trivial (zd8 hR2 1) ?_
 rintro _ w3 ⟨rfl,hE3⟩
 rw[show zfe 1 ([(t,q)]:List (Lab×Bool)).length=true from rfl]
 have d1:decide ((1:Int)=1)=true:=rfl
 refine rgo d1 ?_
 have hR3:=hR2.extx hE3
 have hs3:=hE3.size
 refine rq ?_;intro gd K hgd hK
 try simp only[go_sem]
 refine Fn.mono (zib hW hR3 (by simp) ht hsp hpl hpx) ?_
 rintro rv w4 ⟨hown,hR4,hk4⟩
 obtain⟨ra,rc',hrv⟩:=hown.slice
 have hs4:=hk4.size
 have hB4:=(hk4.block (w.heap.size+1) (by omega) (by omega)).trans (Ext.at hE3 hB2)
 try simp (disch:=first|omega|assumption|rfl) only[go_sem,Nat.zero_add]
 refine zcG (P:=Tryz.prog) (t:=32) (j:=4) (u:=rv) hB4 (by simp) (by rw[hrv];rfl) rfl rfl ?_
 intro w5 hs5 hB5 hk5
 try simp only[go_sem]
 refine hK _ _ ?_;clear hK hgd;clear K;try clear gd
 simp only[List.set_cons_zero,List.set_cons_succ]at hB5
 have q5:=zai (n:=5) hB5 rfl
 refine go trivial ?_
 refine rq ?_;intro gd K hgd hK
 try simp (disch:=first|omega|assumption|rfl) only[go_sem,q5]
 have hA5:w5.heap[w.heap.size]? =_:=(hk5.block _ (by omega) (by omega)).trans ((hk4.block _ (by omega) (by omega)).trans (Ext.at (hE2.trans hE3) hA))
 refine zaK (P:=Tryz.prog) (t:=34) (l:=[vi 1,.slice Option.none 0 0,.slice Option.none 0 0,.slice Option.none 0 0,rv]) hA5 rfl (zcH _ _ _ _ _ rfl rfl rfl (by rw[hrv];rfl)) rfl rfl ?_
 intro w6 hs6 hB6 hk6
 try simp only[go_sem]
 refine hK _ _ ?_;clear hK hgd;clear K;try clear gd
 refine go trivial ?_
 refine zaf (.inr rfl) Tryz.ntmps160 rfl (zaL (x:=⟨w.heap.size,0,Option.none⟩) (k:=5) (vr0) rfl rfl (zai hB6 rfl) zae) ?_
 have hE13:=(hE1.trans hE2).trans hE3
 refine⟨⟨rv,rfl,((hown.keep hk5 fun i hi hs=>by have:=(hown.ge hi).1;omega).keep hk6 fun i hi hs=>by have:=(hown.ge hi).1;omega).mono (by omega)⟩,(hR4.keep hk5 fun i hi=>by omega).keep hk6 fun i hi=>by omega,?_⟩
 exact((((hE13.mono fun _ _ h=>h.elim):Keep (fun i=>i=b) w w3).trans hk4).own hk5 fun i hi h=>by omega).own hk6 fun i hi h=>by omega
def untT(t:Lab):Lab:=(unD [] 0 t []).1
def zgd(e:Int)(ws:List (Lab×Bool)):Int:=ws.foldl (fun e x=>za6 e (errT x.1)) e
theorem own16_ok{W0 w:World}{b:Nat}{ws:List (Lab×Bool)}{ov:Value}{e:Int}(h:Rdr W0 w b ws ov e)(h1:1≤ws.length)(h32:ws.length≤32)(hx:∀x∈ws,x.1.length≤1000000000):
  Fn Tryz.prog 160 #[.pointer (some ⟨b,0,Option.none⟩),vi 16] w (fun v w'=>(∃tv,v= .agg #[vi 16,.slice Option.none 0 0,.slice Option.none 0 0,tv,.slice Option.none 0 0]∧Own w.heap.size w' 9 tv ((ws.map fun x=>untT x.1).map vs))∧Rdr W0 w' b [] ov (zgd e ws)∧Keep (fun i=>i=b) w w'):=by
 have hbl:=h.lt
 have hlow:=h.low
 refine enter Tryz.func160 Tryz.ntmps160 rfl rfl ?_
 refine go trivial ?_
 refine zam ?_
 intro w1 hE1 hs1 hA
 refine rq ?_;intro gd K hgd hK
 try simp only[go_sem]
 refine⟨by kernel_rfl,?_⟩
 rw[show bdV Tryz.prog 34 [(0,vi 16)]=some (.agg #[vi 16,.slice Option.none 0 0,.slice Option.none 0 0,.slice Option.none 0 0,.slice Option.none 0 0]) from by kernel_rfl]
 try simp only[go_sem]
 refine zbj (P:=Tryz.prog) (l:=[vi 16,.slice Option.none 0 0,.slice Option.none 0 0,.slice Option.none 0 0,.slice Option.none 0 0]) rfl (zcH _ _ _ _ _ rfl rfl rfl rfl) rfl rfl ?_
 intro w2 hE2 hs2 hB2
 try simp only[go_sem]
 refine hK _ _ ?_;clear hK hgd;clear K;try clear gd
 rw[hs1]at hB2
 simp only[hs1]
 have hR2:=(h.extx hE1).extx hE2
 refine go trivial ?_
 refine rc trivial (zd8 hR2 16) ?_
 rintro _ w3 ⟨rfl,hE3⟩
 have hmany:zfe 16 ws.length=true:=by
  unfold zfe
  rw[if_pos (by decide),decide_eq_true (by omega),decide_eq_true (by omega)]
  rfl
 rw[hmany]
 have d1:decide ((16:Int)=1)=false:=rfl
 have d2:decide ((16:Int)=28)=false:=rfl
 have d3:decide ((16:Int)=16)=true:=rfl
 refine rgo (an3 d1 d2 d3) ?_
 have hR3:=hR2.extx hE3
 have hs3:=hE3.size
 have hB3:=Ext.at hE3 hB2
 obtain⟨P,hP⟩:∃P,w.heap.size+1=P:=⟨_,rfl⟩
 rw[hP]at hB3 ⊢
 have hP3:P<w3.heap.size:=(Array.getElem?_eq_some_iff.1 hB3).1
 refine zav (Q:=fun e' σ' ds' v'=>e'= .exit 5∧ds'=[]∧(σ' 4= .pointer (some ⟨w.heap.size,0,Option.none⟩)∧σ' 5= .pointer (some ⟨P,0,Option.none⟩))∧Rdr W0 v' b [] ov (zgd e ws)∧Keep (fun i=>i=b∨i=P) w3 v'∧∃tv,v'.heap[P]? =some (.cells [vi 16,.slice Option.none 0 0,.slice Option.none 0 0,tv,.slice Option.none 0 0].toArray 34 (0,0))∧Own w3.heap.size v' 9 tv ((ws.map fun x=>untT x.1).map vs)) ?_ ?_
 ·refine zbg (fun m σ ds v=>ds=[]∧∃j,j+m=ws.length∧(σ 0= .pointer (some ⟨b,0,Option.none⟩)∧σ 4= .pointer (some ⟨w.heap.size,0,Option.none⟩)∧σ 5= .pointer (some ⟨P,0,Option.none⟩))∧Rdr W0 v b (ws.drop j) ov (zgd e (ws.take j))∧Keep (fun i=>i=b∨i=P) w3 v∧∃tv,v.heap[P]? =some (.cells [vi 16,.slice Option.none 0 0,.slice Option.none 0 0,tv,.slice Option.none 0 0].toArray 34 (0,0))∧Own w3.heap.size v 9 tv (((ws.take j).map fun x=>untT x.1).map vs)) ws.length ?_ ?_
  ·exact⟨rfl,0,by omega,⟨vr0,vr0,vr0⟩,hR3,Keep.refl _ _,_,hB3,Own.nil _ _ _⟩
  rintro m σ ds v ⟨rfl,j,hjm,⟨s0,s4,s5⟩,hR,hk,tv,hBP,hown⟩
  obtain⟨wv,hb,hr⟩:=hR.at'
  obtain⟨aw,cw,rfl,_,_⟩:=hr.open
  have c0:zad v (some ⟨b,0,Option.none⟩)=some (.slice aw (ws.drop j).length cw):=zaa hb rfl
  by_cases hj:j<ws.length
  ·have g1:decide ((0:Int)<((ws.drop j).length:Int))=true:=decide_eq_true (by rw[List.length_drop];omega)
   obtain⟨⟨u,q⟩,hu⟩:∃x,ws[j]=x:=⟨_,rfl⟩
   have hul:=hx (u,q) (hu▸List.getElem_mem hj)
   have hR':=hR
   rw[List.drop_eq_getElem_cons hj,hu]at hR'
   have q3:zad v (some ⟨P,3,Option.none⟩)=some tv:=za1 (j:=3) hBP rfl
   have hPv:P<v.heap.size:=(Array.getElem?_eq_some_iff.1 hBP).1
   have hlt:=hR.lt
   have hkv:=hk.size
   refine go (an6 s0 s4 s5 c0 g1 (Nat.add_zero 0)) ?_
   refine zaS (fun i=>i==7) [(0,true),(1,true),(2,true),(3,false),(4,false),(5,false),(6,true),(7,false)] ((fun i=>i=b∨some i=tv.ownBlock)) mixed (by kernel_rfl) ?_;intro gd K x hgd hx hxe hK;have hx0:=zaP hxe;clear hxe
   have q3x:=zab hx0 q3
   have hsx:=hx0.size
   simp (disch:=first|omega|assumption|rfl) only[go_sem,s0,s5,q3x,Nat.zero_add]
   refine⟨fun a ha hb'=>by cases ha;rcases hb' with hb'|hb';(· dsimp only at hb';omega);(· have:=(hown.ge hb').1;dsimp only at this;omega),?_⟩
   refine Fn.mono (text_ok (hR'.extx hx0) (by rw[List.length_drop];omega) hul) ?_
   rintro _ y1 ⟨rfl,hR1,hk1⟩
   refine⟨.inr (hk1.mono fun i _ h=> .inl h),?_⟩
   simp (disch:=first|omega|assumption|rfl) only[go_sem]
   refine za5 (z:=vs []) rfl rfl rfl rfl rfl ?_
   intro y2 hy2 hys2 hyo
   refine⟨.inr hy2.keep,?_⟩
   simp (disch:=first|omega|assumption|rfl) only[go_sem]
   have hsy1:=hk1.size
   have hsy2:=hy2.size
   have hownx:Own w3.heap.size y2 9 tv (((ws.take j).map fun x=>untT x.1).map vs):=((hown.ext hx0).keep hk1 fun i hi hs=>by have:=(hown.ge hi).1;omega).ext hy2
   refine za2 (e:=9) hownx hyo.row rfl rfl rfl rfl rfl rfl (vr0) (vr0) (fun q hq=>by simp at hq;subst hq;rfl) (by simp;omega) (by decide) (by omega) ?_
   intro sv' y3 hown3 hX3 hK3 hb3'
   refine⟨.inr (hK3.mono fun i _ h=> .inr h),?_⟩
   simp (disch:=first|omega|assumption|rfl) only[go_sem,s5,Nat.zero_add]
   have hsK:=hK3.size
   have hBP3:y3.heap[P]? =_:=(hK3.block P (by omega) (fun h=>by have:=(hown.ge h).1;omega)).trans ((hy2.block P (by omega) (fun h=>h)).trans ((hk1.block P (by omega) (by omega)).trans (Ext.at hx0 hBP)))
   refine zcG (P:=Tryz.prog) (t:=23) (j:=3) (u:=sv') hBP3 (by simp) (by obtain⟨a,c,rfl⟩:=hown3.slice;rfl) rfl rfl ?_
   intro z hzs hBz hkz
   refine⟨.inl rfl,?_⟩
   simp (disch:=first|omega|assumption|rfl) only[go_sem]
   refine hK _ _ ?_;clear hK hgd;clear K;try clear gd
   simp only[List.set_cons_zero,List.set_cons_succ]at hBz
   refine go (an3 s0 s4 s5) ?_
   have hR2':Rdr W0 y2 b (ws.drop (j+1)) ov (za6 (zgd e (ws.take j)) (errT u)):=hR1.extx hy2
   refine⟨m - 1,by omega,rfl,j+1,by omega,⟨(vq1 s0),(vq1 s4),(vq1 s5)⟩,?_,?_,sv',hBz,?_⟩
   ·rw[zal hj,hu]
    unfold zgd at hR2' ⊢
    rw[List.foldl_append]
    exact(hR2'.keep hK3 fun i hi=>by have:=(hown.ge hi).1;omega).keep hkz fun i hi=>by omega
   ·have ha:Keep (fun i=>i=b∨i=P) w3 y2:=((hk.trans (hx0.mono fun _ _ h=>h.elim)).trans (hk1.mono fun _ _ h=> .inl h)).trans (hy2.mono fun _ _ h=>h.elim)
    exact(ha.own hK3 fun i hi h=>by have:=(hown.ge h).1;omega).trans (hkz.mono fun _ _ h=> .inr h)
   ·rw[zal hj,hu,List.map_append,List.map_append]
    exact hown3.keep hkz fun i hi hs=>by have:=(hown3.ge hi).1;omega
  ·have g1:decide ((0:Int)<((ws.drop j).length:Int))=false:=decide_eq_false (by rw[List.length_drop];omega)
   refine go (an6 s0 s4 s5 c0 g1 (Nat.add_zero 0)) ?_
   rw[List.drop_of_length_le (by omega)]at hR
   rw[List.take_of_length_le (by omega)]at hR hown
   exact⟨rfl,rfl,⟨(vq1 s4),(vq1 s5)⟩,hR,hk,tv,hBP,hown⟩
 rintro _ σ1 _ w4 ⟨rfl,rfl,⟨s4,s5⟩,hR4,hk4,tv,hB4,hown⟩
 obtain⟨ra,rc',htv⟩:=hown.slice
 have hs4:=hk4.size
 have q5:=zai (n:=5) hB4 rfl
 refine go (an2 s4 s5) ?_
 refine rq ?_;intro gd K hgd hK
 try simp (disch:=first|omega|assumption|rfl) only[go_sem,s4,s5,q5]
 have hA4:w4.heap[w.heap.size]? =_:=(hk4.block _ (by omega) (by omega)).trans (Ext.at (hE2.trans hE3) hA)
 refine zaK (P:=Tryz.prog) (t:=34) (l:=[vi 16,.slice Option.none 0 0,.slice Option.none 0 0,tv,.slice Option.none 0 0]) hA4 rfl (zcH _ _ _ _ _ rfl rfl (by rw[htv];rfl) rfl) rfl rfl ?_
 intro w6 hs6 hB6 hk6
 try simp only[go_sem]
 refine hK _ _ ?_;clear hK hgd;clear K;try clear gd
 refine go trivial ?_
 refine zaf (.inr rfl) Tryz.ntmps160 rfl (zaL (x:=⟨w.heap.size,0,Option.none⟩) (k:=5) ((vr1 s4)) rfl rfl (zai hB6 rfl) zae) ?_
 have hE13:=(hE1.trans hE2).trans hE3
 refine⟨⟨tv,rfl,(hown.keep hk6 fun i hi hs=>by have:=(hown.ge hi).1;omega).mono (by omega)⟩,hR4.keep hk6 fun i hi=>by omega,?_⟩
 exact(((hE13.mono fun _ _ h=>h.elim):Keep (fun i=>i=b) w w3).own hk4 fun i hi h=>by omega).own hk6 fun i hi h=>by omega
section
variable {P : Program} {d : Option Tmp} {ty : TypeId} {ps : String} {af : Array Edge} {g : Option (Nat × Bool)} {ρ : Operand → Value} {w : World} {K : Value → World → Prop}
end
set_option maxRecDepth 100000
theorem zjK{P:Program}{w:World}{K:Value→World→Prop}{t e:TypeId}{n:Nat}{parts:List (Nat×Value)}{arr:Array Value}(h:bsC P t n parts=some (e,arr))
  (hk:∀w1,Ext w w1→w1.heap.size=w.heap.size+1→w1.heap[w.heap.size]? =some (.cells arr e (0,0))→K (.slice (some ⟨w.heap.size,0,Option.none⟩) n n) w1):bsL P t n parts w K .mk:=by
 unfold bsL bsK
 rw[h]
 exact hk _ (Ext.alloc w _) (zaB w _) (zax w _)
theorem zbW(w:World):NamesAt w (.slice Option.none 0 0) []:=⟨[],(Own.nil 0 w 0).row,rfl,fun i h=>absurd h (by simp)⟩
theorem ziW{w:World}{nv sv:Value}{n:Nm}(h1:Row w sv [nv])(h2:Row w nv (n.map vs)):NamesAt w sv [n]:=⟨[nv],h1,rfl,fun i h h'=>by
 have h0:i=0:=by simp at h;omega
 subst h0
 exact h2⟩
section
variable {α : Type} {cf : α → α → Int} {jn : α → α → α}
end
section
variable {H : Type} {enc : TypeId × Value → H} {P : Program} {w : World} {base : Nat} {sp : Nat → Bool} {held : Bool}
end
section
variable {H : Type} {enc : TypeId × Value → H} {P : Program} {w : World} {base : Nat} {sp : Nat → Bool} {held : Bool}
end
section
variable {H : Type} {enc : TypeId × Value → H} {w : World} {base : Nat} {sp : Nat → Bool} {held : Bool}
end
set_option maxRecDepth 10000
theorem DatAt.cells{w0:World}{cs:List Value}{d:DatL}(h:DatAt w0 cs d):∃nm,cs[0]? =some (vi d.ty)∧cs[1]? =some nm∧NamesAt w0 nm d.names:=by
 obtain⟨nm,nu,tx,rw',rfl,h1,_⟩:=h.ex
 exact⟨nm,rfl,rfl,h1⟩
theorem zbD{w:World}{p:Option Addr}{k j:Nat}{cs:List Value}{u:Value}(h:zaq w p k=some cs)(hj:cs[j]? =some u):zad w (adr p j)=some u:=by
 obtain⟨hj1,hj2⟩:=List.getElem?_eq_some_iff.1 hj
 have:=zaR h hj1
 rw[hj2]at this;exact this
section
variable {P : Program} {d : Option Tmp} {ty : TypeId} {ps : String} {af : Array Edge} {g : Option (Nat × Bool)} {ρ : Operand → Value} {w : World} {K : Value → World → Prop}
end
theorem Rows.low{α:Type}{k D:Nat}{C:List Value→α→Prop}{w x:World}{v:Value}{xs:List α}{S:Nat→Prop}(h:Rows k C w v xs)(hlow:∀a n c,v= .slice (some a) n c→a.block<D)(hk:Keep S w x)(hS:∀b,b<D→¬S b)(hD:D≤w.heap.size):Rows k C x v xs:=
 h.blocks fun a n c hv=>hk.block _ (by have:=hlow a n c hv;omega) (hS _ (hlow a n c hv))
theorem Row.low{D:Nat}{w x:World}{v:Value}{l:List Value}{S:Nat→Prop}(h:Row w v l)(hlow:∀a n c,v= .slice (some a) n c→a.block<D)(hk:Keep S w x)(hS:∀b,b<D→¬S b)(hD:D≤w.heap.size):Row x v l:=
 h.blocks fun a n c hv=>hk.block _ (by have:=hlow a n c hv;omega) (hS _ (hlow a n c hv))
theorem zgG(w:World):Row w (.slice Option.none 0 0) (([]:Nm).map vs):=⟨Option.none,0,rfl,Nat.le_refl _,fun j h=>absurd h (by simp)⟩
def Hz(S:Nat→Prop)(A:World)(P:World→Prop):Prop:=∀X,Keep S A X→P X
theorem Hz.now{S:Nat→Prop}{A:World}{P:World→Prop}(h:Hz S A P):P A:=h A (Keep.refl _ _)
theorem Hz.ext{S:Nat→Prop}{A B:World}{P:World→Prop}(h:Hz S A P)(hE:Ext A B):Hz S B P:=fun X hX=>h X ((hE.mono fun _ _ h=>h.elim).trans hX)
theorem Hz.app{S T S':Nat→Prop}{A B:World}{P:World→Prop}(h:Hz S A P)(hk:Keep T A B)(hT:∀b,b<A.heap.size→T b→S b)(hS:∀b,b<A.heap.size→S' b→S b):Hz S' B P:=fun X hX=>by
 have h1:Keep (fun b=>T b∨S' b) A B:=hk.mono fun _ _ h=> .inl h
 have h2:Keep (fun b=>T b∨S' b) B X:=hX.mono fun _ _ h=> .inr h
 exact h X ((h1.trans h2).mono fun b hb h=>h.elim (hT b hb) (hS b hb))
theorem row_hz{S:Nat→Prop}{A:World}{v:Value}{l:List Value}(hr:Row A v l)(hb:∀a n c,v= .slice (some a) n c→a.block<A.heap.size∧¬S a.block):Hz S A (fun X=>Row X v l):=fun X hX=>
 hr.blocks fun a n c hv=>hX.block _ (hb a n c hv).1 (hb a n c hv).2
section
variable {P : Program} {d : Option Tmp} {ty : TypeId} {ps : String} {af : Array Edge} {g : Option (Nat × Bool)} {ρ : Operand → Value} {w : World} {K : Value → World → Prop}
theorem ze7{s:TypeId}{x:Operand}{f:Nat}{fs:Array Field}{fd:Field}{cs:Array Value}{v:Value}(hs:P.underlying s=some (.struct fs))(hf:fs[f]? =some fd)(ha:tyA P fd.type=false)(hu:(P.underlying fd.type).isSome=true)
  (hx:ρ x= .agg cs) (hv:cs[fd.offset]? =some v) (h:K v w):opV P ⟨d,.field s x f,ty,ps,af,g⟩ ρ w K:=by
 show opW P _ ρ w K
 refine zaw (s:=Instr.field s (ρ x) f) (w':=w) (v:=v) ?_ h
 obtain⟨u,hu⟩:=Option.isSome_iff_exists.1 hu
 have hi:(isAgg fd.type).run P w= .ok false w:=by
  unfold tyA at ha
  rw[hu]at ha
  cases u<;>first| (cases ha;done)|simp[isAgg,underlying,program,Sem.run,hu]
 have hp:(part fd.type cs fd.offset).run P w= .ok v w:=by
  unfold part
  simp only[Sem.run_bind,hi,Result.andThen_ok,Bool.false_eq_true,if_false,hv,Sem.run_pure]
 unfold Instr.field
 simp[underlying,program,Sem.run,hs,hf,hx,asAgg]
 exact hp
end
theorem own15_ok{W0 w:World}{b:Nat}{t1 t2:Lab}{q1 q2:Bool}{ov:Value}{o:Nm}{e e1 e2:Int}(hW:WX W0)(h:Rdr W0 w b [(t1,q1),(t2,q2)] ov e)(hl1:t1.length≤1000000)(hl2:t2.length≤1000000)(ho:Row W0 ov (o.map vs))(hoT:NmT o)
  (he1:za6 (if q1=true then za6 e 2 else e) (decP 65535 t1).2=e1) (he2:za6 (if q2=true then za6 e1 2 else e1) (zaI t2 o).2=e2):
  Fn Tryz.prog 160 #[.pointer (some ⟨b,0,Option.none⟩),vi 15] w (fun v w'=>(∃nmv nuv nv,v= .agg #[vi 15,nmv,nuv,.slice Option.none 0 0,.slice Option.none 0 0]∧Own w.heap.size w' 29 nuv [v32 (decP 65535 t1).1]∧Own w.heap.size w' 24 nmv [nv]∧Row w' nv ((zaI t2 o).1.map vs)∧BlkB w.heap.size w' nv)∧Rdr W0 w' b [] ov e2∧Keep (fun i=>i=b) w w'):=by
 have hbl:=h.lt
 have hlow:=h.low
 refine enter Tryz.func160 Tryz.ntmps160 rfl rfl ?_
 refine go trivial ?_
 refine zam ?_
 intro w1 hE1 hs1 hA
 refine rq ?_;intro gd K hgd hK
 try simp only[go_sem]
 refine⟨by kernel_rfl,?_⟩
 rw[show bdV Tryz.prog 34 [(0,vi 15)]=some (.agg #[vi 15,.slice Option.none 0 0,.slice Option.none 0 0,.slice Option.none 0 0,.slice Option.none 0 0]) from by kernel_rfl]
 try simp only[go_sem]
 refine zbj (P:=Tryz.prog) (l:=[vi 15,.slice Option.none 0 0,.slice Option.none 0 0,.slice Option.none 0 0,.slice Option.none 0 0]) rfl (zcH _ _ _ _ _ rfl rfl rfl rfl) rfl rfl ?_
 intro w2 hE2 hs2 hB2
 try simp only[go_sem]
 refine hK _ _ ?_;clear hK hgd;clear K;try clear gd
 rw[hs1]at hB2
 simp only[hs1]
 have hR2:=(h.extx hE1).extx hE2
 refine go trivial ?_
 refine rc trivial (zd8 hR2 15) ?_
 rintro _ w3 ⟨rfl,hE3⟩
 rw[show zfe 15 ([(t1,q1),(t2,q2)]:List (Lab×Bool)).length=true from rfl]
 have d1:decide ((15:Int)=1)=false:=rfl
 have d2:decide ((15:Int)=28)=false:=rfl
 have d3:decide ((15:Int)=16)=false:=rfl
 have d4:decide ((15:Int)=15)=true:=rfl
 refine rgo (an4 d1 d2 d3 d4) ?_
 have hR3:=hR2.extx hE3
 have hs3:=hE3.size
 have hB3:=Ext.at hE3 hB2
 obtain⟨P,hP⟩:∃P,w.heap.size+1=P:=⟨_,rfl⟩
 rw[hP]at hB3 ⊢
 have hP3:P<w3.heap.size:=(Array.getElem?_eq_some_iff.1 hB3).1
 have q3:zad w3 (some ⟨P,2,Option.none⟩)=some (.slice Option.none 0 0):=za1 (j:=2) hB3 rfl
 have hdl:=zbS 65535 t1
 refine zav (Q:=fun e' σ' ds' v'=>e'= .normal∧ds'=[]∧(σ' 0= .pointer (some ⟨b,0,Option.none⟩)∧σ' 4= .pointer (some ⟨w.heap.size,0,Option.none⟩)∧σ' 5= .pointer (some ⟨P,0,Option.none⟩))∧Rdr W0 v' b [(t2,q2)] ov e1∧Keep (fun i=>i=b∨i=P) w3 v'∧∃nuv,v'.heap[P]? =some (.cells [vi 15,.slice Option.none 0 0,nuv,.slice Option.none 0 0,.slice Option.none 0 0].toArray 34 (0,0))∧Own w3.heap.size v' 29 nuv [v32 (decP 65535 t1).1]) ?_ ?_
 ·refine zaS (fun i=>i==7) [(0,true),(1,true),(2,true),(3,false),(4,false),(5,false),(6,true),(7,false)] ((fun i=>i=b)) mixed (by kernel_rfl) ?_;intro gd K x hgd hx hxe hK;have hx0:=zaP hxe;clear hxe
  have q3x:=zab hx0 q3
  have hsx:=hx0.size
  simp (disch:=first|omega|assumption|rfl) only[go_sem,q3x,Nat.zero_add]
  refine⟨fun a ha hb'=>by cases ha;dsimp only at hb';omega,?_⟩
  refine Fn.mono (num_ok hW (hR3.extx hx0) (by simp) (by omega) 65535 (by decide)) ?_
  rw[he1]
  rintro _ y1 ⟨rfl,hR1,hk1⟩
  refine⟨.inr hk1,?_⟩
  simp (disch:=first|omega|assumption|rfl) only[go_sem]
  refine za5 (z:=v32 0) rfl rfl rfl rfl rfl ?_
  intro y2 hy2 hys2 hyo
  refine⟨.inr hy2.keep,?_⟩
  simp (disch:=first|omega|assumption|rfl) only[go_sem]
  have hsy1:=hk1.size
  have hsy2:=hy2.size
  refine za2 (B:=w3.heap.size) (e:=29) (Own.nil _ _ _) hyo.row rfl rfl rfl rfl rfl rfl (vr0) (vr0) (fun q hq=>by rw[List.mem_singleton.1 hq];rfl) (by simp) (by decide) (by omega) ?_
  intro sv' y3 hown3 hX3 hK3 hb3'
  refine⟨.inr (hK3.mono fun i _ h=>by cases h),?_⟩
  simp (disch:=first|omega|assumption|rfl) only[go_sem,Nat.zero_add]
  have hsK:=hK3.size
  have hBP3:y3.heap[P]? =_:=(hK3.block P (by omega) (fun h=>by cases h)).trans ((hy2.block P (by omega) (fun h=>h)).trans ((hk1.block P (by omega) (by omega)).trans (Ext.at hx0 hB3)))
  refine zcG (P:=Tryz.prog) (t:=31) (j:=2) (u:=sv') hBP3 (by simp) (by obtain⟨a,c,rfl⟩:=hown3.slice;rfl) rfl rfl ?_
  intro z hzs hBz hkz
  refine⟨.inl rfl,?_⟩
  simp (disch:=first|omega|assumption|rfl) only[go_sem]
  refine hK _ _ ?_;clear hK hgd;clear K;try clear gd
  simp only[List.set_cons_zero,List.set_cons_succ]at hBz
  have ha:Keep (fun i=>i=b∨i=P) w3 y2:=((hx0.mono fun _ _ h=>h.elim).trans (hk1.mono fun _ _ h=> .inl h)).trans (hy2.mono fun _ _ h=>h.elim)
  exact⟨rfl,rfl,⟨vr0,vr0,vr0⟩,((hR1.extx hy2).keep hK3 fun i hi=>by cases hi).keep hkz fun i hi=>by omega,(ha.own hK3 fun i hi h=>by cases h).trans (hkz.mono fun _ _ h=> .inr h),sv',hBz,hown3.keep hkz fun i hi hs=>by have:=(hown3.ge hi).1;omega⟩
 rintro _ σ1 _ w4 ⟨rfl,rfl,⟨s0,s4,s5⟩,hR4,hk4,nuv,hB4,hnu⟩
 have hs4:=hk4.size
 obtain⟨na,nc,hnuv⟩:=hnu.slice
 have q4:zad w4 (some ⟨P,1,Option.none⟩)=some (.slice Option.none 0 0):=za1 (j:=1) hB4 rfl
 refine go (an3 s0 s4 s5) ?_
 refine zav (Q:=fun e' σ' ds' v'=>e'= .normal∧ds'=[]∧(σ' 4= .pointer (some ⟨w.heap.size,0,Option.none⟩)∧σ' 5= .pointer (some ⟨P,0,Option.none⟩))∧Rdr W0 v' b [] ov e2∧Keep (fun i=>i=b∨i=P) w4 v'∧∃nmv nv,v'.heap[P]? =some (.cells [vi 15,nmv,nuv,.slice Option.none 0 0,.slice Option.none 0 0].toArray 34 (0,0))∧Own w4.heap.size v' 24 nmv [nv]∧Row v' nv ((zaI t2 o).1.map vs)∧BlkB w4.heap.size v' nv∧one nv=true) ?_ ?_
 ·refine zaS (fun i=>i==7) [(0,true),(1,true),(2,true),(3,false),(4,false),(5,false),(6,true),(7,false)] ((fun i=>i=b)) mixed (by kernel_rfl) ?_;intro gd K x hgd hx hxe hK;have hx0:=zaP hxe;clear hxe
  have q4x:=zab hx0 q4
  have hsx:=hx0.size
  simp (disch:=first|omega|assumption|rfl) only[go_sem,s0,s5,q4x,Nat.zero_add]
  refine⟨fun a ha hb'=>by cases ha;dsimp only at hb';omega,?_⟩
  refine Fn.mono (zi5 (hR4.extx hx0) (by simp) (by omega) ho hoT) ?_
  rw[he2]
  rintro nv y1 ⟨hrow,hbk,hR1,hk1⟩
  refine⟨.inr hk1,?_⟩
  obtain⟨nva,nvc,hnve,_⟩:=id hrow
  simp (disch:=first|omega|assumption|rfl) only[go_sem]
  refine za5 (z:= .slice Option.none 0 0) (v:=nv) rfl rfl rfl rfl (by rw[hnve];rfl) ?_
  intro y2 hy2 hys2 hyo
  refine⟨.inr hy2.keep,?_⟩
  simp (disch:=first|omega|assumption|rfl) only[go_sem]
  have hsy1:=hk1.size
  have hsy2:=hy2.size
  refine za2 (B:=w4.heap.size) (e:=24) (Own.nil _ _ _) hyo.row rfl rfl rfl rfl rfl rfl (vr0) (vr0) (fun q hq=>by rw[List.mem_singleton.1 hq,hnve];rfl) (by simp) (by decide) (by omega) ?_
  intro sv' y3 hown3 hX3 hK3 hb3'
  refine⟨.inr (hK3.mono fun i _ h=>by cases h),?_⟩
  simp (disch:=first|omega|assumption|rfl) only[go_sem,s5,Nat.zero_add]
  have hsK:=hK3.size
  have hBP3:y3.heap[P]? =_:=(hK3.block P (by omega) (fun h=>by cases h)).trans ((hy2.block P (by omega) (fun h=>h)).trans ((hk1.block P (by omega) (by omega)).trans (Ext.at hx0 hB4)))
  refine zcG (P:=Tryz.prog) (t:=30) (j:=1) (u:=sv') hBP3 (by simp) (by obtain⟨a,c,rfl⟩:=hown3.slice;rfl) rfl rfl ?_
  intro z hzs hBz hkz
  refine⟨.inl rfl,?_⟩
  simp (disch:=first|omega|assumption|rfl) only[go_sem]
  refine hK _ _ ?_;clear hK hgd;clear K;try clear gd
  simp only[List.set_cons_zero,List.set_cons_succ]at hBz
  have ha:Keep (fun i=>i=b∨i=P) w4 y2:=((hx0.mono fun _ _ h=>h.elim).trans (hk1.mono fun _ _ h=> .inl h)).trans (hy2.mono fun _ _ h=>h.elim)
  have hrz:Row z nv ((zaI t2 o).1.map vs):=by
   refine Row.blocks (w:=y3) (Row.blocks (w:=y2) (hrow.ext hy2) fun a n' c hv=>?_) fun a n' c hv=>?_
   ·have h2:=hbk a n' c hv
    exact hK3.block _ (by omega) (fun hh=>by cases hh)
   ·have h2:=hbk a n' c hv
    exact hkz.block _ (by omega) (by omega)
  refine⟨rfl,rfl,⟨(vq1 s4),(vq1 s5)⟩,((hR1.extx hy2).keep hK3 fun i hi=>by cases hi).keep hkz fun i hi=>by omega,(ha.own hK3 fun i hi h=>by cases h).trans (hkz.mono fun _ _ h=> .inr h),sv',nv,hBz,hown3.keep hkz fun i hi hs=>by have:=(hown3.ge hi).1;omega,hrz,fun a n' c hv=>?_,by rw[hnve];rfl⟩
  have h2:=hbk a n' c hv
  omega
 clear s0 s4 s5
 rintro _ σ2 _ w5 ⟨rfl,rfl,⟨s4,s5⟩,hR5,hk5,nmv,nv,hB5,hnm,hnr,hnb,hn1⟩
 obtain⟨ma,mc,hnmv⟩:=hnm.slice
 have hs5:=hk5.size
 have q5:=zai (n:=5) hB5 rfl
 refine go (an2 s4 s5) ?_
 refine rq ?_;intro gd K hgd hK
 try simp (disch:=first|omega|assumption|rfl) only[go_sem,s4,s5,q5]
 have hA5:w5.heap[w.heap.size]? =_:=(hk5.block _ (by omega) (by omega)).trans ((hk4.block _ (by omega) (by omega)).trans (Ext.at (hE2.trans hE3) hA))
 refine zaK (P:=Tryz.prog) (t:=34) (l:=[vi 15,nmv,nuv,.slice Option.none 0 0,.slice Option.none 0 0]) hA5 rfl (zcH _ _ _ _ _ (by rw[hnmv];rfl) (by rw[hnuv];rfl) rfl rfl) rfl rfl ?_
 intro w6 hs6 hB6 hk6
 try simp only[go_sem]
 refine hK _ _ ?_;clear hK hgd;clear K;try clear gd
 refine go trivial ?_
 refine zaf (.inr rfl) Tryz.ntmps160 rfl (zaL (x:=⟨w.heap.size,0,Option.none⟩) (k:=5) ((vr1 s4)) rfl rfl (zai hB6 rfl) zae) ?_
 have hE13:=(hE1.trans hE2).trans hE3
 refine⟨⟨nmv,nuv,nv,rfl,((hnu.keep hk5 fun i hi hs=>by have:=hnu.ge hi;omega).keep hk6 fun i hi hs=>by have:=hnu.ge hi;omega).mono (by omega),(hnm.keep hk6 fun i hi hs=>by have:=(hnm.ge hi).1;omega).mono (by omega),hnr.blocks fun a n' c hv=>hk6.block _ (hnb a n' c hv).2 (by have:=(hnb a n' c hv).1;omega),(hnb.ext hk6.size).mono (by omega)⟩,hR5.keep hk6 fun i hi=>by omega,?_⟩
 exact((((hE13.mono fun _ _ h=>h.elim):Keep (fun i=>i=b) w w3).own hk4 fun i hi h=>by omega).own hk5 fun i hi h=>by omega).own hk6 fun i hi h=>by omega
theorem zbz(w:World):Row w (.slice Option.none 0 0) []:=(Own.nil 0 w 0).row
def rawD(T:Int)(bs:List UInt8):DatL:=⟨T,[],[],[],bs⟩
theorem raw_at{w:World}{rv:Value}{T:Int}{bs:List UInt8}(h:Row w rv (bs.map zao)):DatAt w [vi T,.slice Option.none 0 0,.slice Option.none 0 0,.slice Option.none 0 0,rv] (rawD T bs):=⟨_,_,_,_,rfl,zbW w,zbz w,zbz w,h⟩
theorem raw_T{T:Int}{bs:List UInt8}(h:bs.length≤2000):DatT (rawD T bs):=⟨⟨(fun n hn=>by cases hn),(by simp[rawD]),(by simp[rawD]),(fun n hn=>by cases hn),(by simp[rawD]),(fun n hn=>by cases hn),h⟩,(by simp[rawD])⟩
theorem any_ok{W0 w:World}{b:Nat}{t0 t:Lab}{q0:Bool}{ws:List (Lab×Bool)}{ov:Value}{n:Nat}{bs:List UInt8}(hW:WX W0)(h:Rdr W0 w b ((t0,q0)::(t,false)::ws) ov 0)(T:Int)(hT:(zaC T).2.2.2≠0)(hl:ws.length≤1000)(ht:t.length≤1000000)(hn:decP 4294967295 t=(n,0))(hn2:n≤1024)(hwq:∀x∈ws,x.2=false∧x.1.length≤1000000)(htr:Lib.trimS (catW ws) digs16=[])(hlen:(catW ws).length=2*n)(hp:Pairs (catW ws) bs):
  Fn Tryz.prog 159 #[.pointer (some ⟨b,0,Option.none⟩),vi T] w (fun v w'=>(∃rv,v= .agg #[vi T,.slice Option.none 0 0,.slice Option.none 0 0,.slice Option.none 0 0,rv]∧Own w.heap.size w' 5 rv (bs.map zao))∧Rdr W0 w' b [] ov (zbx (rawD T bs))∧Keep (fun i=>i=b) w w'):=by
 have hbl:=h.lt
 have hlow:=h.low
 obtain⟨wv,hb,hr⟩:=h.at'
 obtain⟨a,c,rfl,hc,hg⟩:=hr.open
 rw[List.length_cons]at hc
 have hdr:=hr.drop (m:=1) (by simp)
 rw[List.drop_one,List.tail_cons,List.length_cons]at hdr
 have l1:(1:Int)≤((((t,false)::ws).length+1:Nat):Int):=by omega
 have l2:(1:Int)≤(c:Int):=by omega
 have hbsl:bs.length=n:=by have:=hp.1;omega
 refine enter Tryz.func159 Tryz.ntmps159 rfl rfl ?_
 refine go trivial ?_
 refine zam ?_
 intro w1 hE1 hs1 hA
 have hb1:=Ext.at hE1 hb
 have c0:zad w1 (some ⟨b,0,Option.none⟩)=some (.slice a (((t,false)::ws).length+1) c):=zaa hb1 rfl
 refine rq ?_;intro gd K hgd hK
 try simp (disch:=first|omega|assumption|rfl) only[go_sem,c0,l1,l2,Nat.zero_add]
 refine zan (P:=Tryz.prog) rfl rfl rfl hb1 (by simp) (by simp) ?_
 intro w2 hs2 hb2 hk2
 try simp only[go_sem]
 refine hK _ _ ?_;clear hK hgd;clear K;try clear gd
 have hR2:Rdr W0 w2 b ((t,false)::ws) ov 0:=⟨Keep.to_ext (h.ext.trans hE1) rfl (fun i hi=>by omega) hk2,h.low,⟨_,hb2,hdr⟩,h.one⟩
 refine go trivial ?_
 refine rq ?_;intro gd K hgd hK
 try simp only[go_sem]
 refine⟨by kernel_rfl,?_⟩
 rw[show bdV Tryz.prog 34 [(0,vi T)]=some (.agg #[vi T,.slice Option.none 0 0,.slice Option.none 0 0,.slice Option.none 0 0,.slice Option.none 0 0]) from by kernel_rfl]
 try simp only[go_sem]
 refine zbj (P:=Tryz.prog) (l:=[vi T,.slice Option.none 0 0,.slice Option.none 0 0,.slice Option.none 0 0,.slice Option.none 0 0]) rfl (zcH _ _ _ _ _ rfl rfl rfl rfl) rfl rfl ?_
 intro w3 hE3 hs3 hB3
 try simp only[go_sem]
 refine hK _ _ ?_;clear hK hgd;clear K;try clear gd
 have hw2:w2.heap.size=w.heap.size+1:=by omega
 rw[hw2]at hB3
 simp only[hw2]
 have hR3:=hR2.extx hE3
 refine go trivial ?_
 refine rq ?_;intro gd K hgd hK
 try simp only[go_sem]
 refine Fn.mono (ziY w3 T) ?_
 rintro _ w4 ⟨rfl,hE4⟩
 unfold zeE
 try simp only[go_sem]
 refine ze7 (cs:=#[vi (zaC T).1,vi (zaC T).2.1,vi (zaC T).2.2.1,vi (zaC T).2.2.2]) rfl rfl rfl rfl (vr0) rfl ?_
 have d1:decide ((zaC T).2.2.2=0)=false:=decide_eq_false hT
 try simp (disch:=first|omega|assumption|rfl) only[go_sem,d1]
 refine hK _ _ ?_;clear hK hgd;clear K;try clear gd
 have hR4:=hR3.extx hE4
 obtain⟨wv4,hb4,hr4⟩:=hR4.at'
 obtain⟨a4,k4,rfl,_,_⟩:=hr4.open
 have c4:zad w4 (some ⟨b,0,Option.none⟩)=some (.slice a4 ((t,false)::ws).length k4):=zaa hb4 rfl
 have d2:decide ((((t,false)::ws).length:Int)=0)=false:=decide_eq_false (by rw[List.length_cons];omega)
 refine go (an4 d1 c4 d2 (Nat.zero_add 0)) ?_
 have hs4:=hE4.size
 refine rq ?_;intro gd K hgd hK
 try simp only[go_sem]
 refine Fn.mono (zhP hW hR4 hl ht hn hn2 hwq htr hlen hp) ?_
 rintro rv w5 ⟨hown,hR5,hk5⟩
 obtain⟨ra,rc',hrv⟩:=hown.slice
 have hs5:=hk5.size
 have hB5:=(hk5.block (w.heap.size+1) (by omega) (by omega)).trans (Ext.at hE4 hB3)
 try simp (disch:=first|omega|assumption|rfl) only[go_sem,Nat.zero_add]
 refine zcG (P:=Tryz.prog) (t:=32) (j:=4) (u:=rv) hB5 (by simp) (by rw[hrv];rfl) rfl rfl ?_
 intro w6 hs6 hB6 hk6
 try simp only[go_sem]
 refine hK _ _ ?_;clear hK hgd;clear K;try clear gd
 simp only[List.set_cons_zero,List.set_cons_succ]at hB6
 have hR6:Rdr W0 w6 b [] ov 0:=hR5.keep hk6 fun i hi=>by omega
 have hown6:=hown.keep hk6 fun i hi hs=>by have:=(hown.ge hi).1;omega
 obtain⟨wv6,hb6,_⟩:=hR6.at'
 have c6:zad w6 (some ⟨b,2,Option.none⟩)=some (vi 0):=zaa hb6 rfl
 have q6:=zai (n:=5) hB6 rfl
 have ez:decide ((0:Int)=0)=true:=rfl
 refine go (an3 c6 ez (Nat.zero_add 2)) ?_
 refine rc q6 (zkb (cs:=[vi T,.slice Option.none 0 0,.slice Option.none 0 0,.slice Option.none 0 0,rv]) (raw_at hown6.row) (raw_T (by omega))) ?_
 rintro _ w7 ⟨rfl,hE7⟩
 refine rd trivial (zcm (hR6.extx hE7) (zbx (rawD T bs))) ?_
 rw[show za6 0 (zbx (rawD T bs))=zbx (rawD T bs) from rfl]
 rintro _ w8 ⟨hR8,hk8⟩
 have hs7:=hE7.size
 have hs8:=hk8.size
 refine rgo trivial ?_
 have hB8:=(hk8.block (w.heap.size+1) (by omega) (by omega)).trans (Ext.at hE7 hB6)
 have q8:=zai (n:=5) hB8 rfl
 refine rq ?_;intro gd K hgd hK
 try simp (disch:=first|omega|assumption|rfl) only[go_sem,q8]
 have hk36:Keep (fun i=>i=b∨i=w.heap.size+1) w3 w8:=(((hE4.mono fun _ _ h=>h.elim).trans (hk5.mono fun _ _ h=> .inl h)).trans (hk6.mono fun _ _ h=> .inr h)).trans ((hE7.mono fun _ _ h=>h.elim).trans (hk8.mono fun _ _ h=> .inl h))
 have hA8:w8.heap[w.heap.size]? =_:=(hk36.block _ (by omega) (by omega)).trans (Ext.at hE3 ((hk2.block _ (by omega) (by omega)).trans hA))
 refine zaK (P:=Tryz.prog) (t:=34) (l:=[vi T,.slice Option.none 0 0,.slice Option.none 0 0,.slice Option.none 0 0,rv]) hA8 rfl (zcH _ _ _ _ _ rfl rfl rfl (by rw[hrv];rfl)) rfl rfl ?_
 intro w9 hs9 hB9 hk9
 try simp only[go_sem]
 refine hK _ _ ?_;clear hK hgd;clear K;try clear gd
 refine go trivial ?_
 refine zaf (.inr rfl) Tryz.ntmps159 rfl (zaL (x:=⟨w.heap.size,0,Option.none⟩) (k:=5) (vr0) rfl rfl (zai hB9 rfl) zae) ?_
 refine⟨⟨rv,rfl,((((hown6.ext hE7).keep hk8 fun i hi hs=>by have:=(hown6.ge hi).1;omega)).keep hk9 fun i hi hs=>by have:=(hown6.ge hi).1;omega).mono (by omega)⟩,hR8.keep hk9 fun i hi=>by omega,?_⟩
 have hk03:Keep (fun i=>i=b) w w3:=((hE1.mono fun _ _ h=>h.elim).trans hk2).trans (hE3.mono fun _ _ h=>h.elim)
 exact(hk03.own hk36 fun i hi h=>by omega).own hk9 fun i hi h=>by omega
def zbH(ws:List (Lab×Bool)):Bool:=match ws with|x::_=>decide (x=([92,35],false))| []=>false
theorem zeU{w:World}{t:Int}{wv:Value}{oa:Option Addr}{on oc:Nat}{ws:List (Lab×Bool)}{e:Int}{G:Nat→List Value→World→Prop}(ht1:1≤t)(ht2:t≤65535)(hr:Rows 2 WdC w wv ws)
  (hG:∀B cs x y S,G B cs x→Keep S x y→(∀i,S i→i<B)→G B cs y)
  (hc:∀(b:Nat) (w1:World),Rdr w w1 b ws (.slice oa on oc) 0→Fn Tryz.prog (if zbH ws=true then 159 else 160) #[.pointer (some ⟨b,0,Option.none⟩),vi t] w1 (fun v w'=>(∃cs:List Value,v= .agg cs.toArray∧cs.length=5∧(∀x∈cs,one x=true)∧G w1.heap.size cs w')∧Rdr w w' b [] (.slice oa on oc) e∧Keep (fun i=>i=b) w1 w')):
  Fn Tryz.prog 134 #[vi t,wv,.slice oa on oc] w (fun v w'=>Ext w w'∧(e=0→∃cs:List Value,∃B,v= .tuple #[.agg cs.toArray,vi 0]∧w.heap.size≤B∧G B cs w')∧(¬e=0→v= .tuple #[.agg ([vi 0,.slice Option.none 0 0,.slice Option.none 0 0,.slice Option.none 0 0,.slice Option.none 0 0]:List Value).toArray,vi e])):=by
 obtain⟨wa,wc,rfl,hcap,hget⟩:=hr.open
 refine enter Tryz.func134 Tryz.ntmps134 rfl rfl ?_
 refine go trivial ?_
 refine zam ?_
 intro w1 hE1 hs1 hA
 refine rq ?_;intro gd K hgd hK
 try simp only[go_sem]
 refine⟨by kernel_rfl,?_⟩
 rw[show bdV Tryz.prog 234 [(0,.slice wa ws.length wc),(1,.slice oa on oc)]=some (.agg #[.slice wa ws.length wc,.slice oa on oc,vi 0]) from by kernel_rfl]
 try simp only[go_sem]
 refine hK _ _ ?_;clear hK hgd;clear K;try clear gd
 refine zam ?_
 intro w2 hE2 hs2 hB
 rw[hs1]at hB
 simp only[hs1]
 refine go trivial ?_
 refine zam ?_
 intro w3 hE3 hs3 hC
 have hw2:w2.heap.size=w.heap.size+2:=by omega
 rw[hw2]at hC
 simp only[hw2]
 have hR3:Rdr w w3 (w.heap.size+1) ws (.slice oa on oc) 0:=⟨(hE1.trans hE2).trans hE3,by omega,⟨_,Ext.at hE3 hB,hr⟩,rfl⟩
 refine rgg [(2,20)] (an2 (decide_eq_false (show¬t<1 by omega)) (decide_eq_false (show¬65535<t by omega))) ?_
 refine go trivial ?_
 refine zav (Q:=fun e' σ' ds' v'=>e'= .normal∧ds'=[]∧v'=w3∧(σ' 0=vi t∧σ' 6= .pointer (some ⟨w.heap.size,0,Option.none⟩)∧σ' 8= .pointer (some ⟨w.heap.size+1,0,Option.none⟩)∧σ' 9= .pointer (some ⟨w.heap.size+2,0,Option.none⟩))∧σ' 25= .bool (zbH ws)) ?_ ?_
 ·cases ws with
  |nil=>
   refine rgg [(3,29)] (show decide ((0:Int)<(([]:List (Lab×Bool)).length:Int))=false from rfl) ?_
   exact⟨rfl,rfl,rfl,⟨vr0,vr0,vr0,vr0⟩,vr0⟩
  |cons x rest=>
   obtain⟨tx,qx⟩:=x
   obtain⟨cs0,g0,hcs⟩:=hget 0 (by simp)
   simp only[List.getElem_cons_zero,Nat.zero_mul,zak]at g0 hcs
   unfold WdC at hcs
   subst hcs
   have g:=zaj hR3.ext g0
   obtain⟨xa,rfl⟩:∃x,wa=some x:=by
    cases wa with
    |none=>cases g0
    |some x=>exact⟨x,rfl⟩
   have l0:decide ((0:Int)<((((tx,qx)::rest).length:Nat):Int))=true:=decide_eq_true (by rw[List.length_cons];omega)
   have l0':(0:Int)<((((tx,qx)::rest).length:Nat):Int):=by rw[List.length_cons];omega
   refine rq ?_;intro gd K hgd hK
   have hg3:∀n σ b,zaJ gd n σ (some (3,b))=zat (ev n σ (.tmp 29)) b:=(fun n σ b=>by rw[zag,show gd 3=some 29 from(by rw[hgd];rfl)];rfl)
   try simp (disch:=first|omega|assumption|rfl) only[go_sem,l0,l0',Int.toNat_zero,Nat.zero_mul,zak,g,↓hg3]
   refine⟨by kernel_rfl,?_⟩
   rw[show bdV Tryz.prog 145 [(0,vs [92,35])]=some (.agg #[vs [92,35],.bool false]) from by kernel_rfl]
   try simp (disch:=first|omega|assumption|rfl) only[go_sem,l0,↓hg3]
   refine op_eqS (a:=tx) (b:=qx) (a':=[92,35]) (b':=false) rfl (by decide) (by decide) rfl rfl (by kernel_rfl) rfl rfl (by kernel_rfl) (vr0) (vr0) ?_
   try simp (disch:=first|omega|assumption|rfl) only[go_sem,l0,↓hg3]
   refine hK _ _ ?_;clear hK hgd;clear K;try clear gd
   exact⟨rfl,rfl,rfl,⟨vr0,vr0,vr0,vr0⟩,vr0⟩
 rintro _ σ1 _ w1 ⟨rfl,rfl,rfl,⟨s0,s6,s8,s9⟩,s25⟩
 have hcb:=hc _ _ hR3
 cases hm:zbH ws
 all_goals
  rw[hm]at s25 hcb
  first
   |rw[if_pos rfl]at hcb
   |rw[if_neg (by decide)]at hcb
  refine go (an5 s0 s6 s8 s9 s25) ?_
  refine rq ?_;intro gd K hgd hK
  try simp (disch:=first|omega|assumption|rfl) only[go_sem,s0,s6,s8,s9]
  refine Fn.mono hcb ?_
  rintro _ w4 ⟨⟨cs,rfl,hcs,hcs1,hg4⟩,hR4,hk4⟩
  have hs4:=hk4.size
  have hC4:=(hk4.block (w.heap.size+2) (by omega) (by omega)).trans hC
  try simp (disch:=first|omega|assumption|rfl) only[go_sem,s9]
  refine zaK (P:=Tryz.prog) (t:=34) (l:=cs) hC4 (by simp[hcs]) hcs1 (by rw[hcs];rfl) rfl ?_
  intro w5 hs5 hC5 hk5
  try simp only[go_sem]
  refine hK _ _ ?_;clear hK hgd;clear K;try clear gd
  rw[show w1.heap.size=w.heap.size+3 by omega]at hg4
  have hG5:=hG _ _ _ _ _ hg4 hk5 fun i hi=>by omega
  have hR5:Rdr w w5 (w.heap.size+1) [] (.slice oa on oc) e:=hR4.keep hk5 fun i hi=>by omega
  obtain⟨wv5,hb5,_⟩:=hR5.at'
  have c5:zad w5 (some ⟨w.heap.size+1,2,Option.none⟩)=some (vi e):=zaa hb5 rfl
  have hA5:=(hk5.block w.heap.size (by omega) (by omega)).trans ((hk4.block w.heap.size (by omega) (by omega)).trans (Ext.at (hE2.trans hE3) hA))
  have hE5:Ext w w5:=hR5.ext
  by_cases he:e=0
  ·subst he
   have ez:decide ((0:Int)=0)=true:=rfl
   have p9:zaq w5 (some ⟨w.heap.size+2,0,Option.none⟩) 5=some cs:=by
    have:=zai (n:=5) hC5 (by simp[hcs])
    exact this
   refine go (an6 s6 s8 s9 c5 ez (Nat.zero_add 2)) ?_
   refine rq ?_;intro gd K hgd hK
   try simp (disch:=first|omega|assumption|rfl) only[go_sem,s6,s9,p9]
   refine zaK (P:=Tryz.prog) (t:=34) (l:=cs) hA5 (by rw[hcs];rfl) hcs1 (by rw[hcs];rfl) rfl ?_
   intro w6 hs6 hB6 hk6
   try simp only[go_sem]
   refine hK _ _ ?_;clear hK hgd;clear K;try clear gd
   refine go trivial ?_
   refine zaf (.inr rfl) Tryz.ntmps134 rfl (zaL (x:=⟨w.heap.size,0,Option.none⟩) (k:=5) ((vr1 s6)) rfl rfl (zai (n:=5) hB6 (by simp[hcs])) (zac (vr0) zae)) ?_
   exact⟨Keep.to_ext hE5 rfl (fun i hi=>by omega) hk6,fun _=>⟨cs,_,rfl,(by omega),hG _ _ _ _ _ hG5 hk6 fun i hi=>by omega⟩,fun h=>absurd rfl h⟩
  ·refine go (an6 s6 s8 s9 c5 (decide_eq_false he) (Nat.zero_add 2)) ?_
   refine zaS (fun _=>false) [(0,true),(1,true),(2,true),(3,true),(4,true),(5,false),(6,true)] ((fun i=>i=w.heap.size)) mixed (by kernel_rfl) ?_;intro gd K x hgd hx hxe hK;have hx0:=zaP hxe;clear hxe
   have c5x:=zab hx0 c5
   simp (disch:=first|omega|assumption|rfl) only[go_sem]
   refine⟨by kernel_rfl,?_⟩
   rw[show bdV Tryz.prog 34 []=some (.agg #[vi 0,.slice Option.none 0 0,.slice Option.none 0 0,.slice Option.none 0 0,.slice Option.none 0 0]) from by kernel_rfl]
   simp (disch:=first|omega|assumption|rfl) only[go_sem,s6,s8,c5x,Nat.zero_add]
   refine⟨fun a ha hb'=>by cases ha;dsimp only at hb';omega,?_⟩
   refine zaK (P:=Tryz.prog) (t:=34) (l:=[vi 0,.slice Option.none 0 0,.slice Option.none 0 0,.slice Option.none 0 0,.slice Option.none 0 0]) (Ext.at hx0 hA5) rfl (zcH _ _ _ _ _ rfl rfl rfl rfl) rfl rfl ?_
   intro w6 hs6 hB6 hk6
   refine⟨.inr hk6,?_⟩
   simp (disch:=first|omega|assumption|rfl) only[go_sem]
   refine hK _ _ ?_;clear hK hgd;clear K;try clear gd
   refine go trivial ?_
   have hE6:Ext w w6:=Keep.to_ext (hE5.trans hx0) rfl (fun i hi=>by omega) hk6
   refine zaf (.inr rfl) Tryz.ntmps134 rfl (zaL (x:=⟨w.heap.size,0,Option.none⟩) (k:=5) ((vr1 s6)) rfl rfl (zai (n:=5) hB6 rfl) (zac (vr0) zae)) ?_
   exact⟨hE6,fun h=>absurd h he,fun _=>rfl⟩
set_option maxRecDepth 100000
theorem zdz{B:Nat}{e:TypeId}{w:World}{v:Value}{l:List Value}(h:Own B w e v l):Hz (fun i=>i<B) w (fun X=>Row X v l):=fun X hX=>(h.keep hX fun i hi hs=>by have:=(h.ge hi).1;omega).row
def GD(d:DatL)(B:Nat)(cs:List Value)(w:World):Prop:=Hz (fun i=>i<B) w (fun X=>DatAt X cs d)
theorem zj8(d:DatL):∀B cs x y S,GD d B cs x→Keep S x y→(∀i,S i→i<B)→GD d B cs y:=fun B cs x y S h hk hS X hX=>h X ((hk.mono fun i _ hi=>hS i hi).trans hX)
theorem zeV{d:DatL}{B:Nat}{cs:List Value}{w:World}(h:GD d B cs w):cs.length=5∧∀x∈cs,one x=true:=by
 obtain⟨nm,nu,tx,rw',rfl,⟨vals,h1,_,_⟩,h2,h3,h4⟩:=h.now.ex
 exact⟨rfl,zcH _ _ _ _ _ h1.isOne h2.isOne h3.isOne h4.isOne⟩
theorem PkG{w:World}{t:Int}{wv:Value}{oa:Option Addr}{on oc:Nat}{ws:List (Lab×Bool)}{d:DatL}(ht1:1≤t)(ht2:t≤65535)(hr:Rows 2 WdC w wv ws)
  (hc:∀(b:Nat) (w1:World),Rdr w w1 b ws (.slice oa on oc) 0→Fn Tryz.prog (if zbH ws=true then 159 else 160) #[.pointer (some ⟨b,0,Option.none⟩),vi t] w1 (fun v w'=>(∃cs:List Value,v= .agg cs.toArray∧GD d w1.heap.size cs w')∧Rdr w w' b [] (.slice oa on oc) 0∧Keep (fun i=>i=b) w1 w')):
  Fn Tryz.prog 134 #[vi t,wv,.slice oa on oc] w (fun v w'=>Ext w w'∧∃cs:List Value,v= .tuple #[.agg cs.toArray,vi 0]∧GD d w.heap.size cs w'):=by
 refine Fn.mono (zeU (e:=0) (G:=GD d) ht1 ht2 hr (zj8 d) (fun b w1 h=>Fn.mono (hc b w1 h) ?_)) ?_
 ·rintro v w' ⟨⟨cs,rfl,hg⟩,h2⟩
  exact⟨⟨cs,rfl,(zeV hg).1,(zeV hg).2,hg⟩,h2⟩
 ·rintro v w' ⟨hE,h0,_⟩
  obtain⟨cs,B,rfl,hB,hg⟩:=h0 rfl
  exact⟨hE,cs,rfl,fun X hX=>hg X (hX.mono fun i _ h=>by omega)⟩
set_option maxRecDepth 10000
def zeP(l:Lab):Bool:=match l with
 |c::_=>decide (c=32)||decide (c=9)
 | []=>false
def entOf(n:Nat)(x:Lab×List (Lab×Bool)):List EntL:=if x.2=[] then [] else [⟨n,zeP x.1,x.2⟩]
def entF(n:Nat):List (Lab×List (Lab×Bool))→List EntL
 | []=>[]
 |x::xs=>entOf n x++entF (n+1) xs
theorem zhv:∀(n:Nat) (xs ys:List (Lab×List (Lab×Bool))),entF n (xs++ys)=entF n xs++entF (n+xs.length) ys
 |n,[],ys=>rfl
 |n,x::xs,ys=>by
  rw[List.cons_append,entF,entF,zhv (n+1) xs ys,List.append_assoc,List.length_cons,show n+1+xs.length=n+(xs.length+1) by omega]
theorem zfo:∀(n:Nat) (xs:List (Lab×List (Lab×Bool))),(entF n xs).length≤xs.length
 |n,[]=>Nat.le_refl _
 |n,x::xs=>by
  have:=zfo (n+1) xs
  rw[entF,List.length_append,List.length_cons]
  unfold entOf
  split<;>simp<;>omega
theorem zi2:∀(ls:List Lab) (n:Nat) (pre suf:List (Nat×Lab)) (x:Nat×Lab),numL n ls=pre++x::suf→∃h:pre.length<ls.length,x=(n+pre.length,ls[pre.length])
 | [],n,pre,suf,x,h=>by simp[numL]at h
 |l::ls,n,[],suf,x,h=>by
  injection h with h1 _
  exact⟨by simp,h1.symm⟩
 |l::ls,n,p::pre,suf,x,h=>by
  injection h with _ h2
  obtain⟨h3,h4⟩:=zi2 ls (n+1) pre suf x h2
  refine⟨by simpa using h3,?_⟩
  rw[h4]
  simp
  omega
theorem zfa:∀(ls:List Lab) (n:Nat),(numL n ls).length=ls.length
 | [],_=>rfl
 |l::ls,n=>by rw[numL,List.length_cons,zfa ls,List.length_cons]
theorem TR.rows{B b:Nat}{w:World}{out:List EntL}{nl ln:Int}{nb bg:Bool}{nw:List (Lab×Bool)}{ov wv:Value}{G:List (EntL×List Value)}(h:TR B w b out nl nb nw ln bg ov wv G):Rows 3 (EntC w) w ov out:=by
 obtain⟨L,k1,k2,k3⟩:=h.oo.rows
 rw[h.ol]
 refine⟨L,k1,by rw[k2,List.length_map],fun i hi hi'=>?_⟩
 have hi2:i<G.length:=by omega
 rw[(k3 i hi hi2).1,List.getElem_map]
 obtain⟨v,e,h1,_⟩:=h.fr _ (List.getElem_mem hi2)
 exact⟨v,e,h1⟩
structure LnsOk(xs:List (Lab×List (Lab×Bool))):Prop where
 each:∀x∈xs,Toks x.1 x.2∧zeu x.1∧x.1.length≤100000000
 len:(za0 (xs.map Prod.fst)).length≤3900000000
 few:xs.length≤1000000000
theorem zif{w:World}(hX:WX w){xs:List (Lab×List (Lab×Bool))}(hx:LnsOk xs):Fn Tryz.prog 59 #[vs (za0 (xs.map Prod.fst))] w (fun v w'=>Ext w w'∧∃ev,v= .tuple #[ev,vi 0,vi 0]∧(∀a n c,ev= .slice (some a) n c→w.heap.size≤a.block)∧Hz (fun i=>i<w.heap.size) w' (fun X=>Rows 3 (EntC X) X ev (entF 1 xs))):=by
 obtain⟨s,hs⟩:∃s,za0 (xs.map Prod.fst)=s:=⟨_,rfl⟩
 have hfew:=hx.few
 have hsl:s.length≤3900000000:=hs▸hx.len
 rw[hs]
 refine enter Tryz.func59 Tryz.ntmps59 rfl rfl ?_
 refine go trivial ?_
 refine zfx ?_
 intro w1 hE1 hs1 hA hB hC
 obtain⟨A,hAe⟩:∃A,w.heap.size=A:=⟨_,rfl⟩
 simp only[World.size_alloc]
 rw[hAe]at hA hB hC ⊢
 refine go trivial ?_
 refine rq ?_;intro gd K hgd hK
 try simp only[go_sem]
 refine⟨by kernel_rfl,?_⟩
 rw[show bdV Tryz.prog 139 []=some (.agg #[.slice Option.none 0 0,vi 0,.bool false,.slice Option.none 0 0,vi 0,.bool false,.slice Option.none 0 0]) from by kernel_rfl]
 try simp only[go_sem]
 simp only[World.size_alloc]
 refine st_al2 ?_
 intro z1 hz1 hzs hR hP
 have hw1:w1.heap.size=A+3:=by omega
 rw[hw1]at hR hP ⊢
 refine zan (P:=Tryz.prog) rfl rfl rfl hP (by simp) (by simp) ?_
 intro w2 hs2 hP2 hk2
 try simp only[go_sem]
 refine hK _ _ ?_;clear hK hgd;clear K;try clear gd
 have hE2:Ext w1 w2:=Keep.to_ext hz1 rfl (fun i hi=>by omega) hk2
 have hR2:=(hk2.block (A+3) (by omega) (by omega)).trans hR
 have hw2:w2.heap.size=A+5:=by omega
 have e9:w1.heap.size+1=A+4:=by omega
 simp only[World.size_alloc,e9,hw1]
 refine go trivial ?_
 refine rc trivial (zj0 w2 s) ?_
 rintro _ w3 ⟨rfl,hE3,hs3,hL3⟩
 rw[hw2]at hL3 ⊢
 have hw3:w3.heap.size=A+6:=by omega
 have hE13:=(hE1.trans hE2).trans hE3
 have hA3:=Ext.at (hE2.trans hE3) hA
 have hB3:=Ext.at (hE2.trans hE3) hB
 have hC3:=Ext.at (hE2.trans hE3) hC
 have hR3:=Ext.at hE3 hR2
 have hP3:=Ext.at hE3 hP2
 refine rgo trivial ?_
 refine W_rangeT (g:=99) (cap:=#[.pointer (some ⟨A+5,0,Option.none⟩)]) (vq0) rfl (linesIt (w0:=w) (C:=fun i=>i=A+3) (ls:=xs.map Prod.fst) hX hE13 (by rw[hs];exact hL3) (by omega) (by omega) (fun i hi=>by omega) (by omega) (fun l hl=>by
   obtain⟨x,hxm,rfl⟩:=List.mem_map.1 hl
   exact(hx.each x hxm).2.1) (by rw[hs];exact hsl) (by rw[List.length_map];exact hfew)) (Keep.refl _ _) (Nat.le_refl _) (fun i hi=>by omega) (fun i hi=>by omega)
  (fun x B args h=>by rw[show args=_ from h];rfl)
  (fun pre V=>(V.heap[A]? =some (.cells #[.slice Option.none 0 0] 110 (0,0))∧V.heap[A+1]? =some (.cells #[vi 0] 3 (0,0))∧V.heap[A+1+1]? =some (.cells #[vi 0] 57 (0,0))∧V.heap[A+4]? =some (.cells #[.pointer (some ⟨A+3,0,Option.none⟩)] 137 (0,0)))∧Keep (fun i=>i=A+3∨i=A+5∨A+6≤i) w3 V∧
   ((pre=[]∧V.heap[A+3]? =some (.cells #[.slice Option.none 0 0,vi 0,.bool false,.slice Option.none 0 0,vi 0,.bool false,.slice Option.none 0 0] 139 (0,0)))∨∃ln,TRx (A+8) V (A+3) (entF 1 (xs.take pre.length)) 0 false [] ln false))
  (fun _ _ _=>False) ?_ (fun _ _ _ _ h _=>h.elim) ?_ ?_ ?_ (fun _ _ _ _ _ _ h _=>h.elim)
 ·rintro pre V V' ⟨⟨h1,h2,h3,h4⟩,h5,h6⟩ hk
  have lt:=fun {i:Nat} {o:Obj} (h:V.heap[i]? =some o)=>(Array.getElem?_eq_some_iff.1 h).1
  have kp:∀{i:Nat} {o:Obj},V.heap[i]? =some o→i<A+5→V'.heap[i]? =some o:=fun {i o} h hi=>(hk.block i (lt h) (by unfold span;omega)).trans h
  refine⟨⟨kp h1 (by omega),kp h2 (by omega),kp h3 (by omega),kp h4 (by omega)⟩,h5.trans (hk.mono fun i _ h=>by unfold span at h;omega),?_⟩
  rcases h6 with ⟨h6,h7⟩| ⟨ln,ov,wv,G,h6⟩
  ·exact .inl ⟨h6,kp h7 (by omega)⟩
  ·exact .inr ⟨ln,ov,wv,G,h6.low (hk.mono fun i _ h=>by unfold span at h;omega)⟩
 ·exact⟨⟨hA3,hB3,hC3,hP3⟩,Keep.refl _ _,.inl ⟨rfl,hR3⟩⟩
 ·rintro lp pre ⟨n,l⟩ V args ⟨suf,hsf⟩ hszV ⟨⟨h1,h2,h3,h4⟩,h5,h6⟩ hargs
  obtain⟨hpl,hxe⟩:=zi2 _ _ _ _ _ hsf
  rw[List.length_map]at hpl
  injection hxe with hn hle
  rw[List.getElem_map]at hle
  obtain⟨x,hxx⟩:∃x,xs[pre.length]=x:=⟨_,rfl⟩
  rw[hxx]at hle
  obtain⟨hT,_,hll⟩:=hx.each x (hxx▸List.getElem_mem hpl)
  obtain rfl:args=#[vi (n:Nat),vs l]:=hargs
  have hout:entF 1 (xs.take (pre.length+1))=entF 1 (xs.take pre.length)++entOf n x:=by
   rw[zal hpl,zhv,hxx,List.length_take,Nat.min_eq_left (by omega),←hn,entF,entF,List.append_nil]
  have hol:(entF 1 (xs.take pre.length)).length≤1000000000:=by
   have:=zfo 1 (xs.take pre.length)
   rw[List.length_take]at this
   omega
  refine go trivial ?_
  refine⟨rfl,KeepB.refl _ _ _,fun V2 hV2=>?_⟩
  have lt:=fun {i:Nat} {o:Obj} (h:V.heap[i]? =some o)=>(Array.getElem?_eq_some_iff.1 h).1
  have hs22:=hV2.size
  have kp:∀{i:Nat} {o:Obj},V.heap[i]? =some o→i<A+5→V2.heap[i]? =some o:=fun {i o} h hi=>(hV2.block i (lt h) (by unfold two;omega)).trans h
  obtain⟨ln,ov,wv,G,hTR⟩:∃ln,TRx (A+8) V2 (A+3) (entF 1 (xs.take pre.length)) 0 false [] ln false:=by
   rcases h6 with ⟨h6,h7⟩| ⟨ln,ov,wv,G,h6⟩
   ·refine⟨0,.slice Option.none 0 0,.slice Option.none 0 0,[],kp h7 (by omega),by omega,by omega,Owns.nil _ _ _ _ _,Owns.nil _ _ _ _ _,fun i h=>(by cases h),?_,fun y hy=>(by cases hy)⟩
    rw[h6];rfl
   ·exact⟨ln,ov,wv,G,h6.low (hV2.mono fun i _ h=>by unfold two at h;omega)⟩
  have g4:=kp h4 (by omega)
  have q40:zad V2 (some ⟨A+4,0,Option.none⟩)=some (.pointer (some ⟨A+3,0,Option.none⟩)):=zaa g4 rfl
  refine go trivial ?_
  refine rq ?_;intro gd K hgd hK
  try simp (disch:=first|omega|assumption|rfl) only[go_sem,q40,Nat.zero_add]
  refine zan (P:=Tryz.prog) rfl rfl rfl hTR.h (by simp) (by simp) ?_
  intro v1 hs1' hb1 hk1
  try simp only[go_sem]
  refine hK _ _ ?_;clear hK hgd;clear K;try clear gd
  have hT1:TR (A+8) v1 (A+3) (entF 1 (xs.take pre.length)) 0 false [] n false ov wv G:=TR.turn hTR (hk1.mono fun i _ e=>by omega) hb1
  have hV2l:=(Array.getElem?_eq_some_iff.1 g4).1
  have q41:zad v1 (some ⟨A+4,0,Option.none⟩)=some (.pointer (some ⟨A+3,0,Option.none⟩)):=zaa ((hk1.block (A+4) hV2l (by omega)).trans g4) rfl
  have k5:zad v1 (some ⟨A+3,5,Option.none⟩)=some (.bool false):=zaa hT1.h rfl
  refine go (an4 q41 k5 Nat.zero_add Bool.not_false) ?_
  refine rq ?_;intro gd K hgd hK
  try simp (disch:=first|omega|assumption|rfl) only[go_sem,q41,Nat.zero_add]
  refine zan (P:=Tryz.prog) rfl rfl rfl hT1.h (by simp) (by simp) ?_
  intro v2 hs2' hb2 hk2'
  try simp only[go_sem]
  refine hK _ _ ?_;clear hK hgd;clear K;try clear gd
  have hT2:TR (A+8) v2 (A+3) (entF 1 (xs.take pre.length)) 0 false [] n true ov wv G:=TR.turn hT1 (hk2'.mono fun i _ e=>by omega) hb2
  have g42:=(hk2'.block (A+4) (by omega) (by omega)).trans ((hk1.block (A+4) hV2l (by omega)).trans g4)
  have q42:zad v2 (some ⟨A+4,0,Option.none⟩)=some (.pointer (some ⟨A+3,0,Option.none⟩)):=zaa g42 rfl
  refine go trivial ?_
  refine zav (Q:=fun e' σ' ds' v'=>e'= .normal∧ds'=[]∧(σ' 5= .pointer (some ⟨A+4,0,Option.none⟩)∧σ' 7=vs l)∧TR (A+8) v' (A+3) (entF 1 (xs.take pre.length)) 0 (zeP l) [] n true ov wv G∧Keep (fun i=>i=A+3) v2 v') ?_ ?_
  ·have i00:(0:Int)≤0:=by decide
   cases hlc:l with
   |nil=>
    have dn:decide (([]:Lab)=[])=true:=rfl
    refine zaS (fun i=>i==16) [(0,true),(1,true),(2,true),(3,true),(4,true),(5,true),(6,true),(7,true),(8,true),(9,true),(10,true),(11,true),(12,true),(13,true),(14,true),(15,true),(16,false)] NoS mixed (by kernel_rfl) ?_;intro gd K x hgd hx hxe hK;have hx0:=zaP hxe;clear hxe
    have hg3:∀n σ b,zaJ gd n σ (some (3,b))=zat (ev n σ (.tmp 30)) b:=(fun n σ b=>by rw[zag,show gd 3=some 30 from(by rw[hgd];rfl)];rfl);have hg7:∀n σ b,zaJ gd n σ (some (7,b))=zat (ev n σ (.tmp 34)) b:=(fun n σ b=>by rw[zag,show gd 7=some 34 from(by rw[hgd];rfl)];rfl)
    have q4x:=zab hx0 q42
    have hTx:=hT2.ext hx0
    simp (disch:=first|omega|assumption|rfl) only[go_sem,q4x,Nat.zero_add,dn,zgm,↓hg3,↓hg7]
    refine zan (P:=Tryz.prog) rfl rfl rfl hTx.h (by simp) (by simp) ?_
    intro v3 hs3' hb3 hk3
    refine⟨.inl rfl,?_⟩
    simp (disch:=first|omega|assumption|rfl) only[go_sem,↓hg3,↓hg7]
    refine hK _ _ ?_;clear hK hgd;clear K;try clear gd
    exact⟨rfl,rfl,⟨vr0,vr0⟩,TR.turn hTx (hk3.mono fun i _ e=>by omega) hb3,(hx0.mono fun _ _ h=>h.elim).trans hk3⟩
   |cons c r=>
    have dn:decide (c::r=[])=false:=rfl
    have r0:(0:Int)<((c::r).length:Int):=by rw[List.length_cons];omega
    have o32:decide ((c.toNat:Int)=32)=decide (c=32):=ziZ c 32 (by decide)
    have o9:decide ((c.toNat:Int)=9)=decide (c=9):=ziZ c 9 (by decide)
    have hin:(0:Int).toNat<(c::r).length:=by simp
    have hb9:(c::r)[(0:Int).toNat]'hin=c:=rfl
    have hbc:zao c= .int .u8 (c.toNat:Int):=rfl
    by_cases h32:c=32
    ·have hbl:zeP (c::r)=true:=by show(decide (c=32)||decide (c=9))=_;rw[decide_eq_true h32];rfl
     have d32:decide ((c.toNat:Int)=32)=true:=by rw[o32];exact decide_eq_true h32
     rw[hbl]
     refine zaS (fun i=>i==16) [(0,true),(1,true),(2,true),(3,true),(4,true),(5,true),(6,true),(7,true),(8,true),(9,true),(10,true),(11,true),(12,true),(13,true),(14,true),(15,true),(16,false)] NoS mixed (by kernel_rfl) ?_;intro gd K x hgd hx hxe hK;have hx0:=zaP hxe;clear hxe
     have hg3:∀n σ b,zaJ gd n σ (some (3,b))=zat (ev n σ (.tmp 30)) b:=(fun n σ b=>by rw[zag,show gd 3=some 30 from(by rw[hgd];rfl)];rfl);have hg7:∀n σ b,zaJ gd n σ (some (7,b))=zat (ev n σ (.tmp 34)) b:=(fun n σ b=>by rw[zag,show gd 7=some 34 from(by rw[hgd];rfl)];rfl)
     have q4x:=zab hx0 q42
     have hTx:=hT2.ext hx0
     simp (disch:=first|omega|assumption|rfl) only[go_sem,q4x,Nat.zero_add,dn,i00,r0,hb9,hbc,d32,↓hg3,↓hg7]
     refine zan (P:=Tryz.prog) rfl rfl rfl hTx.h (by simp) (by simp) ?_
     intro v3 hs3' hb3 hk3
     refine⟨.inl rfl,?_⟩
     simp (disch:=first|omega|assumption|rfl) only[go_sem,↓hg3,↓hg7]
     refine hK _ _ ?_;clear hK hgd;clear K;try clear gd
     exact⟨rfl,rfl,⟨vr0,vr0⟩,TR.turn hTx (hk3.mono fun i _ e=>by omega) hb3,(hx0.mono fun _ _ h=>h.elim).trans hk3⟩
    ·have d32:decide ((c.toNat:Int)=32)=false:=by rw[o32];exact decide_eq_false h32
     obtain⟨z,hz⟩:∃z,decide (c=9)=z:=⟨_,rfl⟩
     have d9:decide ((c.toNat:Int)=9)=z:=by rw[←hz];exact o9
     have hbl:zeP (c::r)=z:=by show(decide (c=32)||decide (c=9))=_;rw[decide_eq_false h32,hz];rfl
     rw[hbl]
     cases z with
     |true=>
      refine zaS (fun i=>i==16) [(0,true),(1,true),(2,true),(3,true),(4,true),(5,true),(6,true),(7,true),(8,true),(9,true),(10,true),(11,true),(12,true),(13,true),(14,true),(15,true),(16,false)] NoS mixed (by kernel_rfl) ?_;intro gd K x hgd hx hxe hK;have hx0:=zaP hxe;clear hxe
      have hg3:∀n σ b,zaJ gd n σ (some (3,b))=zat (ev n σ (.tmp 30)) b:=(fun n σ b=>by rw[zag,show gd 3=some 30 from(by rw[hgd];rfl)];rfl);have hg7:∀n σ b,zaJ gd n σ (some (7,b))=zat (ev n σ (.tmp 34)) b:=(fun n σ b=>by rw[zag,show gd 7=some 34 from(by rw[hgd];rfl)];rfl)
      have q4x:=zab hx0 q42
      have hTx:=hT2.ext hx0
      simp (disch:=first|omega|assumption|rfl) only[go_sem,q4x,Nat.zero_add,dn,i00,r0,hb9,hbc,d32,d9,↓hg3,↓hg7]
      refine zan (P:=Tryz.prog) rfl rfl rfl hTx.h (by simp) (by simp) ?_
      intro v3 hs3' hb3 hk3
      refine⟨.inl rfl,?_⟩
      simp (disch:=first|omega|assumption|rfl) only[go_sem,↓hg3,↓hg7]
      refine hK _ _ ?_;clear hK hgd;clear K;try clear gd
      exact⟨rfl,rfl,⟨vr0,vr0⟩,TR.turn hTx (hk3.mono fun i _ e=>by omega) hb3,(hx0.mono fun _ _ h=>h.elim).trans hk3⟩
     |false=>
      refine zaS (fun i=>i==16) [(0,true),(1,true),(2,true),(3,true),(4,true),(5,true),(6,true),(7,true),(8,true),(9,true),(10,true),(11,true),(12,true),(13,true),(14,true),(15,true),(16,false)] NoS mixed (by kernel_rfl) ?_;intro gd K x hgd hx hxe hK;have hx0:=zaP hxe;clear hxe
      have hg3:∀n σ b,zaJ gd n σ (some (3,b))=zat (ev n σ (.tmp 30)) b:=(fun n σ b=>by rw[zag,show gd 3=some 30 from(by rw[hgd];rfl)];rfl);have hg7:∀n σ b,zaJ gd n σ (some (7,b))=zat (ev n σ (.tmp 34)) b:=(fun n σ b=>by rw[zag,show gd 7=some 34 from(by rw[hgd];rfl)];rfl)
      have q4x:=zab hx0 q42
      have hTx:=hT2.ext hx0
      simp (disch:=first|omega|assumption|rfl) only[go_sem,q4x,Nat.zero_add,dn,i00,r0,hb9,hbc,d32,d9,↓hg3,↓hg7]
      refine zan (P:=Tryz.prog) rfl rfl rfl hTx.h (by simp) (by simp) ?_
      intro v3 hs3' hb3 hk3
      refine⟨.inl rfl,?_⟩
      simp (disch:=first|omega|assumption|rfl) only[go_sem,↓hg3,↓hg7]
      refine hK _ _ ?_;clear hK hgd;clear K;try clear gd
      exact⟨rfl,rfl,⟨vr0,vr0⟩,TR.turn hTx (hk3.mono fun i _ e=>by omega) hb3,(hx0.mono fun _ _ h=>h.elim).trans hk3⟩
  rintro _ σ1 _ v3 ⟨rfl,rfl,⟨s5,s7⟩,hT3,hk3⟩
  have hs3':=hk3.size
  have g43:=(hk3.block (A+4) (by omega) (by omega)).trans g42
  have q43:zad v3 (some ⟨A+4,0,Option.none⟩)=some (.pointer (some ⟨A+3,0,Option.none⟩)):=zaa g43 rfl
  rw[hle]at s7
  have hT':Toks l x.2:=by rw[hle];exact hT
  rw[←hle]at s7
  refine go (an2 s5 s7) ?_
  refine rc (an3 s5 s7 q43) (read_ok ⟨ov,wv,G,hT3⟩ hT' (by rw[hle];exact hll)) ?_
  rintro _ v4 ⟨rfl,hR4,hk4⟩
  have hs4':=hk4.size
  have g44:=(hk4.block (A+4) (by omega) (by omega)).trans g43
  have q44:zad v4 (some ⟨A+4,0,Option.none⟩)=some (.pointer (some ⟨A+3,0,Option.none⟩)):=zaa g44 rfl
  have hR4':=hR4
  obtain⟨ov4,wv4,G4,hT4⟩:=hR4
  have k6:zad v4 (some ⟨A+3,6,Option.none⟩)=some (.slice Option.none 0 0):=zaa hT4.h rfl
  refine rgo (an6 s5 s7 (show decide ((0:Int)=0)=true from rfl) q44 k6 Nat.zero_add) ?_
  have hwl:=zg4 hT
  refine rc (an2 s5 q44) (end_ok hR4' hol (by omega)) ?_
  rintro _ v5 ⟨hR5,hk5⟩
  have hs5':=hk5.size
  refine rgo trivial ?_
  have hkk:Keep (fun i=>i=A+3∨A+8≤i) V2 v5:=(((((hk1.mono fun i _ e=> .inl e).trans (hk2'.mono fun i _ e=> .inl e)).trans (hk3.mono fun i _ e=> .inl e)).trans hk4).trans hk5)
  have kq:∀{i:Nat} {o:Obj},V.heap[i]? =some o→i<A+5→i≠A+3→v5.heap[i]? =some o:=fun {i o} h h1 h2=>(hkk.block i (by have:=(Array.getElem?_eq_some_iff.1 (kp h h1)).1;exact this) (by omega)).trans (kp h h1)
  refine⟨⟨⟨kq h1 (by omega) (by omega),kq h2 (by omega) (by omega),kq h3 (by omega) (by omega),kq h4 (by omega) (by omega)⟩,(h5.trans (hV2.mono fun i _ h=>by unfold two at h;omega)).trans (hkk.mono fun i _ h=>by omega),.inr ⟨n,?_⟩⟩,hkk.toB (by omega) fun i hi h=>by omega⟩
  have hfin:(if x.2=[] then entF 1 (xs.take pre.length) else entF 1 (xs.take pre.length)++ [⟨if x.2=[] then 0 else(n:Int),zeP l,x.2⟩])=entF 1 (xs.take (pre++ [(n,l)]).length):=by
   rw[List.length_append,show([(n,l)]:List (Nat×Lab)).length=1 from rfl,hout]
   unfold entOf
   by_cases h0:x.2=[]
   ·rw[if_pos h0,if_pos h0,List.append_nil]
   ·rw[if_neg h0,if_neg h0,if_neg h0,hle]
  rw[←hfin]
  exact hR5
 ·rintro xs' w6 rfl hsz6 ⟨⟨h1,h2,h3,h4⟩,h5,h6⟩ hD
  have q4:zad w6 (some ⟨A+4,0,Option.none⟩)=some (.pointer (some ⟨A+3,0,Option.none⟩)):=zaa h4 rfl
  obtain⟨ov,y1,y2,y3,y4,y5,hR6,h1v,hblk,hfin⟩:∃ov y1 y2 y3 y4 y5,w6.heap[A+3]? =some (.cells #[ov,y1,y2,y3,y4,y5,.slice Option.none 0 0] 139 (0,0))∧one ov=true∧(∀a n c,ov= .slice (some a) n c→A≤a.block)∧∀X,Keep (fun i=>i<A+8∧i≠A+3) w6 X→Rows 3 (EntC X) X ov (entF 1 xs):=by
   rcases h6 with ⟨h6,h7⟩| ⟨ln,ov,wv,G,h6⟩
   ·have hx0:xs=[]:=by
     have:=congrArg List.length h6
     rw[zfa,List.length_map]at this
     exact List.length_eq_zero_iff.1 this
    refine⟨_,_,_,_,_,_,h7,rfl,(fun a n c h=>by cases h),fun X _=>?_⟩
    rw[hx0]
    exact Rows.nil _ _ _
   ·rw[zfa,List.length_map,List.take_length]at h6
    have h1v:one ov=true:=by rcases h6.oo.cases with ⟨e,_⟩| ⟨_,_,_,e,_⟩<;>rw[e]<;>rfl
    exact⟨_,_,_,_,_,_,h6.h,h1v,(fun a n c h=>by have:=(h6.oo.ge (b:=a.block) (by rw[h];rfl)).1;omega),fun X hX=>(h6.low hX).rows⟩
  have k6:zad w6 (some ⟨A+3,6,Option.none⟩)=some (.slice Option.none 0 0):=zaa hR6 rfl
  have k0:zad w6 (some ⟨A+3,0,Option.none⟩)=some ov:=zaa hR6 rfl
  have lt:=fun {i:Nat} {o:Obj} (h:w6.heap[i]? =some o)=>(Array.getElem?_eq_some_iff.1 h).1
  have l3:=lt hR6
  have lD:=lt hD
  refine go (an4 q4 k6 Nat.zero_add (show decide ((0:Int)<((0:Nat):Int))=false from rfl)) ?_
  refine rq ?_;intro gd K hgd hK
  try simp (disch:=first|omega|assumption|rfl) only[go_sem,q4,k0,Nat.zero_add]
  refine zan (P:=Tryz.prog) rfl rfl h1v h1 (by simp) (by simp) ?_
  intro z1 hz1 hb1 hk1
  try simp only[go_sem]
  refine zan (P:=Tryz.prog) rfl rfl rfl ((hk1.block (A+1) (lt h2) (by omega)).trans h2) (by simp) (by simp) ?_
  intro z2 hz2 hb2 hk2
  try simp only[go_sem]
  refine zan (P:=Tryz.prog) rfl rfl rfl ((hk2.block (A+1+1) (by have:=lt h3;omega) (by omega)).trans ((hk1.block (A+1+1) (lt h3) (by omega)).trans h3)) (by simp) (by simp) ?_
  intro z3 hz3 hb3 hk3
  try simp only[go_sem]
  refine hK _ _ ?_;clear hK hgd;clear K;try clear gd
  have hkz:Keep (fun i=>A≤i∧i<A+3) w6 z3:=((hk1.mono fun i _ e=>by omega).trans (hk2.mono fun i _ e=>by omega)).trans (hk3.mono fun i _ e=>by omega)
  have g1:z3.heap[A]? =some (.cells #[ov] 110 (0,0)):=(hk3.block A (by omega) (by omega)).trans ((hk2.block A (by omega) (by omega)).trans hb1)
  have g2:z3.heap[A+1]? =some (.cells #[vi 0] 3 (0,0)):=(hk3.block (A+1) (by omega) (by omega)).trans hb2
  refine go trivial ?_
  refine zcw (.inr rfl) Tryz.ntmps59 rfl ((hkz.block _ lD (by omega)).trans hD) ?_
  intro Z hkZ hsZ
  have e1:zad Z (some ⟨A,0,Option.none⟩)=some ov:=zaa ((hkZ.block A (by omega) (by omega)).trans g1) rfl
  have e2:zad Z (some ⟨A+1,0,Option.none⟩)=some (vi 0):=zaa ((hkZ.block (A+1) (by omega) (by omega)).trans g2) rfl
  have e3:zad Z (some ⟨A+1+1,0,Option.none⟩)=some (vi 0):=zaa ((hkZ.block (A+1+1) (by omega) (by omega)).trans hb3) rfl
  refine⟨_,zb4 (vr0) rfl rfl e1 (zb4 (vr0) rfl rfl e2 (zb4 (vr0) rfl rfl e3 zae)),?_⟩
  refine⟨Keep.to_ext (Keep.to_ext (Keep.to_ext hE13 rfl (fun i hi=>by omega) h5) rfl (fun i hi=>by omega) hkz) rfl (fun i hi=>by omega) hkZ,ov,rfl,hblk,fun X hX=>?_⟩
  have e1:Keep (fun i=>i<A+8∧i≠A+3) w6 z3:=hkz.mono fun i _ e=>by omega
  have e2:Keep (fun i=>i<A+8∧i≠A+3) z3 Z:=hkZ.mono fun i _ (e:i=w3.heap.size)=>by omega
  have e3:Keep (fun i=>i<A+8∧i≠A+3) Z X:=hX.mono fun i _ (e:i<A)=>by omega
  exact hfin X ((e1.trans e2).trans e3)
def wF:Bool→Lab→Lab→Bool→List (Lab×Bool)
 |_,[],w,_=>if w=[] then [] else [(w,false)]
 |true,c::s,w,q=>wF false s (w++ [c]) q
 |false,c::s,w,q=>
  if c=92∧s≠ [] then wF true s (w++ [c]) q
  else if c=34 then(if q=true then(w,true)::wF false s [] false else wF false s w true)
  else if q=true then wF false s (w++ [c]) true
  else if c=32 then(if w=[] then wF false s [] false else(w,false)::wF false s [] false)
  else wF false s (w++ [c]) false
theorem zdq{d:DatL}(hf:zcI d=true):(d.names.length:Int)=(zaC d.ty).1∧(d.nums.length:Int)=(zaC d.ty).2.1∧(d.texts.length:Int)=txD d∧(d.raw.length:Int)=rwD d:=by
 unfold zcI at hf
 simp only[Bool.and_eq_true,decide_eq_true_eq]at hf
 exact⟨hf.1.1.1,hf.1.1.2,hf.1.2,hf.2⟩
theorem za8{α:Type}{l:List α}(h:(l.length:Int)=0):l=[]:=List.length_eq_zero_iff.1 (by omega)
theorem zbm{d:DatL}(hf:zcI d=true){a c r:Int}(h:zaC d.ty=(a,c,0,r)):(d.names.length:Int)=a∧(d.nums.length:Int)=c∧d.texts=[]∧(0≤r→(d.raw.length:Int)=r):=by
 obtain⟨h1,h2,h3,h4⟩:=zdq hf
 unfold txD at h3
 unfold rwD at h4
 rw[h]at h1 h2 h3 h4
 exact⟨h1,h2,za8 h3,fun hr=>by rw[if_neg (by simp only;omega)]at h4;exact h4⟩
theorem zc9(sep x:Lab):zaU sep [x]=x:=by simp[zaU]
theorem zh5(l:List UInt8):zaM 1 l=l.map fun c=>[c]:=by
 refine List.ext_getElem (by rw[zbY];simp) fun i h1 h2=>?_
 rw[zdr]
 have hi:i<l.length:=by simpa using h2
 rw[List.getElem_map,Nat.mul_one,List.drop_eq_getElem_cons hi]
 rfl
theorem tx_one{d:DatL}(hf:zcI d=true)(ht:d.ty=1):zbp hexU d=zaU [46] (d.raw.map fun c=>Lib.decDigits c.toNat):=by
 obtain⟨h1,h2,h3,h4⟩:=zbm hf (a:=0) (c:=0) (r:=4) (by rw[ht];rfl)
 have e1:=za8 h1
 have e2:=za8 h2
 unfold zbp zbu zbA zc1 zb5
 rw[e1,e2,h3,ht]
 simp only[List.map_nil,ite_self,List.append_nil,List.nil_append,if_true]
 rw[zc9]
 unfold zck
 rw[zh5,List.map_map]
 congr 1
 refine List.map_congr_left fun c _=>?_
 show Lib.decDigits (0*256+c.toNat)=_
 rw[Nat.zero_mul,Nat.zero_add]
def ziM(raw:List UInt8)(i:Nat):Lab:=hexU ((raw.getD (2*i) 0).toNat*256+(raw.getD (2*i+1) 0).toNat)
theorem tx_28{d:DatL}(hf:zcI d=true)(ht:d.ty=28):d.raw.length=16∧zbp hexU d=zaU [58] ((List.range 8).map (ziM d.raw)):=by
 obtain⟨h1,h2,h3,h4⟩:=zbm hf (a:=0) (c:=0) (r:=16) (by rw[ht];rfl)
 have e1:=za8 h1
 have e2:=za8 h2
 have e4:d.raw.length=16:=by have:=h4 (by decide);omega
 refine⟨e4,?_⟩
 unfold zbp zbu zbA zc1 zb5
 rw[e1,e2,h3,ht]
 simp only[List.map_nil,ite_self,List.append_nil,List.nil_append,if_true,if_neg (show¬(28:Int)=1 by decide)]
 rw[zc9]
 unfold zck
 congr 1
 refine List.ext_getElem (by rw[List.length_map,zbY,e4];simp) fun i h1 h2=>?_
 have hi:i<8:=by simpa using h2
 rw[List.getElem_map,List.getElem_map,zdr,List.getElem_range]
 unfold ziM
 rw[List.getD_eq_getElem?_getD,List.getElem?_eq_getElem (show 2*i<d.raw.length by omega),List.getD_eq_getElem?_getD,List.getElem?_eq_getElem (show 2*i+1<d.raw.length by omega)]
 rw[show i*2=2*i from Nat.mul_comm _ _,List.drop_eq_getElem_cons (show 2*i<d.raw.length by omega),List.drop_eq_getElem_cons (show 2*i+1<d.raw.length by omega)]
 show hexU ((0*256+_)*256+_)=_
 rw[Nat.zero_mul,Nat.zero_add]
 rfl
theorem tx_16{d:DatL}(hf:zcI d=true)(ht:d.ty=16):zbp hexU d=zaU [32] (d.texts.map quoT):=by
 obtain⟨h1,h2,_,_⟩:=zdq hf
 rw[ht]at h1 h2
 have e1:=za8 h1
 have e2:=za8 h2
 unfold zbp zbu zbA zc1 zb5
 rw[e1,e2,ht,show(zbI 16 tyTab).2=true from rfl]
 simp
theorem tx_15{d:DatL}(hf:zcI d=true)(ht:d.ty=15):∃m n,d.nums=[m]∧d.names=[n]∧zbp hexU d=(numT m++ [32])++za7 n:=by
 obtain⟨h1,h2,h3,h4⟩:=zbm hf (a:=1) (c:=1) (r:=0) (by rw[ht];rfl)
 obtain⟨n,hn⟩:=List.length_eq_one_iff.1 (show d.names.length=1 by omega)
 obtain⟨m,hm⟩:=List.length_eq_one_iff.1 (show d.nums.length=1 by omega)
 refine⟨m,n,hm,hn,?_⟩
 unfold zbp zbu zbA zc1 zb5
 rw[hn,hm,h3,ht,show(zbI 15 tyTab).2=true from rfl]
 simp[zaU]
theorem tx_names{d:DatL}(hf:zcI d=true)(ht:d.ty=2∨d.ty=5∨d.ty=12∨d.ty=39∨d.ty=6):zbp hexU d=zaU [32] (d.names.map za7++d.nums.map numT):=by
 have h3:d.texts=[]:=by
  rcases ht with h|h|h|h|h
  ·exact(zbm hf (a:=1) (c:=0) (r:=0) (by rw[h];rfl)).2.2.1
  ·exact(zbm hf (a:=1) (c:=0) (r:=0) (by rw[h];rfl)).2.2.1
  ·exact(zbm hf (a:=1) (c:=0) (r:=0) (by rw[h];rfl)).2.2.1
  ·exact(zbm hf (a:=1) (c:=0) (r:=0) (by rw[h];rfl)).2.2.1
  ·exact(zbm hf (a:=2) (c:=5) (r:=0) (by rw[h];rfl)).2.2.1
 unfold zbp zbu zbA zc1 zb5
 rw[h3]
 rcases ht with h|h|h|h|h<;>(rw[h];simp[show (zbI 2 tyTab).2=true from rfl,show(zbI 5 tyTab).2=true from rfl,show(zbI 12 tyTab).2=true from rfl,show(zbI 39 tyTab).2=true from rfl,show(zbI 6 tyTab).2=true from rfl])
theorem tx_any{d:DatL}(hf:zcI d=true)(ht:¬(d.ty=1∨d.ty=28∨d.ty=16∨d.ty=15∨d.ty=2∨d.ty=5∨d.ty=12∨d.ty=39∨d.ty=6)):zbp hexU d=([92,35,32]++Lib.decDigits d.raw.length++if 0<d.raw.length then [32] else [])++hexT d.raw:=by
 have hsh:zaC d.ty=(0,0,0, -1):=by
  unfold zaC
  rw[if_neg (by omega),if_neg (by omega),if_neg (by omega),if_neg (by omega),if_neg (by omega),if_neg (by omega)]
 obtain⟨h1,h2,h3,_⟩:=zbm hf hsh
 have e1:=za8 h1
 have e2:=za8 h2
 have hfd:(zbI d.ty tyTab).2=false:=by
  unfold tyTab
  simp only[zbI]
  rw[if_neg (by omega),if_neg (by omega),if_neg (by omega),if_neg (by omega),if_neg (by omega),if_neg (by omega),if_neg (by omega),if_neg (by omega),if_neg (by omega)]
 unfold zbp zbu zbA zc1 zb5
 rw[e1,e2,h3,hfd,if_neg (show¬d.ty=1 by omega),if_neg (show¬d.ty=28 by omega),if_neg (show¬false=true by decide),zda]
 simp only[List.map_nil,ite_self,List.append_nil,List.nil_append]
 by_cases h0:d.raw.length=0
 ·rw[if_pos h0,if_neg (by omega),za8 (l:=d.raw) (by omega)]
  simp[zaU,hexT]
 ·rw[if_neg h0,if_pos (by omega)]
  simp[zaU]
end Go.Proofs.YtihbdhjibplldaaGreatDoor
