/-
  Texts of a proof, joined: G0, G1, G2, G3, G4, G5, Y3, F0, F1, G6, G7, V0, K27, K25, V1, K28, V2, V3, V4, M5ci, V5, M5st, V6, R4, KC, KN.
  Conditions: none.
-/
import Derived.Test.YtahbdamijngmmaaGreatJPE05
import Derived.Test.YtahbdamijngmmaaGreatJPE02
import Derived.Test.YtahbdamijngmmaaGreatJPE01
import Derived.Test.YtahbdamijngmmaaGreatJPE04
import Derived.ProofKit
import Derived.OpenShut
import Derived.SizedLaws
import Derived.Deep.Slices
set_option linter.unusedVariables false
set_option linter.unusedSimpArgs false
set_option linter.defProp false
set_option linter.unnecessarySimpa false
set_option maxHeartbeats 8000000
namespace Go.Proofs.YtahbdamijngmmaaGreat
open Go
set_option maxRecDepth 10000
def zbi(n:Nm):Bool:=few n && decide (zaE n=0)
theorem zbc{n:Nm}(h:zaE n=0):∀l∈n,l≠ []∧l.length≤63:=by
 intro l hl
 unfold zaE at h
 cases hf:n.find? (fun l=>decide (errL l≠0)) with
 |some x=>
  rw[hf]at h
  have:=List.find?_some hf
  simp only[decide_eq_true_eq]at this
  exact absurd h this
 |none=>
  have:=List.find?_eq_none.1 hf l hl
  simp only[decide_eq_true_eq,Decidable.not_not]at this
  unfold errL at this
  split at this
  ·cases this
  ·rename_i h0
   refine⟨h0,?_⟩
   split at this
   ·cases this
   ·omega
theorem sum_ge:∀n:Nm,n.length≤(n.map fun l=>1+l.length).sum
 | []=>Nat.zero_le _
 |a::n=>by
  have ih:=sum_ge n
  rw[List.map_cons,List.sum_cons]
  have e:(a::n).length=n.length+1:=rfl
  omega
theorem zfL{n:Nm}(h:zaE n=0):n.length≤255:=by
 have hl:=zbc h
 unfold zaE at h
 split at h
 ·rename_i x hf
  have:=List.find?_some hf
  simp only[decide_eq_true_eq]at this
  exact absurd h this
 ·split at h
  ·cases h
  ·rename_i h2
   unfold lenN at h2
   have:=sum_ge n
   omega
theorem zeC{n:Nm}(h:zaE n=0):NmG n:=
 ⟨fun l hl=>(zbc h l hl).1,fun l hl=>by have:=(zbc h l hl).2;omega,by have:=zfL h;omega⟩
theorem zbZ{n:Nm}(h:zbi n=true):NmG n:=by
 unfold zbi at h
 simp only[Bool.and_eq_true,decide_eq_true_eq]at h
 exact zeC h.2
theorem zgr(w:World)(a:Value)(xs:Nm)(ha:Row w a (xs.map vs)):
  Fn Tryz.prog 17 #[a] w (fun v w'=>v= .bool (zbi xs)∧Ext w w'):=by
 refine enter Tryz.func17 Tryz.ntmps17 rfl rfl ?_
 repeat refine c_r ?_
 refine rg0 ?_
 repeat refine c_r ?_
 cases hf:few xs with
 |true=>
  refine rq ?_;intro gd K hgd hK
  have hg2:∀n σ b,zat gd n σ (some (2,b))=zaj (ev n σ (.tmp 5)) b:=(fun n σ b=>by rw[zad,show gd 2=some 5 from(by rw[hgd];rfl)];rfl)
  try simp only[go_sem]
  refine Fn.mono (zhx w a xs ha) ?_
  rintro _ w1 ⟨rfl,hE1⟩
  rw[hf]
  try simp (disch:=first|omega|assumption|rfl) only[go_sem,↓hg2]
  refine Fn.mono (zbA w1 a xs (ha.ext hE1) (fun l hl=>by
   have:=few_lb hf l hl
   simp only[few,Bool.and_eq_true,List.all_eq_true,decide_eq_true_eq]at hf
   have:=hf.2 l hl
   omega) (by have:=few_len hf;omega)) ?_
  rintro _ w2 ⟨rfl,hE2⟩
  try simp (disch:=first|omega|assumption|rfl) only[go_sem,↓hg2]
  refine hK _ _ ?_;clear hK hgd;clear K;try clear gd
  repeat refine c_r ?_
  refine rt0 Tryz.ntmps17 ?_
  refine⟨?_,hE1.trans hE2⟩
  unfold zbi
  rw[hf,Bool.true_and]
 |false=>
  refine rq ?_;intro gd K hgd hK
  have hg2:∀n σ b,zat gd n σ (some (2,b))=zaj (ev n σ (.tmp 5)) b:=(fun n σ b=>by rw[zad,show gd 2=some 5 from(by rw[hgd];rfl)];rfl)
  try simp only[go_sem]
  refine Fn.mono (zhx w a xs ha) ?_
  rintro _ w1 ⟨rfl,hE1⟩
  rw[hf]
  try simp (disch:=first|omega|assumption|rfl) only[go_sem,↓hg2]
  refine hK _ _ ?_;clear hK hgd;clear K;try clear gd
  repeat refine c_r ?_
  refine rt0 Tryz.ntmps17 ?_
  refine⟨?_,hE1⟩
  unfold zbi
  rw[hf,Bool.false_and]
theorem zlv(w:World)(t:Int):
  Fn Tryz.prog 264 #[vi t] w (fun v w'=>w'=w∧∃a b c:Int,v= .tuple #[vi a,vi b,vi c]∧((t=2∨t=5∨t=39)→a=1)∧(t=15→b=1)):=by
 refine enter Tryz.func264 Tryz.ntmps264 rfl rfl ?_
 repeat refine c_r ?_
 refine rg0 ?_
 repeat refine c_r ?_
 refine rg0 ?_
 repeat refine c_r ?_
 refine rg0 ?_
 repeat refine c_r ?_
 refine wc0 ?_ ?_
 ·intro h1
  simp only[decide_eq_true_eq]at h1
  repeat (first|refine c_r ?_|refine rg0 ?_)
  refine zaC (.inr rfl) Tryz.ntmps264 rfl (zak (vr0) (zak (vr0) (zak (vr0) zav))) ?_
  exact⟨rfl,0,0,4,rfl,by omega,by omega⟩
 intro h1
 simp only[decide_eq_false_iff_not]at h1
 repeat refine c_r ?_
 refine rg0 ?_
 repeat refine c_r ?_
 refine wc0 ?_ ?_
 ·intro h2
  simp only[decide_eq_true_eq]at h2
  repeat (first|refine c_r ?_|refine rg0 ?_)
  refine zaC (.inr rfl) Tryz.ntmps264 rfl (zak (vr0) (zak (vr0) (zak (vr0) zav))) ?_
  exact⟨rfl,0,0,16,rfl,by omega,by omega⟩
 intro h2
 simp only[decide_eq_false_iff_not]at h2
 refine zfq ?_
 refine zaA (Q:=fun e σ' ds' v'=>e= .normal∧ds'=[]∧v'=w∧σ' 5=vi t∧∃bb,σ' 10= .bool bb∧bb=(decide (t=2)|| (decide (t=5)|| (decide (t=12)||decide (t=39))))) ?_ ?_
 ·refine zfq ?_
  refine rg0 ?_
  refine zap ?_
  refine wc0 ?_ ?_
  ·intro h
   repeat refine c_r ?_
   exact⟨rfl,rfl,rfl,vq0,true,by simp only[go_sem];rw[h],by rw[h];rfl⟩
  intro e1
  refine zfq ?_
  refine rg0 ?_
  refine zap ?_
  refine wc0 ?_ ?_
  ·intro h
   repeat refine c_r ?_
   exact⟨rfl,rfl,rfl,vq0,true,by simp only[go_sem];rw[h],by rw[e1,h];rfl⟩
  intro e2
  refine zfq ?_
  refine rg0 ?_
  refine zap ?_
  refine wc0 ?_ ?_
  ·intro h
   repeat refine c_r ?_
   exact⟨rfl,rfl,rfl,vq0,true,by simp only[go_sem];rw[h],by rw[e1,e2,h];rfl⟩
  intro e3
  refine rg0 ?_
  exact⟨rfl,rfl,rfl,vq0,decide (t=39),vr0,by rw[e1,e2,e3];rfl⟩
 rintro _ σ1 _ v1 ⟨rfl,rfl,hv1,h5,bb,h10,hbb⟩
 rw[hv1]
 clear hv1 v1
 repeat refine c_r ?_
 refine zaG (t:=bb) ((vq1 h10)) ?_ ?_
 ·intro ht
  rw[ht]at hbb
  repeat (first|refine c_r ?_|refine rg0 ?_)
  refine zaC (.inr rfl) Tryz.ntmps264 rfl (zak (vr0) (zak (vr0) (zak (vr0) zav))) ?_
  refine⟨rfl,1,0,0,rfl,fun _=>rfl,fun h=>?_⟩
  subst h
  cases hbb
 intro ht
 rw[ht]at hbb
 have hno:¬(t=2∨t=5∨t=39):=by
  rintro(rfl|rfl|rfl)<;>cases hbb
 repeat refine c_r ?_
 refine rg1 h5 ?_
 repeat refine c_r ?_
 refine wc0 ?_ ?_
 ·intro h3
  repeat (first|refine c_r ?_|refine rg0 ?_)
  refine zaC (.inr rfl) Tryz.ntmps264 rfl (zak (vr0) (zak (vr0) (zak (vr0) zav))) ?_
  exact⟨rfl,1,1,0,rfl,fun _=>rfl,fun _=>rfl⟩
 intro h3
 simp only[decide_eq_false_iff_not]at h3
 repeat refine c_r ?_
 refine rg1 h5 ?_
 repeat refine c_r ?_
 refine wc0 ?_ ?_
 ·intro h4
  repeat (first|refine c_r ?_|refine rg0 ?_)
  refine zaC (.inr rfl) Tryz.ntmps264 rfl (zak (vr0) (zak (vr0) (zak (vr0) zav))) ?_
  exact⟨rfl,2,5,0,rfl,fun h=>absurd h hno,fun h=>absurd h h3⟩
 intro h4
 repeat refine c_r ?_
 refine rg1 h5 ?_
 repeat refine c_r ?_
 refine wc0 ?_ ?_
 ·intro h6
  repeat (first|refine c_r ?_|refine rg0 ?_)
  refine zaC (.inr rfl) Tryz.ntmps264 rfl (zak (vr0) (zak (vr0) (zak (vr0) zav))) ?_
  exact⟨rfl,0,0,0,rfl,fun h=>absurd h hno,fun h=>absurd h h3⟩
 intro h6
 repeat (first|refine c_r ?_|refine rg0 ?_)
 refine zaC (.inr rfl) Tryz.ntmps264 rfl (zak (vr0) (zak (vr0) (zak (vr0) zav))) ?_
 exact⟨rfl,0,0, -1,rfl,fun h=>absurd h hno,fun h=>absurd h h3⟩
theorem zbI(b:Bool):zaj undef b=false:=nr rfl
structure DatF(d:DatL):Prop where
 names:∀n∈d.names,(∀l∈n,l.length≤1000000000)∧n.length≤1000000000
 nn:d.names.length≤1000000000
 nu:d.nums.length≤1000000000
 nt:d.texts.length≤1000000000
 tl:∀l∈d.texts,l.length≤1000000000
 nr:d.raw.length≤1000000000
 n8:d.names.length≤8
def zf6(t:Int):Prop:=t=2∨t=5∨t=39
theorem zgq{w0 w:World}(hE0:Ext w0 w){cs:List Value}{d:DatL}(hd:DatAt w0 cs d)(hf:DatF d):
  Fn Tryz.prog 218 #[.agg cs.toArray] w (fun v w'=>Ext w w'∧∃e:Int,v=vi e∧(e=0→(∀n∈d.names,zaE n=0)∧(zf6 d.ty→d.names.length=1))):=by
 obtain⟨nm,nu,tx,rw',rfl,⟨vals,⟨an,cn,rfl,hcn,hgn⟩,hvl,hvr⟩,⟨au,cu,rfl,hcu,hgu⟩,⟨at1,ct,rfl,hct,hgt⟩,⟨ar,cr,rfl,hcr,hgr⟩⟩:=hd.ex
 simp only[List.length_map]at hcu hgu hct hgt hcr hgr
 simp only[List.length_map]
 obtain⟨L,hL⟩:∃L:List Value,[vi d.ty,.slice an vals.length cn,.slice au d.nums.length cu,.slice at1 d.texts.length ct,.slice ar d.raw.length cr]=L:=⟨_,rfl⟩
 refine enter Tryz.func218 Tryz.ntmps218 rfl rfl ?_
 repeat refine c_r ?_
 refine rg0 ?_
 repeat refine c_r ?_
 refine zaB ?_
 intro w1 hE1 hs1 hA
 have p0:zae w1 (some ⟨w.heap.size,0,Option.none⟩)=some (vi d.ty):=zab hA rfl
 have p1:zae w1 (some ⟨w.heap.size,1,Option.none⟩)=some (.slice an vals.length cn):=zab hA rfl
 have p2:zae w1 (some ⟨w.heap.size,2,Option.none⟩)=some (.slice au d.nums.length cu):=zab hA rfl
 have p3:zae w1 (some ⟨w.heap.size,3,Option.none⟩)=some (.slice at1 d.texts.length ct):=zab hA rfl
 have p4:zae w1 (some ⟨w.heap.size,4,Option.none⟩)=some (.slice ar d.raw.length cr):=zab hA rfl
 have nn:=hf.nn
 have nu:=hf.nu
 have nt:=hf.nt
 have nr:=hf.nr
 have rd:∀{x},Ext w1 x→zae x (some ⟨w.heap.size,1,Option.none⟩)=some (.slice an vals.length cn)∧zae x (some ⟨w.heap.size,3,Option.none⟩)=some (.slice at1 d.texts.length ct)∧zae x (some ⟨w.heap.size,0,Option.none⟩)=some (vi d.ty)∧zae x (some ⟨w.heap.size,2,Option.none⟩)=some (.slice au d.nums.length cu)∧zae x (some ⟨w.heap.size,4,Option.none⟩)=some (.slice ar d.raw.length cr):=
  fun hx=>⟨zaa hx p1,zaa hx p3,zaa hx p0,zaa hx p2,zaa hx p4⟩
 refine zaA (Q:=fun e σ' ds' v'=>e= .normal∧ds'=[]∧σ' 1= .pointer (some ⟨w.heap.size,0,Option.none⟩)∧v'=w1∧∃bb,σ' 17= .bool bb) ?_ ?_
 ·by_cases h1:d.ty<1
  ·refine rq ?_;intro gd K hgd hK
   have hg3:∀n σ b,zat gd n σ (some (3,b))=zaj (ev n σ (.tmp 13)) b:=(fun n σ b=>by rw[zad,show gd 3=some 13 from(by rw[hgd];rfl)];rfl)
   try simp (disch:=first|omega|assumption|rfl) only[go_sem,p0,Nat.add_zero,decide_eq_true h1,↓hg3]
   refine hK _ _ ?_;clear hK hgd;clear K;try clear gd
   exact⟨rfl,rfl,vq0,rfl,_,vr0⟩
  ·refine rq ?_;intro gd K hgd hK
   have hg3:∀n σ b,zat gd n σ (some (3,b))=zaj (ev n σ (.tmp 13)) b:=(fun n σ b=>by rw[zad,show gd 3=some 13 from(by rw[hgd];rfl)];rfl)
   try simp (disch:=first|omega|assumption|rfl) only[go_sem,p0,Nat.add_zero,decide_eq_false h1,↓hg3]
   refine hK _ _ ?_;clear hK hgd;clear K;try clear gd
   exact⟨rfl,rfl,vq0,rfl,_,vr0⟩
 rintro _ σ1 _ v1 ⟨rfl,rfl,h1,hv1,bb,h17⟩
 rw[hv1]
 clear hv1 v1
 repeat refine c_r ?_
 refine zaG (t:=bb) ((vq1 h17)) ?_ ?_
 ·intro _
  repeat (first|refine c_r ?_|refine rg0 ?_)
  refine rt0 Tryz.ntmps218 ?_
  exact⟨hE1,6,rfl,fun h=>by cases h⟩
 intro _
 repeat refine c_r ?_
 refine rq ?_;intro gd K hgd hK
 try simp (disch:=first|omega|assumption|rfl) only[go_sem,h1,p0,Nat.add_zero]
 refine Fn.mono (zlv w1 d.ty) ?_
 rintro _ w2 ⟨hw2,a,b,c,rfl,hca,hcb⟩
 rw[hw2]
 clear hw2 w2
 try simp only[go_sem]
 refine hK _ _ ?_;clear hK hgd;clear K;try clear gd
 repeat refine c_r ?_
 refine rg3 h1 p3 Nat.zero_add ?_
 repeat refine c_r ?_
 refine rg3 h1 p0 Nat.add_zero ?_
 repeat refine c_r ?_
 refine zaA (Q:=fun e σ' ds' v'=>e= .normal∧ds'=[]∧σ' 1= .pointer (some ⟨w.heap.size,0,Option.none⟩)∧σ' 3=vi a∧σ' 4=vi b∧σ' 5=vi c∧v'=w1∧∃bb,σ' 6= .bool bb) ?_ ?_
 ·refine wc0 ?_ ?_
  ·intro h16
   repeat refine c_r ?_
   by_cases h2:(d.texts.length:Int)≥1
   ·refine rq ?_;intro gd K hgd hK
    have hg4:∀n σ b,zat gd n σ (some (4,b))=zaj (ev n σ (.tmp 36)) b:=(fun n σ b=>by rw[zad,show gd 4=some 36 from(by rw[hgd];rfl)];rfl)
    try simp (disch:=first|omega|assumption|rfl) only[go_sem,h1,p3,Nat.zero_add,decide_eq_true h2,↓hg4]
    refine hK _ _ ?_;clear hK hgd;clear K;try clear gd
    exact⟨rfl,rfl,(vq1 h1),vq0,vq0,vq0,rfl,_,vr0⟩
   ·refine rq ?_;intro gd K hgd hK
    have hg4:∀n σ b,zat gd n σ (some (4,b))=zaj (ev n σ (.tmp 36)) b:=(fun n σ b=>by rw[zad,show gd 4=some 36 from(by rw[hgd];rfl)];rfl)
    try simp (disch:=first|omega|assumption|rfl) only[go_sem,h1,p3,Nat.zero_add,decide_eq_false h2,↓hg4]
    refine hK _ _ ?_;clear hK hgd;clear K;try clear gd
    exact⟨rfl,rfl,(vq1 h1),vq0,vq0,vq0,rfl,_,vr0⟩
  ·intro h16
   repeat refine c_r ?_
   exact⟨rfl,rfl,(vq1 h1),vq0,vq0,vq0,rfl,_,vr0⟩
 clear h1
 rintro _ σ2 _ v1 ⟨rfl,rfl,h1,h3,h4,h5,hv1,b6,h6⟩
 rw[hv1]
 clear hv1 v1
 repeat refine c_r ?_
 refine zaA (Q:=fun e σ' ds' v'=>e= .normal∧ds'=[]∧σ' 1= .pointer (some ⟨w.heap.size,0,Option.none⟩)∧v'=w1∧∃bb,σ' 68= .bool bb∧(bb=false→(vals.length:Int)=a∧(d.nums.length:Int)=b)) ?_ ?_
 ·by_cases hA:(vals.length:Int)=a
  rotate_left
  ·refine rq ?_;intro gd K hgd hK
   have hg5:∀n σ b,zat gd n σ (some (5,b))=zaj (ev n σ (.tmp 47)) b:=(fun n σ b=>by rw[zad,show gd 5=some 47 from(by rw[hgd];rfl)];rfl);have hg12:∀n σ b,zat gd n σ (some (12,b))=zaj (ev n σ (.tmp 54)) b:=(fun n σ b=>by rw[zad,show gd 12=some 54 from(by rw[hgd];rfl)];rfl);have hg15:∀n σ b,zat gd n σ (some (15,b))=zaj (ev n σ (.tmp 57)) b:=(fun n σ b=>by rw[zad,show gd 15=some 57 from(by rw[hgd];rfl)];rfl);have hg23:∀n σ b,zat gd n σ (some (23,b))=zaj (ev n σ (.tmp 65)) b:=(fun n σ b=>by rw[zad,show gd 23=some 65 from(by rw[hgd];rfl)];rfl)
   try simp (disch:=first|omega|assumption|rfl) only[go_sem,h1,h3,h4,h5,h6,p1,p2,p4,Nat.zero_add,decide_eq_false hA,Bool.not_true,Bool.not_false,zbI,↓hg5,↓hg12,↓hg15,↓hg23]
   refine hK _ _ ?_;clear hK hgd;clear K;try clear gd
   exact⟨rfl,rfl,(vq1 h1),rfl,_,vr0,fun h=>by cases h⟩
  by_cases hB:(d.nums.length:Int)=b
  rotate_left
  ·refine rq ?_;intro gd K hgd hK
   have hg5:∀n σ b,zat gd n σ (some (5,b))=zaj (ev n σ (.tmp 47)) b:=(fun n σ b=>by rw[zad,show gd 5=some 47 from(by rw[hgd];rfl)];rfl);have hg12:∀n σ b,zat gd n σ (some (12,b))=zaj (ev n σ (.tmp 54)) b:=(fun n σ b=>by rw[zad,show gd 12=some 54 from(by rw[hgd];rfl)];rfl);have hg15:∀n σ b,zat gd n σ (some (15,b))=zaj (ev n σ (.tmp 57)) b:=(fun n σ b=>by rw[zad,show gd 15=some 57 from(by rw[hgd];rfl)];rfl);have hg23:∀n σ b,zat gd n σ (some (23,b))=zaj (ev n σ (.tmp 65)) b:=(fun n σ b=>by rw[zad,show gd 23=some 65 from(by rw[hgd];rfl)];rfl)
   try simp (disch:=first|omega|assumption|rfl) only[go_sem,h1,h3,h4,h5,h6,p1,p2,p4,Nat.zero_add,decide_eq_true hA,decide_eq_false hB,Bool.not_true,Bool.not_false,zbI,↓hg5,↓hg12,↓hg15,↓hg23]
   refine hK _ _ ?_;clear hK hgd;clear K;try clear gd
   exact⟨rfl,rfl,(vq1 h1),rfl,_,vr0,fun h=>by cases h⟩
  by_cases hC:c≥0
  ·by_cases hD:(d.raw.length:Int)=c
   ·refine rq ?_;intro gd K hgd hK
    have hg5:∀n σ b,zat gd n σ (some (5,b))=zaj (ev n σ (.tmp 47)) b:=(fun n σ b=>by rw[zad,show gd 5=some 47 from(by rw[hgd];rfl)];rfl);have hg12:∀n σ b,zat gd n σ (some (12,b))=zaj (ev n σ (.tmp 54)) b:=(fun n σ b=>by rw[zad,show gd 12=some 54 from(by rw[hgd];rfl)];rfl);have hg15:∀n σ b,zat gd n σ (some (15,b))=zaj (ev n σ (.tmp 57)) b:=(fun n σ b=>by rw[zad,show gd 15=some 57 from(by rw[hgd];rfl)];rfl);have hg23:∀n σ b,zat gd n σ (some (23,b))=zaj (ev n σ (.tmp 65)) b:=(fun n σ b=>by rw[zad,show gd 23=some 65 from(by rw[hgd];rfl)];rfl)
    try simp (disch:=first|omega|assumption|rfl) only[go_sem,h1,h3,h4,h5,h6,p1,p2,p4,Nat.zero_add,decide_eq_true hA,decide_eq_true hB,decide_eq_true hC,decide_eq_true hD,Bool.not_true,Bool.not_false,zbI,↓hg5,↓hg12,↓hg15,↓hg23]
    refine hK _ _ ?_;clear hK hgd;clear K;try clear gd
    exact⟨rfl,rfl,(vq1 h1),rfl,_,vr0,fun _=>⟨hA,hB⟩⟩
   ·refine rq ?_;intro gd K hgd hK
    have hg5:∀n σ b,zat gd n σ (some (5,b))=zaj (ev n σ (.tmp 47)) b:=(fun n σ b=>by rw[zad,show gd 5=some 47 from(by rw[hgd];rfl)];rfl);have hg12:∀n σ b,zat gd n σ (some (12,b))=zaj (ev n σ (.tmp 54)) b:=(fun n σ b=>by rw[zad,show gd 12=some 54 from(by rw[hgd];rfl)];rfl);have hg15:∀n σ b,zat gd n σ (some (15,b))=zaj (ev n σ (.tmp 57)) b:=(fun n σ b=>by rw[zad,show gd 15=some 57 from(by rw[hgd];rfl)];rfl);have hg23:∀n σ b,zat gd n σ (some (23,b))=zaj (ev n σ (.tmp 65)) b:=(fun n σ b=>by rw[zad,show gd 23=some 65 from(by rw[hgd];rfl)];rfl)
    try simp (disch:=first|omega|assumption|rfl) only[go_sem,h1,h3,h4,h5,h6,p1,p2,p4,Nat.zero_add,decide_eq_true hA,decide_eq_true hB,decide_eq_true hC,decide_eq_false hD,Bool.not_true,Bool.not_false,zbI,↓hg5,↓hg12,↓hg15,↓hg23]
    refine hK _ _ ?_;clear hK hgd;clear K;try clear gd
    exact⟨rfl,rfl,(vq1 h1),rfl,_,vr0,fun h=>by cases h⟩
  ·refine rq ?_;intro gd K hgd hK
   have hg5:∀n σ b,zat gd n σ (some (5,b))=zaj (ev n σ (.tmp 47)) b:=(fun n σ b=>by rw[zad,show gd 5=some 47 from(by rw[hgd];rfl)];rfl);have hg12:∀n σ b,zat gd n σ (some (12,b))=zaj (ev n σ (.tmp 54)) b:=(fun n σ b=>by rw[zad,show gd 12=some 54 from(by rw[hgd];rfl)];rfl);have hg15:∀n σ b,zat gd n σ (some (15,b))=zaj (ev n σ (.tmp 57)) b:=(fun n σ b=>by rw[zad,show gd 15=some 57 from(by rw[hgd];rfl)];rfl);have hg23:∀n σ b,zat gd n σ (some (23,b))=zaj (ev n σ (.tmp 65)) b:=(fun n σ b=>by rw[zad,show gd 23=some 65 from(by rw[hgd];rfl)];rfl)
   try simp (disch:=first|omega|assumption|rfl) only[go_sem,h1,h3,h4,h5,h6,p1,p2,p4,Nat.zero_add,decide_eq_true hA,decide_eq_true hB,decide_eq_false hC,Bool.not_true,Bool.not_false,zbI,↓hg5,↓hg12,↓hg15,↓hg23]
   refine hK _ _ ?_;clear hK hgd;clear K;try clear gd
   exact⟨rfl,rfl,(vq1 h1),rfl,_,vr0,fun _=>⟨hA,hB⟩⟩
 clear h1 h3 h4 h5 h6
 rintro _ σ3 _ v1 ⟨rfl,rfl,h1,hv1,b7,h68,hb7⟩
 rw[hv1]
 clear hv1 v1
 repeat refine c_r ?_
 refine zaG (t:=b7) ((vq1 h68)) ?_ ?_
 ·intro _
  repeat (first|refine c_r ?_|refine rg0 ?_)
  refine rt0 Tryz.ntmps218 ?_
  exact⟨hE1,2,rfl,fun h=>by cases h⟩
 intro hb
 obtain⟨hA,hB⟩:=hb7 hb
 have hlead:zf6 d.ty→d.names.length=1:=fun h=>by have:=hca h;omega
 repeat refine c_r ?_
 refine rg0 ?_
 repeat refine c_r ?_
 refine zaA (Q:=fun e σ' ds' v'=>ds'=[]∧Ext w1 v'∧((e= .exit 0∧σ' 1= .pointer (some ⟨w.heap.size,0,Option.none⟩)∧∀n∈d.names,zaE n=0)∨(e= .ret∧∃e2:Int,e2≠0∧σ' 2=vi e2))) ?_ ?_
 ·refine zar (fun m σ ds A=>ds=[]∧∃(i:Nat),i+m=vals.length∧σ 7=vi i∧σ 1= .pointer (some ⟨w.heap.size,0,Option.none⟩)∧Ext w1 A∧∀j (h:j<d.names.length),j<i→zaE d.names[j]=0) vals.length ?_ ?_
  ·exact⟨rfl,0,by omega,vr0,(vq1 h1),Keep.refl _ _,fun j h hj=>absurd hj (by omega)⟩
  clear h1
  rintro m σ ds A ⟨rfl,i,him,h7,h1,hEA,hlow⟩
  obtain⟨q1,q3,q0,q2,q4⟩:=rd hEA
  repeat refine c_r ?_
  refine rg4 h7 h1 q1 Nat.zero_add ?_
  repeat refine c_r ?_
  refine wc0 ?_ ?_
  ·intro hlt
   simp only[decide_eq_true_eq]at hlt
   have hi:i<vals.length:=by omega
   have hi0:(0:Int)≤(i:Int):=by omega
   have hi1:(i:Int)<(vals.length:Int):=by omega
   have hi1':(i:Int)+1=((i+1:Nat):Int):=by push_cast;rfl
   have hgi:=hgn i hi
   obtain⟨xN,rfl⟩:=Option.isSome_iff_exists.1 (zag hgi)
   have hgi':=zaa (hE0.trans (hE1.trans hEA)) hgi
   have hrow:=hvr i hi (by omega)
   obtain⟨n,hn⟩:∃n,d.names[i]'(by omega)=n:=⟨_,rfl⟩
   rw[hn]at hrow
   have hnf:=hf.names n (hn▸List.getElem_mem _)
   obtain⟨hv,hhv⟩:∃hv,vals[i]=hv:=⟨_,rfl⟩
   rw[hhv]at hgi' hrow
   repeat refine c_r ?_
   refine rq ?_;intro gd K hgd hK
   try simp (disch:=first|omega|assumption|rfl) only[go_sem,h7,h1,q1,Nat.zero_add,hi0,hi1,hgi']
   refine Fn.mono (zbA A hv n (hrow.ext (hE0.trans (hE1.trans hEA))) hnf.1 hnf.2) ?_
   rintro _ A2 ⟨rfl,hA2⟩
   try simp only[go_sem]
   refine hK _ _ ?_;clear hK hgd;clear K;try clear gd
   repeat refine c_r ?_
   refine rg0 ?_
   repeat refine c_r ?_
   by_cases h0:zaE n=0
   ·rw[h0]
    refine zaG (t:=false) (vr0) (fun h=>by cases h) ?_
    intro _
    repeat refine c_r ?_
    refine rg2 h7 hi1' ?_
    repeat refine c_r ?_
    refine⟨m - 1,by omega,rfl,i+1,by omega,vq0,(vq1 h1),hEA.trans hA2,fun j hj hji=>?_⟩
    by_cases hj2:j=i
    ·subst hj2;rw[hn];exact h0
    ·exact hlow j hj (by omega)
   ·refine zaG (t:=!decide (zaE n=0)) (vr0) ?_ (fun h=>by rw[decide_eq_false h0]at h;cases h)
    intro _
    repeat refine c_r ?_
    refine rg0 ?_
    repeat refine c_r ?_
    exact⟨rfl,hEA.trans hA2,.inr ⟨rfl,zaE n,h0,vq0⟩⟩
  ·intro hge
   simp only[decide_eq_false_iff_not]at hge
   repeat refine c_r ?_
   refine⟨rfl,hEA,.inl ⟨rfl,(vq1 h1),fun n hn=>?_⟩⟩
   obtain⟨j,hj,rfl⟩:=List.getElem_of_mem hn
   exact hlow j hj (by omega)
 clear h1
 rintro e σ4 _ A ⟨rfl,hEA,⟨rfl,h1,hall⟩| ⟨rfl,e2,he2,h2⟩⟩
 rotate_left
 ·repeat refine c_r ?_
  refine rt1 h2 Tryz.ntmps218 ?_
  exact⟨hE1.trans hEA,e2,rfl,fun h=>absurd h he2⟩
 have fin:∀e:Int,e=0→(∀n∈d.names,zaE n=0)∧(zf6 d.ty→d.names.length=1):=fun e _=>⟨hall,hlead⟩
 obtain⟨q1,q3,q0,q2,q4⟩:=rd hEA
 repeat refine c_r ?_
 have hvl0:(d.names.length:Int)=a:=by omega
 refine zaA (Q:=fun e σ' ds' v'=>e= .normal∧ds'=[]∧σ' 1= .pointer (some ⟨w.heap.size,0,Option.none⟩)∧v'=A∧∃bb,σ' 94= .bool bb) ?_ ?_
 ·by_cases h15:d.ty=15
  ·have hb1:=hcb h15
   have hnu1:(0:Int)<(d.nums.length:Int):=by omega
   have hz0:(0:Int)≤0:=by omega
   have hg0:=hgu 0 (by omega)
   obtain⟨xU,rfl⟩:=Option.isSome_iff_exists.1 (zag hg0)
   rw[zaz]at hg0
   have hg0':=zaa (hE0.trans (hE1.trans hEA)) hg0
   rw[List.getElem_map]at hg0'
   refine rq ?_;intro gd K hgd hK
   have hg3:∀n σ b,zat gd n σ (some (3,b))=zaj (ev n σ (.tmp 88)) b:=(fun n σ b=>by rw[zad,show gd 3=some 88 from(by rw[hgd];rfl)];rfl)
   try simp (disch:=first|omega|assumption|rfl) only[go_sem,h1,q0,q2,Nat.add_zero,Nat.zero_add,decide_eq_true h15,hnu1,hz0,hg0',Nat.zero_mul,zaz,Int.toNat_zero,↓hg3]
   refine hK _ _ ?_;clear hK hgd;clear K;try clear gd
   exact⟨rfl,rfl,(vq1 h1),rfl,_,vr0⟩
  ·refine rq ?_;intro gd K hgd hK
   have hg3:∀n σ b,zat gd n σ (some (3,b))=zaj (ev n σ (.tmp 88)) b:=(fun n σ b=>by rw[zad,show gd 3=some 88 from(by rw[hgd];rfl)];rfl)
   try simp (disch:=first|omega|assumption|rfl) only[go_sem,h1,q0,Nat.add_zero,decide_eq_false h15,↓hg3]
   refine hK _ _ ?_;clear hK hgd;clear K;try clear gd
   exact⟨rfl,rfl,(vq1 h1),rfl,_,vr0⟩
 clear h1
 rintro _ σ5 _ v1 ⟨rfl,rfl,h1,hv1,b94,h94⟩
 rw[hv1]
 clear hv1 v1
 repeat refine c_r ?_
 refine zaG (t:=b94) ((vq1 h94)) ?_ ?_
 ·intro _
  repeat (first|refine c_r ?_|refine rg0 ?_)
  refine rt0 Tryz.ntmps218 ?_
  exact⟨hE1.trans hEA,7,rfl,fun h=>by cases h⟩
 intro _
 repeat refine c_r ?_
 refine rg0 ?_
 repeat refine c_r ?_
 refine zaA (Q:=fun e σ' ds' v'=>ds'=[]∧v'=A∧((e= .exit 2∧σ' 1= .pointer (some ⟨w.heap.size,0,Option.none⟩))∨(e= .ret∧σ' 2=vi 3))) ?_ ?_
 ·refine zar (fun m σ ds B=>ds=[]∧∃(i:Nat),i+m=d.texts.length∧σ 9=vi i∧σ 1= .pointer (some ⟨w.heap.size,0,Option.none⟩)∧B=A) d.texts.length ?_ ?_
  ·exact⟨rfl,0,by omega,vr0,(vq1 h1),rfl⟩
  clear h1
  rintro m σ ds B ⟨rfl,i,him,h9,h1,hB2⟩
  rw[hB2]
  clear hB2 B
  repeat refine c_r ?_
  refine rg4 h9 h1 q3 Nat.zero_add ?_
  repeat refine c_r ?_
  refine wc0 ?_ ?_
  ·intro hlt
   simp only[decide_eq_true_eq]at hlt
   have hi:i<d.texts.length:=by omega
   have hi0:(0:Int)≤(i:Int):=by omega
   have hi1:(i:Int)<(d.texts.length:Int):=by omega
   have hi1':(i:Int)+1=((i+1:Nat):Int):=by push_cast;rfl
   have hgi:=hgt i hi
   obtain⟨xT,rfl⟩:=Option.isSome_iff_exists.1 (zag hgi)
   have hgi':=zaa (hE0.trans (hE1.trans hEA)) hgi
   rw[List.getElem_map]at hgi'
   have htl:=hf.tl _ (List.getElem_mem hi)
   repeat refine c_r ?_
   refine rg7 h9 h1 q3 Nat.zero_add hi0 hi1 hgi' ?_
   repeat refine c_r ?_
   refine wc0 ?_ ?_
   ·intro hgt2
    repeat refine c_r ?_
    refine rg0 ?_
    repeat refine c_r ?_
    exact⟨rfl,rfl,.inr ⟨rfl,vq0⟩⟩
   ·intro hgt2
    repeat refine c_r ?_
    refine rg2 h9 hi1' ?_
    repeat refine c_r ?_
    exact⟨m - 1,by omega,rfl,i+1,by omega,vq0,(vq1 h1),rfl⟩
  ·intro hge
   repeat refine c_r ?_
   exact⟨rfl,rfl,.inl ⟨rfl,(vq1 h1)⟩⟩
 clear h1
 rintro e σ6 _ v1 ⟨rfl,hv1,⟨rfl,h1⟩| ⟨rfl,h2⟩⟩
 rotate_left
 ·rw[hv1]
  repeat refine c_r ?_
  refine rt1 h2 Tryz.ntmps218 ?_
  exact⟨hE1.trans hEA,3,rfl,fun h=>by cases h⟩
 rw[hv1]
 clear hv1 v1
 repeat refine c_r ?_
 refine rg3 h1 q4 Nat.zero_add ?_
 repeat refine c_r ?_
 refine wc0 ?_ ?_
 ·intro _
  repeat (first|refine c_r ?_|refine rg0 ?_)
  refine rt0 Tryz.ntmps218 ?_
  exact⟨hE1.trans hEA,3,rfl,fun h=>by cases h⟩
 intro _
 repeat (first|refine c_r ?_|refine rg0 ?_)
 refine rt0 Tryz.ntmps218 ?_
 exact⟨hE1.trans hEA,0,rfl,fin 0⟩
structure DatX(w0:World)(B:Nat)(A:World)(nm:Value)(cs:List Value)(d:DatL):Prop where
 ex:∃nu tx rw vals,cs=[vi d.ty,nm,nu,tx,rw]∧Row A nm vals∧vals.length=d.names.length∧(∀i (h:i<vals.length) (h':i<d.names.length),Row w0 vals[i] (d.names[i].map vs))∧Row w0 nu (d.nums.map v32)∧Row w0 tx (d.texts.map vs)∧Row w0 rw (d.raw.map zaf)
 blk:BlkB B A nm
theorem DatX.at{w0 A:World}{B:Nat}{nm:Value}{cs:List Value}{d:DatL}(h:DatX w0 B A nm cs d)(hE:Ext w0 A):DatAt A cs d:=by
 obtain⟨nu,tx,rw,vals,e,h1,h2,h3,h4,h5,h6⟩:=h.ex
 exact⟨nm,nu,tx,rw,e,⟨vals,h1,h2,fun i a b=>(h3 i a b).ext hE⟩,h4.ext hE,h5.ext hE,h6.ext hE⟩
theorem DatX.keep{w0 A x:World}{B:Nat}{nm:Value}{cs:List Value}{d:DatL}(h:DatX w0 B A nm cs d){S:Nat→Prop}(hk:Keep S A x)(hS:∀a n c,nm= .slice (some a) n c→¬S a.block):DatX w0 B x nm cs d:=by
 obtain⟨nu,tx,rw,vals,e,h1,h2,h3,h4,h5,h6⟩:=h.ex
 exact⟨⟨nu,tx,rw,vals,e,h1.blocks fun a n c hv=>hk.block _ (h.blk a n c hv).2 (hS a n c hv),h2,h3,h4,h5,h6⟩,h.blk.ext hk.size⟩
theorem DatX.mono{w0 A:World}{B B':Nat}{nm:Value}{cs:List Value}{d:DatL}(h:DatX w0 B A nm cs d)(hB:B'≤B):DatX w0 B' A nm cs d:=⟨h.ex,h.blk.mono hB⟩
theorem DOf_ok{w0 w:World}(hE0:Ext w0 w){cs:List Value}{d:DatL}(hd:DatAt w0 cs d)(hnn:d.names.length≤1000000000):
  Fn Tryz.prog 164 #[.agg cs.toArray] w (fun v w'=>Ext w w'∧∃cs' nm,v= .agg cs'.toArray∧DatX w0 w.heap.size w' nm cs' d):=by
 obtain⟨nm,nu,tx,rw',rfl,⟨vals,⟨an,cn,rfl,hcn,hgn⟩,hvl,hvr⟩,hnu,htx,hrw⟩:=hd.ex
 obtain⟨au,cu,rfl,_⟩:=id hnu
 obtain⟨at1,ct,rfl,_⟩:=id htx
 obtain⟨ar,cr,rfl,_⟩:=id hrw
 refine enter Tryz.func164 Tryz.ntmps164 rfl rfl ?_
 repeat refine c_r ?_
 refine rg0 ?_
 repeat refine c_r ?_
 rw[zai]
 refine zaM ?_
 intro w1 hE1 hs1 hA hC
 have p0:zae w1 (some ⟨w.heap.size,0,Option.none⟩)=some (vi d.ty):=zab hA rfl
 have p1:zae w1 (some ⟨w.heap.size,1,Option.none⟩)=some (.slice an vals.length cn):=zab hA rfl
 have p2:zae w1 (some ⟨w.heap.size,2,Option.none⟩)=some (.slice au (d.nums.map v32).length cu):=zab hA rfl
 have p3:zae w1 (some ⟨w.heap.size,3,Option.none⟩)=some (.slice at1 (d.texts.map vs).length ct):=zab hA rfl
 have p4:zae w1 (some ⟨w.heap.size,4,Option.none⟩)=some (.slice ar (d.raw.map zaf).length cr):=zab hA rfl
 refine rq ?_;intro gd K hgd hK
 try simp (disch:=first|omega|assumption|rfl) only[go_sem,p0,p2,p3,p4,Nat.add_zero,Nat.zero_add]
 refine⟨by kernel_rfl,?_⟩
 rw[show bdV Tryz.prog 208 [(0,vi d.ty),(2,.slice au (d.nums.map v32).length cu),(3,.slice at1 (d.texts.map vs).length ct),(4,.slice ar (d.raw.map zaf).length cr)]=some (.agg #[vi d.ty,.slice Option.none 0 0,.slice au (d.nums.map v32).length cu,.slice at1 (d.texts.map vs).length ct,.slice ar (d.raw.map zaf).length cr]) from by kernel_rfl]
 try simp only[go_sem]
 have hB3:=zas w1 (.cells #[vi 0,.slice Option.none 0 0,.slice Option.none 0 0,.slice Option.none 0 0,.slice Option.none 0 0] 208 (0,0))
 have hE4:=Ext.alloc w1 (.cells #[vi 0,.slice Option.none 0 0,.slice Option.none 0 0,.slice Option.none 0 0,.slice Option.none 0 0] 208 (0,0))
 have hs4:=zai w1 (.cells #[vi 0,.slice Option.none 0 0,.slice Option.none 0 0,.slice Option.none 0 0,.slice Option.none 0 0] 208 (0,0))
 revert hB3 hE4 hs4
 generalize w1.alloc (.cells #[vi 0,.slice Option.none 0 0,.slice Option.none 0 0,.slice Option.none 0 0,.slice Option.none 0 0] 208 (0,0))=w2
 intro hB3 hE4 hs4
 refine zaK (P:=Tryz.prog) (t:=208) (l:=[vi d.ty,.slice Option.none 0 0,.slice au (d.nums.map v32).length cu,.slice at1 (d.texts.map vs).length ct,.slice ar (d.raw.map zaf).length cr]) hB3 rfl (fun v h=>by simp at h;rcases h with rfl|rfl|rfl|rfl|rfl<;>rfl) rfl rfl ?_
 intro w3 hs5 hB5 hk5
 try simp only[go_sem]
 refine hK _ _ ?_;clear hK hgd;clear K;try clear gd
 have hE13:Ext w1 w3:=Keep.to_ext hE4 rfl (fun b hb=>by omega) hk5
 obtain⟨b3,hb3⟩:∃b3,w1.heap.size=b3:=⟨_,rfl⟩
 rw[hb3]at hB5
 have hs3:w3.heap.size=b3+1:=by omega
 repeat refine c_r ?_
 refine rg0 ?_
 repeat refine c_r ?_
 rw[hb3]
 refine zar (fun m σ ds A=>ds=[]∧∃(i:Nat) (nv:Value),i+m=vals.length∧σ 4=vi i∧σ 1= .pointer (some ⟨w.heap.size,0,Option.none⟩)∧σ 2= .pointer (some ⟨w.heap.size+1,0,Option.none⟩)∧σ 3= .pointer (some ⟨b3,0,Option.none⟩)∧A.heap[b3]? =some (.cells [vi d.ty,nv,.slice au (d.nums.map v32).length cu,.slice at1 (d.texts.map vs).length ct,.slice ar (d.raw.map zaf).length cr].toArray 208 (0,0))∧Own w3.heap.size A 26 nv (vals.take i)∧Ext w1 A∧w3.heap.size≤A.heap.size) vals.length ?_ ?_
 ·exact⟨rfl,0,.slice Option.none 0 0,by omega,vr0,vq0,vq0,vq0,hB5,Own.nil _ _ _,hE13,Nat.le_refl _⟩
 rintro m σ ds A ⟨rfl,i,nv,him,h4,h1,h2,h3,hb,hown,hEA,hsA⟩
 have q1:=zaa hEA p1
 have s1:=hE1.size
 repeat refine c_r ?_
 refine rg4 h4 h1 q1 Nat.zero_add ?_
 repeat refine c_r ?_
 refine wc0 ?_ ?_
 ·intro hlt
  simp only[decide_eq_true_eq]at hlt
  have hi:i<vals.length:=by omega
  have hi0:(0:Int)≤(i:Int):=by omega
  have hi1:(i:Int)<(vals.length:Int):=by omega
  have hi1':(i:Int)+1=((i+1:Nat):Int):=by push_cast;rfl
  have hgi:=hgn i hi
  obtain⟨xN,rfl⟩:=Option.isSome_iff_exists.1 (zag hgi)
  obtain⟨xi,hxi⟩:∃xi,adr (some xN) i=some xi:=⟨_,rfl⟩
  rw[hxi]at hgi
  have hgA:=zaa (hE0.trans (hE1.trans hEA)) hgi
  have hxb:xi.block<w3.heap.size:=by
   have:=zds (show w0.cell? xi=some _ from hgi)
   have:=(hE0.trans (hE1.trans hE13)).size
   omega
  have hrow:=hvr i hi (by omega)
  obtain⟨hv,hhv⟩:∃hv,vals[i]=hv:=⟨_,rfl⟩
  rw[hhv]at hgA hrow
  obtain⟨ha,hc,hve,_⟩:=id hrow
  have hone:one hv=true:=by rw[hve];rfl
  have htk:vals.take (i+1)=vals.take i++ [hv]:=by rw[zan hi,hhv]
  have hnv:zae A (some ⟨b3,1,Option.none⟩)=some nv:=zce hb rfl
  have hvals:(vals.take i).length≤1000000000:=by rw[List.length_take];omega
  repeat refine c_r ?_
  refine zaH (fun i=>i==10) [(0,true),(1,true),(2,true),(3,true),(4,true),(5,true),(6,true),(7,false),(8,false),(9,true),(10,false)] (zd8 w3.heap.size) mixed (by kernel_rfl) ?_;intro gd K x hgd hx hxe hK;have hx0:=zfp hxe;clear hxe
  have hgx:=zaa hx0 hgA
  have hnx:=zaa hx0 hnv
  have q1x:=zaa hx0 q1
  have hxs:=hx.size
  simp (disch:=first|omega|assumption|rfl) only[go_sem,h4,h1,h3,q1x,hgx,hnx,hi0,hi1,hxi,Nat.zero_add,Nat.mul_one]
  refine⟨zdI (by omega),zdI (by omega),zgT hxb,?_⟩
  refine zcD (z:= .slice Option.none 0 0) (v:=hv) (by rfl) (by rfl) (by rfl) (by rfl) (by rw[hve];rfl) ?_
  intro w5 hE5 hs5 ho5
  refine⟨.inr hE5.keep,?_⟩
  simp (disch:=first|omega|assumption|rfl) only[go_sem]
  have hx5:=hx0.trans hE5
  have hx5s:=hx5.size
  refine zch (hown.ext hx5) ho5.row rfl rfl rfl rfl rfl rfl (vr0) (vr0) (fun q hq=>by rw[List.mem_singleton.1 hq];exact hone) (by rw[List.length_singleton];omega) (by decide) (by omega) ?_
  intro v7 w7 ho7 hE7 hk7 hb7
  refine⟨.inr (hk7.mono fun b _ hb=>by have:=(hown.ge hb).1;show _≤_;omega),?_⟩
  simp (disch:=first|omega|assumption|rfl) only[go_sem,h3]
  have hk7s:=hk7.size
  obtain⟨a7,c7,hv7⟩:=ho7.slice
  have hb3w:w7.heap[b3]? =some (.cells [vi d.ty,nv,.slice au (d.nums.map v32).length cu,.slice at1 (d.texts.map vs).length ct,.slice ar (d.raw.map zaf).length cr].toArray 208 (0,0)):=(hk7.block b3 (by omega) (fun h=>by have:=(hown.ge h).1;omega)).trans (Ext.at hx5 hb)
  refine zaR (P:=Tryz.prog) (t:=62) (j:=1) (l:=[vi d.ty,nv,.slice au (d.nums.map v32).length cu,.slice at1 (d.texts.map vs).length ct,.slice ar (d.raw.map zaf).length cr]) hb3w (by simp) (by rw[hv7];rfl) rfl rfl ?_
  intro z hz' hbz hkz
  refine⟨.inl rfl,?_⟩
  simp (disch:=first|omega|assumption|rfl) only[go_sem]
  refine hK _ _ ?_;clear hK hgd;clear K;try clear gd
  have hEz:Ext w1 z:=Keep.to_ext (hE7 w1 (hEA.trans hx5) (by omega)) rfl (fun b hb=>by omega) hkz
  repeat refine c_r ?_
  refine rg2 h4 hi1' ?_
  repeat refine c_r ?_
  exact⟨m - 1,by omega,rfl,i+1,v7,by omega,vq0,(vq1 h1),(vq1 h2),(vq1 h3),hbz,by rw[htk];exact ho7.keep hkz (fun b hb h=>by have:=(ho7.ge hb).1;omega),hEz,by omega⟩
 ·intro hge
  simp only[decide_eq_false_iff_not]at hge
  have hi:i=vals.length:=by omega
  rw[hi,List.take_length]at hown
  obtain⟨na,nc,hnv⟩:=hown.slice
  repeat refine c_r ?_
  refine rq ?_;intro gd K hgd hK
  have d5:=zah (n:=5) hb rfl
  try simp (disch:=first|omega|assumption|rfl) only[go_sem,h3,h2,d5]
  refine zaK (P:=Tryz.prog) (t:=208) (l:=[vi d.ty,nv,.slice au (d.nums.map v32).length cu,.slice at1 (d.texts.map vs).length ct,.slice ar (d.raw.map zaf).length cr]) (Ext.at hEA hC) rfl (fun v h=>by
   simp at h
   rcases h with rfl|rfl|rfl|rfl|rfl
   ·rfl
   ·rw[hnv];rfl
   ·rfl
   ·rfl
   ·rfl) rfl rfl ?_
  intro z hz' hbz hkz
  try simp only[go_sem]
  refine hK _ _ ?_;clear hK hgd;clear K;try clear gd
  repeat refine c_r ?_
  refine zaC (.inr rfl) Tryz.ntmps164 rfl (zaX (x:=⟨w.heap.size+1,0,Option.none⟩) (k:=5) ((vq1 h2)) rfl rfl (zah hbz rfl) zav) ?_
  have hEz:Ext w z:=Keep.to_ext (hE1.trans hEA) rfl (fun b hb=>by omega) hkz
  have hownz:=hown.keep hkz (fun b hb h=>by have:=(hown.ge hb).1;omega)
  refine⟨hEz,_,nv,rfl,⟨⟨_,_,_,vals,rfl,hownz.row,hvl,hvr,hnu,htx,hrw⟩,fun a n c hv=>?_⟩⟩
  have:=hownz.ge (b:=a.block) (by rw[hv];rfl)
  omega
theorem DatAt.open{w:World}{cs:List Value}{d:DatL}(h:DatAt w cs d):∃a1 n1 c1 a2 n2 c2 a3 n3 c3 a4 n4 c4,cs=[vi d.ty,.slice a1 n1 c1,.slice a2 n2 c2,.slice a3 n3 c3,.slice a4 n4 c4]:=by
 obtain⟨nm,nu,tx,rw',rfl,⟨vals,⟨an,cn,rfl,_⟩,_⟩,⟨au,cu,rfl,_⟩,⟨at1,ct,rfl,_⟩,⟨ar,cr,rfl,_⟩⟩:=h.ex
 exact⟨_,_,_,_,_,_,_,_,_,_,_,_,rfl⟩
theorem DatX.open{w0 A:World}{B:Nat}{nm:Value}{cs:List Value}{d:DatL}(h:DatX w0 B A nm cs d):∃a1 n1 c1 a2 n2 c2 a3 n3 c3 a4 n4 c4,cs=[vi d.ty,.slice a1 n1 c1,.slice a2 n2 c2,.slice a3 n3 c3,.slice a4 n4 c4]:=by
 obtain⟨nu,tx,rw,vals,e,⟨a1,c1,rfl,_⟩,h2,h3,⟨a4,c4,rfl,_⟩,⟨a5,c5,rfl,_⟩,⟨a6,c6,rfl,_⟩⟩:=h.ex
 exact⟨_,_,_,_,_,_,_,_,_,_,_,_,e⟩
structure RecX(w0:World)(B:Nat)(A:World)(nm:Value)(cs:List Value)(r:RecL):Prop where
 ex:∃ow ds,cs=ow::v32 r.ttl::ds∧Row w0 ow (r.owner.map vs)∧DatX w0 B A nm ds r.dat
theorem RecX.at{w0 A:World}{B:Nat}{nm:Value}{cs:List Value}{r:RecL}(h:RecX w0 B A nm cs r)(hE:Ext w0 A):RecAt A cs r:=by
 obtain⟨ow,ds,e,h1,h2⟩:=h.ex
 exact⟨ow,ds,e,h1.ext hE,h2.at hE⟩
theorem RecX.keep{w0 A x:World}{B:Nat}{nm:Value}{cs:List Value}{r:RecL}(h:RecX w0 B A nm cs r){S:Nat→Prop}(hk:Keep S A x)(hS:∀a n c,nm= .slice (some a) n c→¬S a.block):RecX w0 B x nm cs r:=by
 obtain⟨ow,ds,e,h1,h2⟩:=h.ex
 exact⟨ow,ds,e,h1,h2.keep hk hS⟩
theorem RecX.mono{w0 A:World}{B B':Nat}{nm:Value}{cs:List Value}{r:RecL}(h:RecX w0 B A nm cs r)(hB:B'≤B):RecX w0 B' A nm cs r:=by
 obtain⟨ow,ds,e,h1,h2⟩:=h.ex
 exact⟨ow,ds,e,h1,h2.mono hB⟩
theorem RecX.blk{w0 A:World}{B:Nat}{nm:Value}{cs:List Value}{r:RecL}(h:RecX w0 B A nm cs r):BlkB B A nm:=by
 obtain⟨ow,ds,e,h1,h2⟩:=h.ex
 exact h2.blk
theorem RecX.cells{w0 A:World}{B:Nat}{nm:Value}{cs:List Value}{r:RecL}(h:RecX w0 B A nm cs r):cs.length=7∧∀q∈cs,one q=true:=by
 obtain⟨ow,ds,e,⟨a,c,rfl,_⟩,h2⟩:=h.ex
 obtain⟨b1,m1,e1,b2,m2,e2,b3,m3,e3,b4,m4,e4,hds⟩:=h2.open
 rw[e,hds]
 refine⟨rfl,fun q hq=>?_⟩
 simp at hq
 rcases hq with rfl|rfl|rfl|rfl|rfl|rfl|rfl<;>rfl
theorem zlj{w0 w:World}(hE0:Ext w0 w){cs:List Value}{r:RecL}(hr:RecAt w0 cs r)(hnn:r.dat.names.length≤1000000000):
  Fn Tryz.prog 116 #[.agg cs.toArray] w (fun v w'=>Ext w w'∧∃cs' nm,v= .agg cs'.toArray∧RecX w0 w.heap.size w' nm cs' r):=by
 obtain⟨ow,ds,rfl,h1,h2⟩:=hr.ex
 obtain⟨oa,oc,how,_⟩:=id h1
 obtain⟨on,hon⟩:∃on,(r.owner.map vs).length=on:=⟨_,rfl⟩
 rw[hon]at how
 obtain⟨b1,m1,e1,b2,m2,e2,b3,m3,e3,b4,m4,e4,hds⟩:=h2.open
 rw[hds,how]
 refine enter Tryz.func116 Tryz.ntmps116 rfl rfl ?_
 repeat refine c_r ?_
 refine rg0 ?_
 repeat refine c_r ?_
 rw[zai]
 refine zaM ?_
 intro w1 hE1 hs1 hA hC
 have p0:zae w1 (some ⟨w.heap.size,0,Option.none⟩)=some (.slice oa on oc):=zab hA rfl
 have p1:zae w1 (some ⟨w.heap.size,1,Option.none⟩)=some (v32 r.ttl):=zab hA rfl
 have p2:zal w1 (some ⟨w.heap.size,2,Option.none⟩) 5=some [vi r.dat.ty,.slice b1 m1 e1,.slice b2 m2 e2,.slice b3 m3 e3,.slice b4 m4 e4]:=by
  have h7:=zah (n:=7) (l:=[.slice oa on oc,v32 r.ttl,vi r.dat.ty,.slice b1 m1 e1,.slice b2 m2 e2,.slice b3 m3 e3,.slice b4 m4 e4]) hA rfl
  have:=za5 (m:=2) (k:=5) h7
  rwa [zaW]at this
 refine zaH (fun i=>i==8) [(0,true),(1,true),(2,true),(3,true),(4,true),(5,true),(6,false),(7,true),(8,false)] NoS mixed (by kernel_rfl) ?_;intro gd K x hgd hx hxe hK;clear hxe
 have p0x:=zaa hx p0
 have p1x:=zaa hx p1
 have p2x:=zac hx p2
 have hxs:=hx.size
 simp (disch:=first|omega|assumption|rfl) only[go_sem,p0x,p1x,p2x,Nat.add_zero,Nat.zero_add]
 rw[←hds]
 refine Fn.mono (DOf_ok (hE0.trans (hE1.trans hx)) h2 hnn) ?_
 rintro _ w2 ⟨hE2,cs',nm',rfl,hd'⟩
 refine⟨.inr hE2,?_⟩
 obtain⟨b1',m1',e1',b2',m2',e2',b3',m3',e3',b4',m4',e4',hds'⟩:=hd'.open
 rw[hds']
 simp (disch:=first|omega|assumption|rfl) only[go_sem,p0x,p1x,p2x,Nat.add_zero,Nat.zero_add]
 refine⟨by kernel_rfl,?_⟩
 rw[show bdV Tryz.prog 210 [(0,.slice oa on oc),(1,v32 r.ttl),(2,.agg [vi r.dat.ty,.slice b1' m1' e1',.slice b2' m2' e2',.slice b3' m3' e3',.slice b4' m4' e4'].toArray)]=some (.agg #[.slice oa on oc,v32 r.ttl,vi r.dat.ty,.slice b1' m1' e1',.slice b2' m2' e2',.slice b3' m3' e3',.slice b4' m4' e4']) from by kernel_rfl]
 simp (disch:=first|omega|assumption|rfl) only[go_sem]
 refine zaK (P:=Tryz.prog) (t:=210) (l:=[.slice oa on oc,v32 r.ttl,vi r.dat.ty,.slice b1' m1' e1',.slice b2' m2' e2',.slice b3' m3' e3',.slice b4' m4' e4']) (Ext.at (hx.trans hE2) hC) rfl (fun v h=>by simp at h;rcases h with rfl|rfl|rfl|rfl|rfl|rfl|rfl<;>rfl) rfl rfl ?_
 intro z hz' hbz hkz
 refine⟨.inl rfl,?_⟩
 simp (disch:=first|omega|assumption|rfl) only[go_sem]
 refine hK _ _ ?_;clear hK hgd;clear K;try clear gd
 repeat refine c_r ?_
 refine zaC (.inr rfl) Tryz.ntmps116 rfl (zaX (x:=⟨w.heap.size+1,0,Option.none⟩) (k:=7) (vq0) rfl rfl (zah hbz rfl) zav) ?_
 have hEz:Ext w z:=Keep.to_ext (hE1.trans (hx.trans hE2)) rfl (fun b hb=>by omega) hkz
 refine⟨hEz,_,nm',rfl,⟨ow,cs',?_,h1,?_⟩⟩
 ·rw[how,hds']
 ·exact(hd'.keep hkz (fun a n c hv=>by have:=hd'.blk a n c hv;omega)).mono (by omega)
abbrev OX:=RecL×(Value×List Value)
def oxC(cs:List Value)(x:OX):Prop:=cs=x.2.2∧cs.length=7∧∀q∈cs,one q=true
theorem zio:zeq 7 oxC:=⟨fun h=>h.2.1,fun h=>h.2.2⟩
structure OI(w0:World)(B:Nat)(A:World)(ov:Value)(G:List OX):Prop where
 own:Owns 7 oxC B A 210 ov G
 row:∀x∈G,RecX w0 B A x.2.1 x.2.2 x.1∧∀a n c,x.2.1= .slice (some a) n c→some a.block≠ov.ownBlock
theorem OI.ext{w0 A A':World}{B:Nat}{ov:Value}{G:List OX}(h:OI w0 B A ov G)(hE:Ext A A'):OI w0 B A' ov G:=
 ⟨h.own.ext hE,fun x hx=>by
  obtain⟨h1,h2⟩:=h.row x hx
  exact⟨h1.keep hE (fun a n c hv h=>h),h2⟩⟩
theorem OI.app{w0 A A':World}{B:Nat}{ov v':Value}{G:List OX}{s:OX}(h:OI w0 B A ov G)(hs:RecX w0 B A s.2.1 s.2.2 s.1∧∀a n c,s.2.1= .slice (some a) n c→some a.block≠ov.ownBlock)
  (ho:Owns 7 oxC B A' 210 v' (G++ [s])) (hk:Keep (fun b=>some b=ov.ownBlock) A A') (hb:∀b,some b=v'.ownBlock→some b=ov.ownBlock∨A.heap.size≤b):OI w0 B A' v' (G++ [s]):=by
 refine⟨ho,fun y hy=>?_⟩
 have hy2:RecX w0 B A y.2.1 y.2.2 y.1∧∀a n c,y.2.1= .slice (some a) n c→some a.block≠ov.ownBlock:=by
  rcases List.mem_append.1 hy with hy|hy
  ·exact h.row y hy
  ·rw[List.mem_singleton.1 hy];exact hs
 obtain⟨h1,h2⟩:=hy2
 refine⟨h1.keep hk h2,fun a n c hv e=>?_⟩
 rcases hb _ e with e|e
 ·exact h2 a n c hv e
 ·have:=(h1.blk a n c hv).2;omega
theorem zln{w0 w:World}(hE0:Ext w0 w){lv:Value}{R:List RecL}(hl:Rows 7 (RecAt w0) w lv R)(hnn:∀r∈R,r.dat.names.length≤1000000000)(hlen:R.length≤1000000000):
  Fn Tryz.prog 64 #[lv] w (fun v w'=>Ext w w'∧∃G:List OX,OI w0 w.heap.size w' v G∧G.map Prod.fst=R):=by
 obtain⟨aR,cR,rfl,hcR,hgR⟩:=hl.open
 refine enter Tryz.func64 Tryz.ntmps64 rfl rfl ?_
 repeat refine c_r ?_
 refine rg0 ?_
 repeat refine c_r ?_
 refine rg0 ?_
 repeat refine c_r ?_
 refine rg0 ?_
 repeat refine c_r ?_
 refine zar (fun m σ ds A=>ds=[]∧∃(i:Nat) (ov:Value) (G:List OX),i+m=R.length∧σ 4=vi i∧σ 3=ov∧σ 0= .slice aR R.length cR∧Ext w A∧OI w0 w.heap.size A ov G∧G.map Prod.fst=R.take i) R.length ?_ ?_
 ·exact⟨rfl,0,.slice Option.none 0 0,[],by omega,vr0,vq0,vq0,Keep.refl _ _,⟨Owns.nil _ _ _ _ _,fun x h=>absurd h (by simp)⟩,rfl⟩
 rintro m σ ds A ⟨rfl,i,ov,G,him,h4,h3,h0,hEA,hOI,hG⟩
 repeat refine c_r ?_
 refine rg2 h4 h0 ?_
 repeat refine c_r ?_
 refine wc0 ?_ ?_
 ·intro hlt
  simp only[decide_eq_true_eq]at hlt
  have hi:i<R.length:=by omega
  have hi0:(0:Int)≤(i:Int):=by omega
  have hi1:(i:Int)<(R.length:Int):=by omega
  have hi1':(i:Int)+1=((i+1:Nat):Int):=by push_cast;rfl
  have hGl:G.length=i:=by
   have:=congrArg List.length hG
   simp at this;omega
  obtain⟨cr,hcr,hRr⟩:=hgR i hi
  obtain⟨r,hr⟩:∃r,R[i]=r:=⟨_,rfl⟩
  rw[hr]at hRr
  have hrn:=hnn r (hr▸List.getElem_mem hi)
  obtain⟨xR,rfl⟩:=Option.isSome_iff_exists.1 (zao hcr)
  obtain⟨xi,hxi⟩:∃xi,adr (some xR) (i*7)=some xi:=⟨_,rfl⟩
  rw[hxi]at hcr
  have hcA:=zac hEA hcr
  repeat refine c_r ?_
  refine rq ?_;intro gd K hgd hK
  try simp (disch:=first|omega|assumption|rfl) only[go_sem,h3,h0,h4,hi0,hi1,hxi,hcA]
  refine Fn.mono (zlj (hE0.trans hEA) hRr hrn) ?_
  rintro _ A2 ⟨hA2,cs',nm',rfl,hx⟩
  have hA2s:=hA2.size
  have hEAs:=hEA.size
  try simp only[go_sem]
  refine za9 (l:=cs') (a:=((r,(nm',cs')):OX)) zio rfl rfl rfl rfl ⟨rfl,hx.cells.1,hx.cells.2⟩ (by decide) ?_
  intro A3 hA3 hs3 ho3
  try simp (disch:=first|omega|assumption|rfl) only[go_sem,h3]
  refine zaT zio ((hOI.ext hA2).ext hA3).own ho3.rows rfl rfl rfl rfl rfl rfl (by decide) (vr0) (vr0) (by simp;omega) (by decide) (by omega) ?_
  intro v7 A4 ho7 hE7 hk7 hb7
  try simp only[go_sem]
  refine hK _ _ ?_;clear hK hgd;clear K;try clear gd
  have hnew:=((hOI.ext hA2).ext hA3).app (s:=((r,(nm',cs')):OX)) ⟨(hx.keep hA3 (fun a n c hv h=>h)).mono hEAs,fun a n c hv e=>by
   have h8:=(hx.blk a n c hv).1
   have h9:=(hOI.own.ge e).2
   omega⟩ ho7 hk7 hb7
  repeat refine c_r ?_
  refine rg2 h4 hi1' ?_
  repeat refine c_r ?_
  exact⟨m - 1,by omega,rfl,i+1,v7,_,by omega,vq0,vq0,(vq1 h0),hE7 w ((hEA.trans hA2).trans hA3) (Nat.le_refl _),hnew,by rw[List.map_append,hG,zan hi,hr];rfl⟩
 ·intro hge
  simp only[decide_eq_false_iff_not]at hge
  have hi:i=R.length:=by omega
  rw[hi,List.take_length]at hG
  repeat refine c_r ?_
  refine rg1 h3 ?_
  repeat refine c_r ?_
  refine rt0 Tryz.ntmps64 ?_
  exact⟨hEA,G,hOI,hG⟩
theorem OI.rows{w0 A:World}{B:Nat}{ov:Value}{G:List OX}(h:OI w0 B A ov G)(hE:Ext w0 A):Rows 7 (RecAt A) A ov (G.map Prod.fst):=
 h.own.rows.mapM (C':=RecAt A) Prod.fst fun cs x hx hc=>by
  rw[hc.1]
  exact(h.row x hx).1.at hE
theorem ziQ{w0 w:World}(hE0:Ext w0 w){lv:Value}{R:List RecL}(hl:Rows 7 (RecAt w0) w lv R)(hnn:∀r∈R,r.dat.names.length≤1000000000)(hlen:R.length≤1000000000):
  Fn Tryz.prog 64 #[lv] w (fun v w'=>Ext w w'∧Rows 7 (RecAt w') w' v R):=by
 refine Fn.mono (zln hE0 hl hnn hlen) ?_
 rintro v w' ⟨hE,G,hOI,rfl⟩
 exact⟨hE,hOI.rows (hE0.trans hE)⟩
theorem zhr{w0 w:World}(hE0:Ext w0 w){cs:List Value}{r:RecL}(hr:RecAt w0 cs r)(hf:DatF r.dat)(ho:(∀l∈r.owner,l.length≤1000000000)∧r.owner.length≤1000000000):
  Fn Tryz.prog 163 #[.agg cs.toArray] w (fun v w'=>Ext w w'∧∃e:Int,v=vi e∧(e=0→zaE r.owner=0∧(∀n∈r.dat.names,zaE n=0)∧(zf6 r.dat.ty→r.dat.names.length=1))):=by
 obtain⟨ow,ds,rfl,h1,h2⟩:=hr.ex
 obtain⟨b1,m1,e1,b2,m2,e2,b3,m3,e3,b4,m4,e4,hds⟩:=h2.open
 rw[hds]
 refine enter Tryz.func163 Tryz.ntmps163 rfl rfl ?_
 repeat refine c_r ?_
 refine rg0 ?_
 repeat refine c_r ?_
 refine zaB ?_
 intro w1 hE1 hs1 hA
 have p0:zae w1 (some ⟨w.heap.size,0,Option.none⟩)=some ow:=zab hA rfl
 have p1:zae w1 (some ⟨w.heap.size,1,Option.none⟩)=some (v32 r.ttl):=zab hA rfl
 have p2:zal w1 (some ⟨w.heap.size,2,Option.none⟩) 5=some ds:=by
  have h7:=zah (n:=7) (l:=[ow,v32 r.ttl,vi r.dat.ty,.slice b1 m1 e1,.slice b2 m2 e2,.slice b3 m3 e3,.slice b4 m4 e4]) hA rfl
  have:=za5 (m:=2) (k:=5) h7
  rw[zaW]at this
  rw[hds];exact this
 refine rq ?_;intro gd K hgd hK
 try simp (disch:=first|omega|assumption|rfl) only[go_sem,p0,Nat.add_zero]
 refine Fn.mono (zbA w1 ow r.owner (h1.ext (hE0.trans hE1)) ho.1 ho.2) ?_
 rintro _ w2 ⟨rfl,hE2⟩
 try simp only[go_sem]
 refine hK _ _ ?_;clear hK hgd;clear K;try clear gd
 have hE12:=hE1.trans hE2
 have p1':=zaa hE2 p1
 have p2':=zac hE2 p2
 repeat refine c_r ?_
 refine rg0 ?_
 repeat refine c_r ?_
 by_cases h0:zaE r.owner=0
 rotate_left
 ·refine zaG (t:=!decide (zaE r.owner=0)) (vr0) ?_ (fun h=>by rw[decide_eq_false h0]at h;cases h)
  intro _
  repeat refine c_r ?_
  refine rg0 ?_
  repeat refine c_r ?_
  refine rt0 Tryz.ntmps163 ?_
  exact⟨hE12,_,rfl,fun h=>absurd h h0⟩
 refine zaG (t:=!decide (zaE r.owner=0)) (vr0) (fun h=>by rw[decide_eq_true h0]at h;cases h) ?_
 intro _
 repeat refine c_r ?_
 refine rg2 p1' Nat.zero_add ?_
 repeat refine c_r ?_
 refine wc0 ?_ ?_
 ·intro _
  repeat (first|refine c_r ?_|refine rg0 ?_)
  refine rt0 Tryz.ntmps163 ?_
  exact⟨hE12,7,rfl,fun h=>by cases h⟩
 intro _
 repeat refine c_r ?_
 refine rq ?_;intro gd K hgd hK
 try simp (disch:=first|omega|assumption|rfl) only[go_sem,p2',Nat.zero_add]
 refine Fn.mono (zgq (hE0.trans hE12) h2 hf) ?_
 rintro _ w3 ⟨hE3,e,rfl,he⟩
 try simp only[go_sem]
 refine hK _ _ ?_;clear hK hgd;clear K;try clear gd
 repeat refine c_r ?_
 refine rt0 Tryz.ntmps163 ?_
 exact⟨hE12.trans hE3,e,rfl,fun h=>⟨h0,he h⟩⟩
theorem few_f{n:Nm}(h:few n=true):(∀l∈n,l.length≤1000000000)∧n.length≤1000000000:=by
 simp only[few,Bool.and_eq_true,List.all_eq_true,decide_eq_true_eq]at h
 exact⟨fun l hl=>by have:=h.2 l hl;omega,by omega⟩
theorem DFew_ok{w0 w:World}(hE0:Ext w0 w){cs:List Value}{d:DatL}(hd:DatAt w0 cs d):
  Fn Tryz.prog 217 #[.agg cs.toArray] w (fun v w'=>Ext w w'∧∃b:Bool,v= .bool b∧(b=true→DatF d)):=by
 obtain⟨nm,nu,tx,rw',rfl,⟨vals,⟨an,cn,rfl,hcn,hgn⟩,hvl,hvr⟩,⟨au,cu,rfl,hcu,hgu⟩,⟨at1,ct,rfl,hct,hgt⟩,⟨ar,cr,rfl,hcr,hgr⟩⟩:=hd.ex
 simp only[List.length_map]at hcu hgu hct hgt hcr hgr
 simp only[List.length_map]
 refine enter Tryz.func217 Tryz.ntmps217 rfl rfl ?_
 repeat refine c_r ?_
 refine rg0 ?_
 repeat refine c_r ?_
 refine zaB ?_
 intro w1 hE1 hs1 hA
 have p1:zae w1 (some ⟨w.heap.size,1,Option.none⟩)=some (.slice an vals.length cn):=zab hA rfl
 have p2:zae w1 (some ⟨w.heap.size,2,Option.none⟩)=some (.slice au d.nums.length cu):=zab hA rfl
 have p3:zae w1 (some ⟨w.heap.size,3,Option.none⟩)=some (.slice at1 d.texts.length ct):=zab hA rfl
 have p4:zae w1 (some ⟨w.heap.size,4,Option.none⟩)=some (.slice ar d.raw.length cr):=zab hA rfl
 refine zaA (Q:=fun e σ' ds' v'=>e= .normal∧ds'=[]∧σ' 1= .pointer (some ⟨w.heap.size,0,Option.none⟩)∧v'=w1∧∃bb,σ' 26= .bool bb∧(bb=false→vals.length≤8∧d.nums.length≤12∧d.texts.length≤40∧d.raw.length≤1100)) ?_ ?_
 ·by_cases hA1:(vals.length:Int)>8
  ·refine rq ?_;intro gd K hgd hK
   have hg4:∀n σ b,zat gd n σ (some (4,b))=zaj (ev n σ (.tmp 9)) b:=(fun n σ b=>by rw[zad,show gd 4=some 9 from(by rw[hgd];rfl)];rfl);have hg10:∀n σ b,zat gd n σ (some (10,b))=zaj (ev n σ (.tmp 15)) b:=(fun n σ b=>by rw[zad,show gd 10=some 15 from(by rw[hgd];rfl)];rfl);have hg16:∀n σ b,zat gd n σ (some (16,b))=zaj (ev n σ (.tmp 21)) b:=(fun n σ b=>by rw[zad,show gd 16=some 21 from(by rw[hgd];rfl)];rfl)
   try simp (disch:=first|omega|assumption|rfl) only[go_sem,p1,Nat.zero_add,decide_eq_true hA1,zbI,↓hg4,↓hg10,↓hg16]
   refine hK _ _ ?_;clear hK hgd;clear K;try clear gd
   exact⟨rfl,rfl,vq0,rfl,_,vr0,fun h=>by cases h⟩
  by_cases hA2:(d.nums.length:Int)>12
  ·refine rq ?_;intro gd K hgd hK
   have hg4:∀n σ b,zat gd n σ (some (4,b))=zaj (ev n σ (.tmp 9)) b:=(fun n σ b=>by rw[zad,show gd 4=some 9 from(by rw[hgd];rfl)];rfl);have hg10:∀n σ b,zat gd n σ (some (10,b))=zaj (ev n σ (.tmp 15)) b:=(fun n σ b=>by rw[zad,show gd 10=some 15 from(by rw[hgd];rfl)];rfl);have hg16:∀n σ b,zat gd n σ (some (16,b))=zaj (ev n σ (.tmp 21)) b:=(fun n σ b=>by rw[zad,show gd 16=some 21 from(by rw[hgd];rfl)];rfl)
   try simp (disch:=first|omega|assumption|rfl) only[go_sem,p1,p2,Nat.zero_add,decide_eq_false hA1,decide_eq_true hA2,zbI,↓hg4,↓hg10,↓hg16]
   refine hK _ _ ?_;clear hK hgd;clear K;try clear gd
   exact⟨rfl,rfl,vq0,rfl,_,vr0,fun h=>by cases h⟩
  by_cases hA3:(d.texts.length:Int)>40
  ·refine rq ?_;intro gd K hgd hK
   have hg4:∀n σ b,zat gd n σ (some (4,b))=zaj (ev n σ (.tmp 9)) b:=(fun n σ b=>by rw[zad,show gd 4=some 9 from(by rw[hgd];rfl)];rfl);have hg10:∀n σ b,zat gd n σ (some (10,b))=zaj (ev n σ (.tmp 15)) b:=(fun n σ b=>by rw[zad,show gd 10=some 15 from(by rw[hgd];rfl)];rfl);have hg16:∀n σ b,zat gd n σ (some (16,b))=zaj (ev n σ (.tmp 21)) b:=(fun n σ b=>by rw[zad,show gd 16=some 21 from(by rw[hgd];rfl)];rfl)
   try simp (disch:=first|omega|assumption|rfl) only[go_sem,p1,p2,p3,Nat.zero_add,decide_eq_false hA1,decide_eq_false hA2,decide_eq_true hA3,zbI,↓hg4,↓hg10,↓hg16]
   refine hK _ _ ?_;clear hK hgd;clear K;try clear gd
   exact⟨rfl,rfl,vq0,rfl,_,vr0,fun h=>by cases h⟩
  by_cases hA4:(d.raw.length:Int)>1100
  ·refine rq ?_;intro gd K hgd hK
   have hg4:∀n σ b,zat gd n σ (some (4,b))=zaj (ev n σ (.tmp 9)) b:=(fun n σ b=>by rw[zad,show gd 4=some 9 from(by rw[hgd];rfl)];rfl);have hg10:∀n σ b,zat gd n σ (some (10,b))=zaj (ev n σ (.tmp 15)) b:=(fun n σ b=>by rw[zad,show gd 10=some 15 from(by rw[hgd];rfl)];rfl);have hg16:∀n σ b,zat gd n σ (some (16,b))=zaj (ev n σ (.tmp 21)) b:=(fun n σ b=>by rw[zad,show gd 16=some 21 from(by rw[hgd];rfl)];rfl)
   try simp (disch:=first|omega|assumption|rfl) only[go_sem,p1,p2,p3,p4,Nat.zero_add,decide_eq_false hA1,decide_eq_false hA2,decide_eq_false hA3,decide_eq_true hA4,zbI,↓hg4,↓hg10,↓hg16]
   refine hK _ _ ?_;clear hK hgd;clear K;try clear gd
   exact⟨rfl,rfl,vq0,rfl,_,vr0,fun h=>by cases h⟩
  ·refine rq ?_;intro gd K hgd hK
   have hg4:∀n σ b,zat gd n σ (some (4,b))=zaj (ev n σ (.tmp 9)) b:=(fun n σ b=>by rw[zad,show gd 4=some 9 from(by rw[hgd];rfl)];rfl);have hg10:∀n σ b,zat gd n σ (some (10,b))=zaj (ev n σ (.tmp 15)) b:=(fun n σ b=>by rw[zad,show gd 10=some 15 from(by rw[hgd];rfl)];rfl);have hg16:∀n σ b,zat gd n σ (some (16,b))=zaj (ev n σ (.tmp 21)) b:=(fun n σ b=>by rw[zad,show gd 16=some 21 from(by rw[hgd];rfl)];rfl)
   try simp (disch:=first|omega|assumption|rfl) only[go_sem,p1,p2,p3,p4,Nat.zero_add,decide_eq_false hA1,decide_eq_false hA2,decide_eq_false hA3,decide_eq_false hA4,zbI,↓hg4,↓hg10,↓hg16]
   refine hK _ _ ?_;clear hK hgd;clear K;try clear gd
   exact⟨rfl,rfl,vq0,rfl,_,vr0,fun _=>⟨by omega,by omega,by omega,by omega⟩⟩
 rintro _ σ1 _ v1 ⟨rfl,rfl,h1,hv1,bb,h26,hbb⟩
 rw[hv1]
 clear hv1 v1
 repeat refine c_r ?_
 refine zaG (t:=bb) ((vq1 h26)) ?_ ?_
 ·intro _
  repeat (first|refine c_r ?_|refine rg0 ?_)
  refine rt0 Tryz.ntmps217 ?_
  exact⟨hE1,false,rfl,fun h=>by cases h⟩
 intro hb
 obtain⟨ln,lu,lt,lr⟩:=hbb hb
 repeat refine c_r ?_
 refine rg0 ?_
 repeat refine c_r ?_
 refine zaA (Q:=fun e σ' ds' v'=>ds'=[]∧Ext w1 v'∧((e= .exit 0∧σ' 1= .pointer (some ⟨w.heap.size,0,Option.none⟩)∧∀n∈d.names,few n=true)∨(e= .ret∧σ' 2= .bool false))) ?_ ?_
 ·refine zar (fun m σ ds A=>ds=[]∧∃(i:Nat),i+m=vals.length∧σ 3=vi i∧σ 1= .pointer (some ⟨w.heap.size,0,Option.none⟩)∧Ext w1 A∧∀j (h:j<d.names.length),j<i→few d.names[j]=true) vals.length ?_ ?_
  ·exact⟨rfl,0,by omega,vr0,(vq1 h1),Keep.refl _ _,fun j h hj=>absurd hj (by omega)⟩
  clear h1
  rintro m σ ds A ⟨rfl,i,him,h3,h1,hEA,hlow⟩
  have q1:=zaa hEA p1
  repeat refine c_r ?_
  refine rg4 h3 h1 q1 Nat.zero_add ?_
  repeat refine c_r ?_
  refine wc0 ?_ ?_
  ·intro hlt
   simp only[decide_eq_true_eq]at hlt
   have hi:i<vals.length:=by omega
   have hi0:(0:Int)≤(i:Int):=by omega
   have hi1:(i:Int)<(vals.length:Int):=by omega
   have hi1':(i:Int)+1=((i+1:Nat):Int):=by push_cast;rfl
   have hgi:=hgn i hi
   obtain⟨xN,rfl⟩:=Option.isSome_iff_exists.1 (zag hgi)
   have hgi':=zaa (hE0.trans (hE1.trans hEA)) hgi
   have hrow:=hvr i hi (by omega)
   obtain⟨n,hn⟩:∃n,d.names[i]'(by omega)=n:=⟨_,rfl⟩
   rw[hn]at hrow
   obtain⟨hv,hhv⟩:∃hv,vals[i]=hv:=⟨_,rfl⟩
   rw[hhv]at hgi' hrow
   repeat refine c_r ?_
   refine rq ?_;intro gd K hgd hK
   try simp (disch:=first|omega|assumption|rfl) only[go_sem,h3,h1,q1,Nat.zero_add,hi0,hi1,hgi']
   refine Fn.mono (zhx A hv n (hrow.ext (hE0.trans (hE1.trans hEA)))) ?_
   rintro _ A2 ⟨rfl,hA2⟩
   try simp only[go_sem]
   refine hK _ _ ?_;clear hK hgd;clear K;try clear gd
   repeat refine c_r ?_
   refine zaG (t:=!few n) (vr0) ?_ ?_
   ·intro _
    repeat refine c_r ?_
    refine rg0 ?_
    repeat refine c_r ?_
    exact⟨rfl,hEA.trans hA2,.inr ⟨rfl,vq0⟩⟩
   ·intro hfn
    repeat refine c_r ?_
    refine rg2 h3 hi1' ?_
    repeat refine c_r ?_
    refine⟨m - 1,by omega,rfl,i+1,by omega,vq0,(vq1 h1),hEA.trans hA2,fun j hj hji=>?_⟩
    by_cases hj2:j=i
    ·subst hj2;rw[hn];simpa using hfn
    ·exact hlow j hj (by omega)
  ·intro hge
   simp only[decide_eq_false_iff_not]at hge
   repeat refine c_r ?_
   refine⟨rfl,hEA,.inl ⟨rfl,(vq1 h1),fun n hn=>?_⟩⟩
   obtain⟨j,hj,rfl⟩:=List.getElem_of_mem hn
   exact hlow j hj (by omega)
 clear h1
 rintro e σ4 _ A ⟨rfl,hEA,⟨rfl,h1,hall⟩| ⟨rfl,h2⟩⟩
 rotate_left
 ·repeat refine c_r ?_
  refine rt1 h2 Tryz.ntmps217 ?_
  exact⟨hE1.trans hEA,false,rfl,fun h=>by cases h⟩
 have q3:=zaa hEA p3
 repeat refine c_r ?_
 refine rg0 ?_
 repeat refine c_r ?_
 refine zaA (Q:=fun e σ' ds' v'=>ds'=[]∧v'=A∧((e= .exit 2∧σ' 1= .pointer (some ⟨w.heap.size,0,Option.none⟩)∧∀l∈d.texts,l.length≤300)∨(e= .ret∧σ' 2= .bool false))) ?_ ?_
 ·refine zar (fun m σ ds B=>ds=[]∧∃(i:Nat),i+m=d.texts.length∧σ 4=vi i∧σ 1= .pointer (some ⟨w.heap.size,0,Option.none⟩)∧B=A∧∀j (h:j<d.texts.length),j<i→d.texts[j].length≤300) d.texts.length ?_ ?_
  ·exact⟨rfl,0,by omega,vr0,(vq1 h1),rfl,fun j h hj=>absurd hj (by omega)⟩
  clear h1
  rintro m σ ds B ⟨rfl,i,him,h4,h1,hB2,hlow⟩
  rw[hB2]
  clear hB2 B
  repeat refine c_r ?_
  refine rg4 h4 h1 q3 Nat.zero_add ?_
  repeat refine c_r ?_
  refine wc0 ?_ ?_
  ·intro hlt
   simp only[decide_eq_true_eq]at hlt
   have hi:i<d.texts.length:=by omega
   have hi0:(0:Int)≤(i:Int):=by omega
   have hi1:(i:Int)<(d.texts.length:Int):=by omega
   have hi1':(i:Int)+1=((i+1:Nat):Int):=by push_cast;rfl
   have hgi:=hgt i hi
   obtain⟨xT,rfl⟩:=Option.isSome_iff_exists.1 (zag hgi)
   have hgi':=zaa (hE0.trans (hE1.trans hEA)) hgi
   rw[List.getElem_map]at hgi'
   repeat refine c_r ?_
   refine rg7 h4 h1 q3 Nat.zero_add hi0 hi1 hgi' ?_
   repeat refine c_r ?_
   refine wc0 ?_ ?_
   ·intro hgt2
    repeat refine c_r ?_
    refine rg0 ?_
    repeat refine c_r ?_
    exact⟨rfl,rfl,.inr ⟨rfl,vq0⟩⟩
   ·intro hgt2
    simp only[decide_eq_false_iff_not]at hgt2
    repeat refine c_r ?_
    refine rg2 h4 hi1' ?_
    repeat refine c_r ?_
    refine⟨m - 1,by omega,rfl,i+1,by omega,vq0,(vq1 h1),rfl,fun j hj hji=>?_⟩
    by_cases hj2:j=i
    ·subst hj2;omega
    ·exact hlow j hj (by omega)
  ·intro hge
   simp only[decide_eq_false_iff_not]at hge
   repeat refine c_r ?_
   refine⟨rfl,rfl,.inl ⟨rfl,(vq1 h1),fun l hl=>?_⟩⟩
   obtain⟨j,hj,rfl⟩:=List.getElem_of_mem hl
   exact hlow j hj (by omega)
 clear h1
 rintro e σ6 _ v1 ⟨rfl,hv1,⟨rfl,h1,htl⟩| ⟨rfl,h2⟩⟩
 rotate_left
 ·rw[hv1]
  repeat refine c_r ?_
  refine rt1 h2 Tryz.ntmps217 ?_
  exact⟨hE1.trans hEA,false,rfl,fun h=>by cases h⟩
 rw[hv1]
 clear hv1 v1
 repeat (first|refine c_r ?_|refine rg0 ?_)
 refine rt0 Tryz.ntmps217 ?_
 exact⟨hE1.trans hEA,true,rfl,fun _=>⟨fun n hn=>few_f (hall n hn),by omega,by omega,by omega,fun l hl=>by have:=htl l hl;omega,by omega,by omega⟩⟩
theorem RsFew_ok{w0 w:World}(hE0:Ext w0 w){lv:Value}{R:List RecL}(hl:Rows 7 (RecAt w0) w lv R):
  Fn Tryz.prog 162 #[lv] w (fun v w'=>Ext w w'∧∃b:Bool,v= .bool b∧(b=true→R.length≤60∧∀r∈R,few r.owner=true∧DatF r.dat)):=by
 obtain⟨aR,cR,rfl,hcR,hgR⟩:=hl.open
 refine enter Tryz.func162 Tryz.ntmps162 rfl rfl ?_
 repeat refine c_r ?_
 refine rg0 ?_
 repeat refine c_r ?_
 refine rg0 ?_
 repeat refine c_r ?_
 refine wc0 ?_ ?_
 ·intro _
  repeat (first|refine c_r ?_|refine rg0 ?_)
  refine rt0 Tryz.ntmps162 ?_
  exact⟨Keep.refl _ _,false,rfl,fun h=>by cases h⟩
 intro h60
 simp only[decide_eq_false_iff_not]at h60
 repeat refine c_r ?_
 refine rg0 ?_
 repeat refine c_r ?_
 refine zar (fun m σ ds A=>ds=[]∧∃(i:Nat),i+m=R.length∧σ 3=vi i∧σ 0= .slice aR R.length cR∧Ext w A∧∀j (h:j<R.length),j<i→few R[j].owner=true∧DatF R[j].dat) R.length ?_ ?_
 ·exact⟨rfl,0,by omega,vr0,vq0,Keep.refl _ _,fun j h hj=>absurd hj (by omega)⟩
 rintro m σ ds A ⟨rfl,i,him,h3,h0,hEA,hlow⟩
 repeat refine c_r ?_
 refine rg2 h3 h0 ?_
 repeat refine c_r ?_
 refine wc0 ?_ ?_
 ·intro hlt
  simp only[decide_eq_true_eq]at hlt
  have hi:i<R.length:=by omega
  have hi0:(0:Int)≤(i:Int):=by omega
  have hi1:(i:Int)<(R.length:Int):=by omega
  have hi1':(i:Int)+1=((i+1:Nat):Int):=by push_cast;rfl
  obtain⟨cr,hcr,hRr⟩:=hgR i hi
  obtain⟨r,hr⟩:∃r,R[i]=r:=⟨_,rfl⟩
  rw[hr]at hRr
  obtain⟨ow,dsc,hcrE,o1,o2,g0,g1,g2,gd⟩:=hRr.cells
  obtain⟨xR,rfl⟩:=Option.isSome_iff_exists.1 (zao hcr)
  obtain⟨xi,hxi⟩:∃xi,adr (some xR) (i*7)=some xi:=⟨_,rfl⟩
  rw[hxi]at hcr
  obtain⟨xd,hxd⟩:∃xd,adr (some xi) 2=some xd:=⟨_,rfl⟩
  have rc:∀{x},Ext w x→zae x (some xi)=some ow∧zal x (some xd) 5=some dsc:=fun {x} hx=>by
   have hcx:=zac hx hcr
   have e0:=zax hcx g0
   have e5:=za5 (m:=2) (k:=5) hcx
   rw[zaz]at e0
   rw[hxd,gd]at e5
   exact⟨e0,e5⟩
  obtain⟨c0,_⟩:=rc hEA
  have hwA:=hE0.trans hEA
  repeat refine c_r ?_
  refine zaA (Q:=fun e σ' ds' v'=>e= .normal∧ds'=[]∧σ' 3=vi i∧σ' 0= .slice (some xR) R.length cR∧Ext A v'∧∃bb,σ' 28= .bool bb∧(bb=false→few r.owner=true∧DatF r.dat)) ?_ ?_
  ·cases hf:few r.owner with
   |false=>
    refine rq ?_;intro gd K hgd hK
    have hg7:∀n σ b,zat gd n σ (some (7,b))=zaj (ev n σ (.tmp 20)) b:=(fun n σ b=>by rw[zad,show gd 7=some 20 from(by rw[hgd];rfl)];rfl)
    try simp (disch:=first|omega|assumption|rfl) only[go_sem,h0,h3,hi0,hi1,hxi,c0,zaz]
    refine Fn.mono (zhx A ow r.owner (o1.ext hwA)) ?_
    rintro _ A2 ⟨rfl,hA2⟩
    rw[hf]
    try simp (disch:=first|omega|assumption|rfl) only[go_sem,Bool.not_false,↓hg7]
    refine hK _ _ ?_;clear hK hgd;clear K;try clear gd
    exact⟨rfl,rfl,(vq1 h3),(vq1 h0),hA2,_,vr0,fun h=>by cases h⟩
   |true=>
    refine rq ?_;intro gd K hgd hK
    have hg7:∀n σ b,zat gd n σ (some (7,b))=zaj (ev n σ (.tmp 20)) b:=(fun n σ b=>by rw[zad,show gd 7=some 20 from(by rw[hgd];rfl)];rfl)
    try simp (disch:=first|omega|assumption|rfl) only[go_sem,h0,h3,hi0,hi1,hxi,c0,zaz]
    refine Fn.mono (zhx A ow r.owner (o1.ext hwA)) ?_
    rintro _ A2 ⟨rfl,hA2⟩
    rw[hf]
    obtain⟨_,c5⟩:=rc (hEA.trans hA2)
    try simp (disch:=first|omega|assumption|rfl) only[go_sem,h0,h3,hi0,hi1,hxi,hxd,c5,Bool.not_true,↓hg7]
    refine Fn.mono (DFew_ok (hwA.trans hA2) o2) ?_
    rintro _ A3 ⟨hA3,b,rfl,hb⟩
    try simp (disch:=first|omega|assumption|rfl) only[go_sem,↓hg7]
    refine hK _ _ ?_;clear hK hgd;clear K;try clear gd
    exact⟨rfl,rfl,(vq1 h3),(vq1 h0),hA2.trans hA3,_,vr0,fun h=>⟨rfl,hb (by simpa using h)⟩⟩
  clear h3 h0
  rintro _ σ1 _ A1 ⟨rfl,rfl,h3,h0,hA1,bb,h28,hbb⟩
  repeat refine c_r ?_
  refine zaG (t:=bb) ((vq1 h28)) ?_ ?_
  ·intro _
   repeat (first|refine c_r ?_|refine rg0 ?_)
   refine rt0 Tryz.ntmps162 ?_
   exact⟨hEA.trans hA1,false,rfl,fun h=>by cases h⟩
  ·intro ht
   repeat refine c_r ?_
   refine rg2 h3 hi1' ?_
   repeat refine c_r ?_
   refine⟨m - 1,by omega,rfl,i+1,by omega,vq0,(vq1 h0),hEA.trans hA1,fun j hj hji=>?_⟩
   by_cases hj2:j=i
   ·subst hj2;rw[hr];exact hbb ht
   ·exact hlow j hj (by omega)
 ·intro hge
  simp only[decide_eq_false_iff_not]at hge
  repeat (first|refine c_r ?_|refine rg0 ?_)
  refine rt0 Tryz.ntmps162 ?_
  refine⟨hEA,true,rfl,fun _=>⟨by omega,fun r hr=>?_⟩⟩
  obtain⟨j,hj,rfl⟩:=List.getElem_of_mem hr
  exact hlow j hj (by omega)
structure zem(R:List RecL):Prop where
 len:R.length≤60
 few:∀r∈R,few r.owner=true∧DatF r.dat
 own:∀r∈R,zaE r.owner=0
 names:∀r∈R,∀n∈r.dat.names,zaE n=0
 lead:∀r∈R,zf6 r.dat.ty→r.dat.names.length=1
theorem zlg{w0 w:World}(hE0:Ext w0 w){lv:Value}{R:List RecL}(hl:Rows 7 (RecAt w0) w lv R):
  Fn Tryz.prog 113 #[lv] w (fun v w'=>Ext w w'∧∃b:Bool,v= .bool b∧(b=true→zem R)):=by
 obtain⟨aR,cR,rfl,hcR,hgR⟩:=hl.open
 refine enter Tryz.func113 Tryz.ntmps113 rfl rfl ?_
 repeat refine c_r ?_
 refine rg0 ?_
 repeat refine c_r ?_
 refine rq ?_;intro gd K hgd hK
 try simp only[go_sem]
 refine Fn.mono (RsFew_ok hE0 hl) ?_
 rintro _ w1 ⟨hE1,b,rfl,hb⟩
 try simp only[go_sem]
 refine hK _ _ ?_;clear hK hgd;clear K;try clear gd
 repeat refine c_r ?_
 refine zaG (t:=!b) (vr0) ?_ ?_
 ·intro _
  repeat (first|refine c_r ?_|refine rg0 ?_)
  refine rt0 Tryz.ntmps113 ?_
  exact⟨hE1,false,rfl,fun h=>by cases h⟩
 intro hb2
 obtain⟨hRl,hRf⟩:=hb (by simpa using hb2)
 repeat refine c_r ?_
 refine rg0 ?_
 repeat refine c_r ?_
 refine zar (fun m σ ds A=>ds=[]∧∃(i:Nat),i+m=R.length∧σ 3=vi i∧σ 0= .slice aR R.length cR∧Ext w A∧∀j (h:j<R.length),j<i→zaE R[j].owner=0∧(∀n∈R[j].dat.names,zaE n=0)∧(zf6 R[j].dat.ty→R[j].dat.names.length=1)) R.length ?_ ?_
 ·exact⟨rfl,0,by omega,vr0,vq0,hE1,fun j h hj=>absurd hj (by omega)⟩
 rintro m σ ds A ⟨rfl,i,him,h3,h0,hEA,hlow⟩
 repeat refine c_r ?_
 refine rg2 h3 h0 ?_
 repeat refine c_r ?_
 refine wc0 ?_ ?_
 ·intro hlt
  simp only[decide_eq_true_eq]at hlt
  have hi:i<R.length:=by omega
  have hi0:(0:Int)≤(i:Int):=by omega
  have hi1:(i:Int)<(R.length:Int):=by omega
  have hi1':(i:Int)+1=((i+1:Nat):Int):=by push_cast;rfl
  obtain⟨cr,hcr,hRr⟩:=hgR i hi
  obtain⟨r,hr⟩:∃r,R[i]=r:=⟨_,rfl⟩
  rw[hr]at hRr
  obtain⟨f1,f2⟩:=hRf r (hr▸List.getElem_mem hi)
  obtain⟨xR,rfl⟩:=Option.isSome_iff_exists.1 (zao hcr)
  obtain⟨xi,hxi⟩:∃xi,adr (some xR) (i*7)=some xi:=⟨_,rfl⟩
  rw[hxi]at hcr
  have hcA:=zac hEA hcr
  have hwA:=hE0.trans hEA
  repeat refine c_r ?_
  refine rq ?_;intro gd K hgd hK
  try simp (disch:=first|omega|assumption|rfl) only[go_sem,h0,h3,hi0,hi1,hxi,hcA]
  refine Fn.mono (zlj hwA hRr f2.nn) ?_
  rintro _ A2 ⟨hA2,cs',nm',rfl,hx⟩
  try simp only[go_sem]
  refine Fn.mono (zhr (Keep.refl _ A2) (hx.at (hwA.trans hA2)) f2 (few_f f1)) ?_
  rintro _ A3 ⟨hA3,e,rfl,he⟩
  try simp only[go_sem]
  refine hK _ _ ?_;clear hK hgd;clear K;try clear gd
  repeat refine c_r ?_
  by_cases h0e:e=0
  ·refine zaG (t:=!decide (e=0)) (vr0) (fun h=>by rw[decide_eq_true h0e]at h;cases h) ?_
   intro _
   repeat refine c_r ?_
   refine rg2 h3 hi1' ?_
   repeat refine c_r ?_
   refine⟨m - 1,by omega,rfl,i+1,by omega,vq0,(vq1 h0),hEA.trans (hA2.trans hA3),fun j hj hji=>?_⟩
   by_cases hj2:j=i
   ·subst hj2;rw[hr];exact he h0e
   ·exact hlow j hj (by omega)
  ·refine zaG (t:=!decide (e=0)) (vr0) ?_ (fun h=>by rw[decide_eq_false h0e]at h;cases h)
   intro _
   repeat (first|refine c_r ?_|refine rg0 ?_)
   refine rt0 Tryz.ntmps113 ?_
   exact⟨hEA.trans (hA2.trans hA3),false,rfl,fun h=>by cases h⟩
 ·intro hge
  simp only[decide_eq_false_iff_not]at hge
  repeat (first|refine c_r ?_|refine rg0 ?_)
  refine rt0 Tryz.ntmps113 ?_
  have hall:∀r∈R,zaE r.owner=0∧(∀n∈r.dat.names,zaE n=0)∧(zf6 r.dat.ty→r.dat.names.length=1):=fun r hr=>by
   obtain⟨j,hj,rfl⟩:=List.getElem_of_mem hr
   exact hlow j hj (by omega)
  exact⟨hEA,true,rfl,fun _=>⟨hRl,hRf,fun r hr=>(hall r hr).1,fun r hr=>(hall r hr).2.1,fun r hr=>(hall r hr).2.2⟩⟩
theorem ZGood_ok{w0 w:World}(hE0:Ext w0 w){ov lv:Value}{o:Nm}{R:List RecL}(ho:Row w ov (o.map vs))(hl:Rows 7 (RecAt w0) w lv R):
  Fn Tryz.prog 62 #[ov,lv] w (fun v w'=>Ext w w'∧∃b:Bool,v= .bool b∧(b=true→zbi o=true∧zem R)):=by
 refine enter Tryz.func62 Tryz.ntmps62 rfl rfl ?_
 repeat refine c_r ?_
 refine rg0 ?_
 repeat refine c_r ?_
 cases hg:zbi o with
 |false=>
  refine rq ?_;intro gd K hgd hK
  have hg2:∀n σ b,zat gd n σ (some (2,b))=zaj (ev n σ (.tmp 7)) b:=(fun n σ b=>by rw[zad,show gd 2=some 7 from(by rw[hgd];rfl)];rfl)
  try simp only[go_sem]
  refine Fn.mono (zgr w ov o ho) ?_
  rintro _ w1 ⟨rfl,hE1⟩
  rw[hg]
  try simp (disch:=first|omega|assumption|rfl) only[go_sem,↓hg2]
  refine hK _ _ ?_;clear hK hgd;clear K;try clear gd
  repeat refine c_r ?_
  refine rt0 Tryz.ntmps62 ?_
  exact⟨hE1,false,rfl,fun h=>by cases h⟩
 |true=>
  refine rq ?_;intro gd K hgd hK
  have hg2:∀n σ b,zat gd n σ (some (2,b))=zaj (ev n σ (.tmp 7)) b:=(fun n σ b=>by rw[zad,show gd 2=some 7 from(by rw[hgd];rfl)];rfl)
  try simp only[go_sem]
  refine Fn.mono (zgr w ov o ho) ?_
  rintro _ w1 ⟨rfl,hE1⟩
  rw[hg]
  try simp (disch:=first|omega|assumption|rfl) only[go_sem,↓hg2]
  refine Fn.mono (zlg (hE0.trans hE1) (hl.ext hE1)) ?_
  rintro _ w2 ⟨hE2,b,rfl,hb⟩
  try simp (disch:=first|omega|assumption|rfl) only[go_sem,↓hg2]
  refine hK _ _ ?_;clear hK hgd;clear K;try clear gd
  repeat refine c_r ?_
  refine rt0 Tryz.ntmps62 ?_
  exact⟨hE1.trans hE2,b,rfl,fun h=>⟨rfl,hb h⟩⟩
structure zli(r:ResL):Prop where
 nm:NmS r.name
 dat:∀d∈r.data,DatOk d
 dl:r.data.length≤1000000000
 gl:r.glue.length≤1000000000
 g:∀x∈r.glue,NmS x.1∧(∀d∈x.2,DatOk d)∧x.2.length≤1000000000
theorem DatX.cells{w0 A:World}{B:Nat}{nm:Value}{cs:List Value}{d:DatL}(h:DatX w0 B A nm cs d):cs.length=5∧∀q∈cs,one q=true:=by
 obtain⟨b1,m1,e1,b2,m2,e2,b3,m3,e3,b4,m4,e4,hds⟩:=h.open
 rw[hds]
 refine⟨rfl,fun q hq=>?_⟩
 simp at hq
 rcases hq with rfl|rfl|rfl|rfl|rfl<;>rfl
def NumR(R:List RecL):Prop:=∀r∈R,∀n∈r.dat.nums,0≤n∧n≤4294967295
theorem zhj{n:Nm}(h:zaE n=0):LB n:=fun l hl=>by have:=(zbc h l hl).2;omega
theorem good_dat{R:List RecL}(h:zem R)(hv:NumR R):∀r∈R,DatOk r.dat:=fun r hr=>by
 have hf:=(h.few r hr).2
 exact⟨fun n hn=>⟨zhj (h.names r hr n hn),by have:=(hf.names n hn).2;omega⟩,by have:=hf.nn;omega,by have:=hf.nu;omega,by have:=hf.nt;omega,hv r hr,by have:=hf.nr;omega⟩
theorem zgb{R:List RecL}(h:zem R)(hv:NumR R):∀r∈R,zbm r:=fun r hr=>
 ⟨zhj (h.own r hr),by have:=zfL (h.own r hr);omega,good_dat h hv r hr⟩
structure GoodC(R:List RecL):Prop where
 ok:∀r∈R,zbm r
 srt:zjA R
 gd:zea R
 ld:LeadR R
 len:R.length≤60
 nn:∀r∈R,r.dat.names.length≤1000000000
theorem zjh{R:List RecL}(h:zem R)(hv:NumR R):GoodC (zaZ R):=by
 refine⟨zbG (fun a b h=>⟨h.lb,h.len,h.dat⟩) (zgb h hv),zgi R,?_,?_,Nat.le_trans (zc7 R) h.len,?_⟩
 ·exact zbG (Q:=fun r=>∀n∈r.dat.names,NmG n) (fun a b h=>h) (fun r hr n hn=>zeC (h.names r hr n hn))
 ·refine zbG (Q:=fun r=>(r.dat.ty=2∨r.dat.ty=5∨r.dat.ty=39)→r.dat.names≠ []) (fun a b h=>h) (fun r hr ht hn=>?_)
  have:=h.lead r hr ht
  rw[hn]at this
  cases this
 ·exact zbG (Q:=fun r=>r.dat.names.length≤1000000000) (fun a b h=>h) (fun r hr=>(h.few r hr).2.nn)
theorem zkI{w0 w:World}{ov lv:Value}{o:Nm}{R:List RecL}(h:GoodC R)(hE:Ext w0 w)(ho:Row w ov (o.map vs))(hl:Rows 7 (RecAt w0) w lv R)(hg:zbi o=true):ZnAt w0 w ov lv o R:=
 ⟨hE,ho,hl,(zbZ hg).m.s.lb,(zbZ hg).m.s.len,h.ok,by have:=h.len;omega⟩
structure ResF(P:DatL→Prop)(m:Nat)(r:ResL):Prop where
 nm:NmS r.name
 dat:∀d∈r.data,P d
 dl:r.data.length≤m
 gl:r.glue.length≤m
 g:∀x∈r.glue,NmS x.1∧(∀d∈x.2,P d)∧x.2.length≤m+m
theorem zbC{P:DatL→Prop}{m:Nat}{k:Int}{ds:List DatL}{n:Nm}{b:Bool}(hn:NmS n)(hd:∀d∈ds,P d)(hl:ds.length≤m):ResF P m ⟨k,ds,n,b,[]⟩:=
 ⟨hn,hd,hl,Nat.zero_le _,fun x h=>by cases h⟩
theorem zjc:NmS []:=⟨fun l h=>(by cases h),Nat.zero_le _⟩
section
variable {P : DatL → Prop} {R : List RecL} {o : Nm}
theorem zhe(hP:∀r∈R,P r.dat){n:Nm}{t:Int}:∀d∈datC R n t,P d:=fun d hd=>by
 obtain⟨r,hr,rfl⟩:=zeA hd
 exact hP r hr
theorem refer_F(hP:∀r∈R,P r.dat)(hG:zea R){n:Nm}(hn:NmS n):ResF P R.length (zeP R n):=by
 refine⟨hn,zhe hP,zb9,?_,fun x hx=>?_⟩
 ·exact Nat.le_trans (zfz _ _) (Nat.le_trans (zc3 _ _) (Nat.le_trans (zeI _ _) zb9))
 ·obtain⟨h,hh,he⟩:=List.mem_filterMap.1 hx
  split at he
  ·cases he
  ·cases he
   refine⟨(zbJ hG (n:=n) (t:=2) (fun d hd=>hd) h (zbR _ _ h hh)).m.s,fun d hd=>?_,?_⟩
   ·unfold zct at hd
    rcases List.mem_append.1 hd with hd|hd
    ·exact zhe hP d hd
    ·exact zhe hP d hd
   ·have h1:=zb9 (R:=R) (n:=h) (t:=1)
    have h2:=zb9 (R:=R) (n:=h) (t:=28)
    show(zct R h).length≤_
    unfold zct
    rw[List.length_append];omega
theorem zif(hP:∀r∈R,P r.dat){n:Nm}{t:Int}:(∀d∈(datC R n t).take 1,P d)∧((datC R n t).take 1).length≤R.length:=
 ⟨fun d hd=>zhe hP d (List.mem_of_mem_take hd),by have:=zb9 (R:=R) (n:=n) (t:=t);rw[List.length_take];omega⟩
theorem zj5(hP:∀r∈R,P r.dat)(hG:zea R){q n:Nm}(hq:NmM q){r:ResL}(h:zaN R q n=some r):ResF P R.length r:=by
 unfold zaN at h
 split at h
 ·cases h
 ·split at h
  ·cases h
   have hm:=swap_m hq (toN_m hG (n:=n) (t:=39) (u:=39)) (f:=n)
   exact zbC ⟨fun l hl=>by have:=hm.1 l hl;omega,by have:=hm.2;omega⟩ (zif hP).1 (zif hP).2
  ·cases h
   exact zbC zjc (fun d h=>by cases h) (Nat.zero_le _)
theorem at_F(hP:∀r∈R,P r.dat)(hG:zea R){n:Nm}{t:Int}{b:Bool}:ResF P R.length (atL R n t b):=by
 unfold atL
 split
 ·exact zbC zjc (zhe hP) zb9
 ·split
  ·exact zbC (toN_m hG).s (zif hP).1 (zif hP).2
  ·exact zbC zjc (fun d h=>by cases h) (Nat.zero_le _)
theorem go_F(hP:∀r∈R,P r.dat)(hG:zea R){q:Nm}(hq:NmM q):∀{l:List Nm} {r:ResL},(∀n∈l,NmS n)→goL o R q l=some r→ResF P R.length r
 | [],r,_,h=>by cases h
 |n::l,r,hl,h=>by
  simp only[goL]at h
  split at h
  ·cases h
   exact refer_F hP hG (hl n (List.mem_cons_self ..))
  ·split at h
   ·cases h
   ·split at h
    ·rename_i r' hr
     cases h
     exact zj5 hP hG hq hr
    ·exact go_F hP hG hq (fun x hx=>hl x (List.mem_cons_of_mem _ hx)) h
theorem look_F(hP:∀r∈R,P r.dat)(hG:zea R){q:Nm}{t:Int}(hq:NmM q):ResF P R.length (zbp o R q t):=by
 unfold zbp
 split
 ·exact zbC zjc (fun d h=>by cases h) (Nat.zero_le _)
 ·split
  ·rename_i r hr
   refine go_F hP hG hq (fun n hn=>?_) hr
   unfold zbq at hn
   split at hn
   ·obtain⟨i,_,rfl⟩:=zbu.1 hn
    exact(hq.drop i).s
   ·cases hn
  ·split
   ·exact at_F hP hG
   ·split
    ·exact at_F hP hG
    ·exact zbC zjc (fun d h=>by cases h) (Nat.zero_le _)
end
theorem look_ok{R:List RecL}(h:GoodC R){o q:Nm}{t:Int}(hq:NmM q):zli (zbp o R q t):=by
 have h1:=look_F (o:=o) (P:=DatOk) (fun r hr=>(h.ok r hr).dat) h.gd (t:=t) hq
 have hl:=h.len
 exact⟨h1.nm,h1.dat,by have:=h1.dl;omega,by have:=h1.gl;omega,fun x hx=>by
  obtain⟨a,b,c⟩:=h1.g x hx
  exact⟨a,b,by omega⟩⟩
structure zb5 where
 o:Nm
 recs:List RecL
structure zdV where
 name:Nm
 addr:List UInt8
 zones:List zb5
structure NetL where
 hosts:List zdV
 roots:List Int
 rw:Int
 rf:Int
structure ZoneC(w:World)(cs:List Value)(z:zb5):Prop where
 ex:∃ov lv,cs=[ov,lv]∧Row w ov (z.o.map vs)∧Rows 7 (RecAt w) w lv z.recs
structure HostC(w:World)(cs:List Value)(h:zdV):Prop where
 ex:∃nv a b c d zv,cs=[nv,zaf a,zaf b,zaf c,zaf d,zv]∧h.addr=[a,b,c,d]∧Row w nv (h.name.map vs)∧Rows 2 (ZoneC w) w zv h.zones
structure NetAt(w:World)(cs:List Value)(N:NetL):Prop where
 ex:∃hv rv,cs=[hv,rv,vi N.rw,vi N.rf]∧Rows 6 (HostC w) w hv N.hosts∧Row w rv (N.roots.map vi)
theorem Rows.extC{α:Type}{k:Nat}{C:World→List Value→α→Prop}{w x:World}{v:Value}{l:List α}(hC:∀cs a,C w cs a→C x cs a)(h:Rows k (C w) w v l)(hE:Ext w x):Rows k (C x) x v l:=(h.ext hE).to hC
theorem ZoneC.ext{w x:World}{cs:List Value}{z:zb5}(h:ZoneC w cs z)(hE:Ext w x):ZoneC x cs z:=by
 obtain⟨ov,lv,e,h1,h2⟩:=h.ex
 exact⟨ov,lv,e,h1.ext hE,Rows.extC (fun _ _ h=>RecAt.ext h hE) h2 hE⟩
theorem HostC.ext{w x:World}{cs:List Value}{z:zdV}(h:HostC w cs z)(hE:Ext w x):HostC x cs z:=by
 obtain⟨nv,a,b,c,d,zv,e,ha,h1,h2⟩:=h.ex
 exact⟨nv,a,b,c,d,zv,e,ha,h1.ext hE,Rows.extC (fun _ _ h=>ZoneC.ext h hE) h2 hE⟩
theorem NetAt.ext{w x:World}{cs:List Value}{z:NetL}(h:NetAt w cs z)(hE:Ext w x):NetAt x cs z:=by
 obtain⟨hv,rv,e,h1,h2⟩:=h.ex
 exact⟨hv,rv,e,Rows.extC (fun _ _ h=>HostC.ext h hE) h1 hE,h2.ext hE⟩
structure GoodZ(z:zb5):Prop where
 o:zbi z.o=true
 gd:zem z.recs
 nv:NumR z.recs
 can:zaZ z.recs=z.recs
theorem GoodZ.c{z:zb5}(h:GoodZ z):GoodC z.recs:=h.can▸zjh h.gd h.nv
theorem GoodZ.m{z:zb5}(h:GoodZ z):NmM z.o:=(zbZ h.o).m
theorem GoodZ.zn{w0 w:World}{ov lv:Value}{z:zb5}(h:GoodZ z)(hE:Ext w0 w)(ho:Row w ov (z.o.map vs))(hl:Rows 7 (RecAt w0) w lv z.recs):ZnAt w0 w ov lv z.o z.recs:=zkI h.c hE ho hl h.o
structure NetZ(N:NetL):Prop where
 hl:N.hosts.length≤1000
 nm:∀h∈N.hosts,NmM h.name
 zl:∀h∈N.hosts,h.zones.length≤1000
 z:∀h∈N.hosts,∀z∈h.zones,GoodZ z
 rl:N.roots.length≤1000
def NetL.zones(N:NetL)(s:Int):List zb5:=if s<0 then [] else match N.hosts[s.toNat]? with
 |some h=>h.zones
 |Option.none=>[]
def zaY(q:Nm)(b:Int×Int)(x:Nat×zb5):Int×Int:=if za6 q x.2.o=true∧b.2<(x.2.o.length:Int) then((x.1:Int),(x.2.o.length:Int)) else b
def numZ:Nat→List zb5→List (Nat×zb5)
 |_,[]=>[]
 |i,z::l=>(i,z)::numZ (i+1) l
def bestZ(q:Nm)(l:List zb5):Int×Int:=(numZ 0 l).foldl (zaY q) (0, -1)
def zdg(N:NetL)(s:Int)(q:Nm):Int×Bool:=let b:=bestZ q (N.zones s);(b.1,decide (0≤b.2))
def askN(N:NetL)(s:Int)(q:Nm)(t:Int):ResL:=if (zdg N s q).2=true then match (N.zones s)[(zdg N s q).1.toNat]? with
  |some z=>zbp z.o z.recs q t
  |Option.none=>⟨7,[],[],false,[]⟩
 else⟨7,[],[],false,[]⟩
theorem zbY:∀{l:List zb5} {i:Nat},(numZ i l).length=l.length
 | [],_=>rfl
 |_::l,i=>by simp[numZ,zbY (l:=l)]
theorem zex:∀{l:List zb5} {i j:Nat} (h:j<l.length) (h':j<(numZ i l).length),(numZ i l)[j]=(i+j,l[j])
 | [],_,_,h,_=>absurd h (by simp)
 |_::l,i,0,_,_=>by simp[numZ]
 |_::l,i,j+1,h,h'=>by
  simp only[numZ,List.getElem_cons_succ]
  rw[zex (by simpa using h)]
  exact Prod.ext (by dsimp only;omega) rfl
theorem zk8(q:Nm):∀{l:List (Nat×zb5)} {b:Int×Int} {m:Nat},(∀x∈l,x.1<m)→((0≤b.2→0≤b.1∧b.1<m))→0≤(l.foldl (zaY q) b).2→0≤(l.foldl (zaY q) b).1∧(l.foldl (zaY q) b).1<m
 | [],b,m,_,h,h2=>h h2
 |x::l,b,m,hx,h,h2=>by
  rw[List.foldl_cons]at h2 ⊢
  refine zk8 q (fun y hy=>hx y (List.mem_cons_of_mem _ hy)) (fun h3=>?_) h2
  unfold zaY at h3 ⊢
  split at h3
  ·rename_i hc
   rw[if_pos hc]
   have:=hx x (List.mem_cons_self ..)
   exact⟨by dsimp only;omega,by dsimp only;omega⟩
  ·rename_i hc
   rw[if_neg hc];exact h h3
theorem bestN_in{N:NetL}{s:Int}{q:Nm}(h:(zdg N s q).2=true):0≤(zdg N s q).1∧(zdg N s q).1<((N.zones s).length:Int):=by
 unfold zdg bestZ at*
 simp only[decide_eq_true_eq]at h
 refine zk8 q (fun x hx=>?_) (fun h=>absurd h (by decide)) h
 obtain⟨i,hi,rfl⟩:=List.mem_iff_getElem.1 hx
 rw[zex (by rw[zbY]at hi;exact hi)]
 have:=hi
 rw[zbY]at this
 dsimp only;omega
theorem zdW{N:NetL}(h:NetZ N){s:Int}:(∀z∈N.zones s,GoodZ z)∧(N.zones s).length≤1000:=by
 unfold NetL.zones
 split
 ·exact⟨fun z h=>absurd h (by simp),by simp⟩
 ·cases hh:N.hosts[s.toNat]? with
  |none=>exact⟨fun z h=>absurd h (by simp),by simp⟩
  |some x=>exact⟨h.z x (List.mem_of_getElem? hh),h.zl x (List.mem_of_getElem? hh)⟩
section
variable {A B C D E F G H I : Prop}
theorem an2(a:A)(b:B):A∧B:=⟨a,b⟩
theorem an3(a:A)(b:B)(c:C):A∧B∧C:=⟨a,b,c⟩
theorem an4(a:A)(b:B)(c:C)(d:D):A∧B∧C∧D:=⟨a,b,c,d⟩
theorem an5(a:A)(b:B)(c:C)(d:D)(e:E):A∧B∧C∧D∧E:=⟨a,b,c,d,e⟩
theorem an6(a:A)(b:B)(c:C)(d:D)(e:E)(f:F):A∧B∧C∧D∧E∧F:=⟨a,b,c,d,e,f⟩
theorem an7(a:A)(b:B)(c:C)(d:D)(e:E)(f:F)(g:G):A∧B∧C∧D∧E∧F∧G:=⟨a,b,c,d,e,f,g⟩
theorem an8(a:A)(b:B)(c:C)(d:D)(e:E)(f:F)(g:G)(h:H):A∧B∧C∧D∧E∧F∧G∧H:=⟨a,b,c,d,e,f,g,h⟩
theorem an9(a:A)(b:B)(c:C)(d:D)(e:E)(f:F)(g:G)(h:H)(i:I):A∧B∧C∧D∧E∧F∧G∧H∧I:=⟨a,b,c,d,e,f,g,h,i⟩
end
def gdOk:List (Nat×Nat)→(Nat→Option Tmp)→Prop
 | [],_=>True
 |p::l,gd=>gd p.1=some p.2∧gdOk l gd
theorem zhT{L:List Oper}:∀{gs:List (Nat×Nat)},(gs.all fun p=>dstL L p.1==some p.2)=true→gdOk gs (dstL L)
 | [],_=>trivial
 |p::l,h=>by
  simp only[List.all_cons,Bool.and_eq_true,beq_iff_eq]at h
  exact⟨h.1,zhT h.2⟩
theorem zbd(b:Bool):zaj undef b=false:=nr rfl
def Rest(P:Program)(Q:Post)(ds:List Deferred)(L:List Oper)(F:(Nat→Option Tmp)→(Sto→World→Prop)→Prop):Prop:=
 ∀(gd:Nat→Option Tmp) (K:Sto→World→Prop),gd=dstL L→(∀σ' w',Q .normal σ' ds w'→K σ' w')→F gd K
section
variable {P : Program} {r : Option Nat} {n : Nat} {Q : Post} {σ : Sto} {ds : List Deferred} {w : World} {p : Prop} {L : List Oper} {F : (Nat → Option Tmp) → (Sto → World → Prop) → Prop}
theorem wt{c:Operand}{x y:Code}(h:p)(ht:W P r n x Q σ ds w)(hc:p→ev n σ c= .bool true:=by intro h1;first| (simp only[go_sem,h1];done)| (simp only[go_sem,h1];rfl)):W P r n (.cond c x y) Q σ ds w:=zaG (hc h) (fun _=>ht) (fun h=>by cases h)
theorem wf{c:Operand}{x y:Code}(h:p)(ht:W P r n y Q σ ds w)(hc:p→ev n σ c= .bool false:=by intro h1;first| (simp only[go_sem,h1];done)| (simp only[go_sem,h1];rfl)):W P r n (.cond c x y) Q σ ds w:=zaG (hc h) (fun h=>by cases h) (fun _=>ht)
theorem ro{id:Nat}{ops:Array Oper}(h:Rest P Q ds ops.toList (fun gd K=>opsV P gd n ops.toList σ w K))(hd:zaU ops=true:=by rfl):W P r n (.region id ops false) Q σ ds w:=zcG hd fun gd K hgd hK=>h gd K hgd hK
theorem rd{f:FuncId}{args:Array Value}{w1:World}{R:Value→World→Prop}{C:(Nat→Option Tmp)→(Sto→World→Prop)→Value→World→Prop}(h:p)(hF:Fn P f args w1 R)(hr:∀v w',R v w'→Rest P Q ds L (fun gd K=>C gd K v w'))
  (hs:p→∀(gd:Nat→Option Tmp) (K:Sto→World→Prop),F gd K=Fn P f args w1 (fun v w'=>C gd K v w'):=by intro h1 gd K;(simp (disch:=first|omega|assumption|rfl) only[go_sem,h1])<;>exact rfl):Rest P Q ds L F:=
 fun gd K hgd hK=>(hs h gd K).mpr (Fn.mono hF fun v w' hR=>hr v w' hR gd K hgd hK)
theorem rc{id:Nat}{ops:Array Oper}{f:FuncId}{args:Array Value}{w1:World}{R:Value→World→Prop}{C:(Nat→Option Tmp)→(Sto→World→Prop)→Value→World→Prop}(h:p)(hF:Fn P f args w1 R)(hr:∀v w',R v w'→Rest P Q ds ops.toList (fun gd K=>C gd K v w'))
  (hs:p→∀(gd:Nat→Option Tmp) (K:Sto→World→Prop),opsV P gd n ops.toList σ w K=Fn P f args w1 (fun v w'=>C gd K v w'):=by intro h1 gd K;(simp (disch:=first|omega|assumption|rfl) only[go_sem,h1])<;>exact rfl)
  (hd:zaU ops=true:=by rfl):W P r n (.region id ops false) Q σ ds w:=ro (rd h hF hr hs) hd
theorem re{σ1:Sto}{w1:World}(h:p)(hq:Q .normal σ1 ds w1)
  (hs:p→∀(gd:Nat→Option Tmp) (K:Sto→World→Prop),F gd K=K σ1 w1:=by intro h1 gd K;(first| (simp (disch:=first|omega|assumption|rfl) only[go_sem,h1])|skip)<;>exact rfl):Rest P Q ds L F:=
 fun gd K _ hK=>(hs h gd K).mpr (hK _ _ hq)
theorem rdg(gs:List (Nat×Nat)){f:FuncId}{args:Array Value}{w1:World}{R:Value→World→Prop}{C:(Nat→Option Tmp)→(Sto→World→Prop)→Value→World→Prop}(h:p)(hF:Fn P f args w1 R)(hr:∀v w',R v w'→Rest P Q ds L (fun gd K=>C gd K v w'))
  (hs:p→∀(gd:Nat→Option Tmp) (K:Sto→World→Prop),gdOk gs gd→F gd K=Fn P f args w1 (fun v w'=>C gd K v w'):=by intro h1 gd K hg;simp only[gdOk]at hg;(simp (disch:=first|omega|assumption|rfl) only[go_sem,zad,zbQ,zbd,hg,h1])<;>exact rfl)
  (hg:(gs.all fun p=>dstL L p.1==some p.2)=true:=by exact rfl):Rest P Q ds L F:=
 fun gd K hgd hK=>(hs h gd K (hgd▸zhT hg)).mpr (Fn.mono hF fun v w' hR=>hr v w' hR gd K hgd hK)
theorem rcg(gs:List (Nat×Nat)){id:Nat}{ops:Array Oper}{f:FuncId}{args:Array Value}{w1:World}{R:Value→World→Prop}{C:(Nat→Option Tmp)→(Sto→World→Prop)→Value→World→Prop}(h:p)(hF:Fn P f args w1 R)(hr:∀v w',R v w'→Rest P Q ds ops.toList (fun gd K=>C gd K v w'))
  (hs:p→∀(gd:Nat→Option Tmp) (K:Sto→World→Prop),gdOk gs gd→opsV P gd n ops.toList σ w K=Fn P f args w1 (fun v w'=>C gd K v w'):=by intro h1 gd K hg;simp only[gdOk]at hg;(simp (disch:=first|omega|assumption|rfl) only[go_sem,zad,zbQ,zbd,hg,h1])<;>exact rfl)
  (hg:(gs.all fun p=>dstL ops.toList p.1==some p.2)=true:=by exact rfl) (hd:zaU ops=true:=by rfl):W P r n (.region id ops false) Q σ ds w:=ro (rdg gs h hF hr hs hg) hd
theorem reg(gs:List (Nat×Nat)){σ1:Sto}{w1:World}(h:p)(hq:Q .normal σ1 ds w1)
  (hs:p→∀(gd:Nat→Option Tmp) (K:Sto→World→Prop),gdOk gs gd→F gd K=K σ1 w1:=by intro h1 gd K hg;simp only[gdOk]at hg;(first| (simp (disch:=first|omega|assumption|rfl) only[go_sem,zad,zbQ,zbd,hg,h1])|skip)<;>exact rfl)
  (hg:(gs.all fun p=>dstL L p.1==some p.2)=true:=by exact rfl):Rest P Q ds L F:=
 fun gd K hgd hK=>(hs h gd K (hgd▸zhT hg)).mpr (hK _ _ hq)
theorem rgg(gs:List (Nat×Nat)){id:Nat}{ops:Array Oper}{σ1:Sto}{w1:World}(h:p)(hq:Q .normal σ1 ds w1)
  (hs:p→∀(gd:Nat→Option Tmp) (K:Sto→World→Prop),gdOk gs gd→opsV P gd n ops.toList σ w K=K σ1 w1:=by intro h1 gd K hg;simp only[gdOk]at hg;(simp (disch:=first|omega|assumption|rfl) only[go_sem,zad,zbQ,zbd,hg,h1])<;>exact rfl)
  (hg:(gs.all fun p=>dstL ops.toList p.1==some p.2)=true:=by exact rfl) (hd:zaU ops=true:=by rfl):W P r n (.region id ops false) Q σ ds w:=ro (reg gs h hq hs hg) hd
end
section
variable {P : Program} {x : World} {e : TypeId} {K : Value → World → Prop}
theorem zaQ{t:TypeId}{cur:Array Value}{l:List Value}(hl:l.length=cur.size)(h1:∀v∈l,one v=true)(hs:tyS P t=l.length)(hi:(P.info? t).isSome=true)
  (hK:∀w',Ext x w'→w'.heap.size=x.heap.size+1→w'.heap[x.heap.size]? =some (.cells l.toArray e (0,0))→K undef w'):stK P t (.pointer (some ⟨x.heap.size,0,Option.none⟩)) (.agg l.toArray) (x.alloc (.cells cur e (0,0))) K:=by
 have hB3:=zas x (.cells cur e (0,0))
 have hE4:=Ext.alloc x (.cells cur e (0,0))
 have hs4:=zai x (.cells cur e (0,0))
 refine zaK (P:=P) (t:=t) (l:=l) hB3 hl h1 hs hi ?_
 intro w5 hs5 hB5 hk5
 exact hK w5 (Keep.to_ext hE4 rfl (fun b hb=>by omega) hk5) (by omega) hB5
theorem Row.isOne{w:World}{v:Value}{l:List Value}(h:Row w v l):one v=true:=by
 obtain⟨a,c,rfl,_⟩:=h;rfl
theorem Rows.isOne{α:Type}{k:Nat}{C:List Value→α→Prop}{w:World}{v:Value}{l:List α}(h:Rows k C w v l):one v=true:=by
 obtain⟨a,c,rfl,_⟩:=h.open;rfl
theorem zdX{a b:Value}(ha:one a=true)(hb:one b=true):∀v∈ [a,b],one v=true:=fun v h=>by
 simp at h
 rcases h with rfl|rfl<;>assumption
end
def encZ(w0:World)(x:Nat×zb5)(_:World)(args:Array Value):Prop:=∃ov lv,args=#[vi x.1,.agg #[ov,lv]]∧Row w0 ov (x.2.o.map vs)∧Rows 7 (RecAt w0) w0 lv x.2.recs
theorem zcv{n0:Nat}{C:Nat→Prop}{a b:World}(h:Ext a b)(hn:n0≤a.heap.size):KeepB n0 C a b:=Keep.toB h hn (fun _ _ h=>h.elim)
theorem zones_ok(w:World){hv rv:Value}{s a b:Int}:
  Fn Tryz.prog 194 #[.agg #[hv,rv,vi a,vi b],vi s] w (fun v w'=>v= .func (.func 240) #[] #[.pointer (some ⟨w.heap.size+1,0,Option.none⟩),.pointer (some ⟨w.heap.size,0,Option.none⟩)]∧Ext w w'∧w'.heap.size=w.heap.size+2∧
   w'.heap[w.heap.size]? =some (.cells #[hv,rv,vi a,vi b] 25 (0,0))∧w'.heap[w.heap.size+1]? =some (.cells #[vi s] 3 (0,0))):=by
 refine enter Tryz.func194 Tryz.ntmps194 rfl rfl ?_
 repeat refine c_r ?_
 refine rg0 ?_
 repeat refine c_r ?_
 rw[zai]
 refine zaM ?_
 intro w1 hE1 hs1 hA hC
 refine rg0 ?_
 repeat refine c_r ?_
 refine rt0 Tryz.ntmps194 ?_
 exact⟨rfl,hE1,hs1,hA,hC⟩
theorem zonesIt{w0 W0:World}{C:Nat→Prop}{sb nb:Nat}{hv rv:Value}{s:Int}{N:NetL}(hE0:Ext w0 W0)(hbs:W0.heap[sb]? =some (.cells #[vi s] 3 (0,0)))(hbn:W0.heap[nb]? =some (.cells #[hv,rv,vi N.rw,vi N.rf] 25 (0,0)))
  (hh:Rows 6 (HostC w0) w0 hv N.hosts) (hC:∀b,C b→w0.heap.size≤b) (hN:NetZ N):
  Iter Tryz.prog 240 #[.pointer (some ⟨sb,0,Option.none⟩),.pointer (some ⟨nb,0,Option.none⟩)] W0 W0.heap.size C (numZ 0 (N.zones s)) (encZ w0):=by
 intro lp J Jx W hW hnW hJ hJx hY h0
 obtain⟨ah,ch,rfl,hch,hgh⟩:=hh.open
 have hl:=hN.hl
 have ps:zae W (some ⟨sb,0,Option.none⟩)=some (vi s):=zaa hW (zab hbs rfl)
 have pn:zae W (some ⟨nb,0,Option.none⟩)=some (.slice ah N.hosts.length ch):=zaa hW (zab hbn rfl)
 refine enter Tryz.func240 Tryz.ntmps240 rfl rfl ?_
 repeat refine c_r ?_
 by_cases h1:s<0
 ·refine rgg [(2,8)] (an3 ps (decide_eq_true h1) Nat.add_zero) ?_
  repeat refine c_r ?_
  refine wt trivial ?_
  repeat refine c_r ?_
  refine zay (by simp) rfl (.inl ?_)
  unfold NetL.zones
  rw[if_pos h1];exact h0
 by_cases h2:(N.hosts.length:Int)≤s
 ·refine rgg [(2,8)] (an5 ps pn (decide_eq_false h1) (decide_eq_true h2) Nat.add_zero) ?_
  repeat refine c_r ?_
  refine wt trivial ?_
  repeat refine c_r ?_
  refine zay (by simp) rfl (.inl ?_)
  unfold NetL.zones
  rw[if_neg h1,List.getElem?_eq_none (by omega)];exact h0
 refine rgg [(2,8)] (an5 ps pn (decide_eq_false h1) (decide_eq_false h2) Nat.add_zero) ?_
 repeat refine c_r ?_
 refine wf trivial ?_
 obtain⟨i0,rfl⟩:∃i:Nat,s=i:=⟨s.toNat,by omega⟩
 have hi0:i0<N.hosts.length:=by omega
 obtain⟨hcs,hhc,hhC⟩:=hgh i0 hi0
 obtain⟨h,hhe⟩:∃h,N.hosts[i0]=h:=⟨_,rfl⟩
 rw[hhe]at hhC
 obtain⟨nv,b1,b2,b3,b4,zv,rfl,_,hnm,hz⟩:=hhC.ex
 have hzl:N.zones (i0:Int)=h.zones:=by
  unfold NetL.zones
  rw[if_neg h1,Int.toNat_natCast,List.getElem?_eq_getElem hi0,hhe]
 have hzb:h.zones.length≤1000:=hN.zl h (hhe▸List.getElem_mem hi0)
 rw[hzl]at hY ⊢
 obtain⟨az,cz,rfl,hcz,hgz⟩:=hz.open
 obtain⟨xh,rfl⟩:=Option.isSome_iff_exists.1 (zao hhc)
 obtain⟨xi,hxi⟩:∃xi,adr (some xh) (i0*6)=some xi:=⟨_,rfl⟩
 rw[hxi]at hhc
 have pz:zae W (adr (some xi) 5)=some (.slice az h.zones.length cz):=zax (zac (hE0.trans hW) hhc) rfl
 obtain⟨x5,hx5⟩:∃x,adr (some xi) 5=some x:=⟨_,rfl⟩
 rw[hx5]at pz
 have hi0':(0:Int)≤(i0:Int):=by omega
 have hi1':(i0:Int)<(N.hosts.length:Int):=by omega
 repeat refine c_r ?_
 refine rg8 ps pn hi0' hi1' hxi hx5 pz Nat.add_zero ?_
 repeat refine c_r ?_
 obtain⟨L,hL⟩:∃L,numZ 0 h.zones=L:=⟨_,rfl⟩
 have hLl:L.length=h.zones.length:=by rw[←hL,zbY]
 rw[hL]at hY ⊢
 refine zar (fun m σ ds v=>ds=[]∧∃(i:Nat),i+m=L.length∧σ 22=vi i∧σ 21=vi h.zones.length∧σ 20= .slice az h.zones.length cz∧σ 0= .func (.yield lp) #[] #[]∧J (L.take i) v∧KeepB W0.heap.size C W v) L.length ?_ ?_
 ·exact⟨rfl,0,by omega,vr0,vq0,vq0,vq0,h0,KeepB.refl _ _ _⟩
 rintro m σ ds v ⟨rfl,i,him,s22,s21,s20,s0,hj,hKB⟩
 repeat refine c_r ?_
 refine rg2 s22 s21 ?_
 repeat refine c_r ?_
 refine wc0 ?_ ?_
 ·intro hlt
  simp only[decide_eq_true_eq]at hlt
  have hi:i<h.zones.length:=by omega
  have hi0:(0:Int)≤(i:Int):=by omega
  have hi1':(i:Int)+1=((i+1:Nat):Int):=by push_cast;rfl
  obtain⟨cs,hcs,hZ⟩:=hgz i hi
  obtain⟨ov,lv,rfl,ho,hr⟩:=hZ.ex
  obtain⟨xz,rfl⟩:=Option.isSome_iff_exists.1 (zao hcs)
  obtain⟨xi,hxi⟩:∃xi,adr (some xz) (i*2)=some xi:=⟨_,rfl⟩
  rw[hxi]at hcs
  have hEv:Ext w0 v:=zcL (hE0.trans hW) hKB hE0.size hC
  have d:=zac hEv hcs
  have hLi:L[i]'(by omega)=(i,h.zones[i]):=by
   simp only[←hL]
   rw[zex hi];simp
  repeat refine c_r ?_
  refine rq ?_;intro gd K hgd hK
  try simp (disch:=first|omega|assumption|rfl) only[go_sem,s22,s20,hi0,hlt,hxi,d]
  refine zaQ (P:=Tryz.prog) (l:=[ov,lv]) rfl (zdX ho.isOne hr.isOne) rfl rfl ?_
  intro v1 hE1 hs1 hB1
  try simp only[go_sem]
  refine hK _ _ ?_;clear hK hgd;clear K;try clear gd
  have d1:=zah (n:=2) hB1 rfl
  repeat refine c_r ?_
  refine rq ?_;intro gd K hgd hK
  try simp (disch:=first|omega|assumption|rfl) only[go_sem,s0,d1]
  refine Yld.mono (hY (L.take i) (L[i]'(by omega)) (L.drop (i+1)) v1 _ (by rw[←List.drop_eq_getElem_cons,List.take_append_drop]) (hJ _ _ _ hj hE1) (hKB.trans (zcv hE1 (by have:=hKB.size;omega))) ⟨ov,lv,by rw[hLi],by rw[hLi];exact ho,by rw[hLi];exact hr⟩) ?_
  rintro u x (⟨rfl,hj',hk'⟩| ⟨rfl,hjx⟩)
  ·try simp only[go_sem]
   refine hK _ _ ?_;clear hK hgd;clear K;try clear gd
   repeat refine c_r ?_
   refine wc0 ?_ ?_
   ·intro h;simp at h
   ·intro _
    repeat refine c_r ?_
    refine rg2 s22 hi1' ?_
    repeat refine c_r ?_
    exact⟨m - 1,by omega,rfl,i+1,by omega,vq0,(vq1 s21),(vq1 s20),(vq1 s0),by rw[←List.take_append_getElem (by omega)]at*;exact hj',(hKB.trans (zcv hE1 (by have:=hKB.size;omega))).trans hk'⟩
  ·try simp only[go_sem]
   refine hK _ _ ?_;clear hK hgd;clear K;try clear gd
   repeat refine c_r ?_
   refine wc0 ?_ ?_
   ·intro _
    repeat refine c_r ?_
    refine zay (by simp) rfl (.inr ⟨_,_,L.drop (i+1),?_,hjx⟩)
    rw[←List.drop_eq_getElem_cons,List.take_append_drop]
   ·intro h;simp at h
 ·intro hge
  simp only[decide_eq_false_iff_not]at hge
  repeat refine c_r ?_
  refine zay (by simp) rfl (.inl ?_)
  rwa [List.take_of_length_le (by omega)]at hj
theorem ze8{w:World}{a:Addr}:∀(i m k:Nat) {l:List Value},zaL w a i (m+k)=some l→zaL w a i m=some (l.take m)
 |i,0,k,l,h=>by simp[zaL]
 |i,m+1,k,l,h=>by
  rw[show m+1+k=(m+k)+1 from by omega]at h
  unfold zaL at h ⊢
  split at h
  ·rename_i v l' h1 h2
   cases h
   rw[h1,ze8 (i+1) m k h2];rfl
  ·cases h
theorem zcl{w:World}{p:Option Addr}{m k:Nat}{l:List Value}(h:zal w p (m+k)=some l):zal w p m=some (l.take m):=by
 cases p with
 |none=>cases h
 |some a=>exact ze8 0 m k h
section
variable {P : Program} {w : World} {K : Value → World → Prop} {t : TypeId} {p v : Value} {A B : Obj}
theorem zjQ(h:∀z,Ext w z→z.heap.size=w.heap.size+1→z.heap[w.heap.size]? =some A→stK P t p v z K):stK P t p v (w.alloc A) K:=
 h _ (Ext.alloc w A) (zai w A) (World.alloc_heap_new w A)
theorem st_al2(h:∀z,Ext w z→z.heap.size=w.heap.size+2→z.heap[w.heap.size]? =some A→z.heap[w.heap.size+1]? =some B→stK P t p v z K):stK P t p v ((w.alloc A).alloc B) K:=by
 obtain⟨h1,h2,h3,h4⟩:=zcW w A B
 exact h _ h1 h2 h3 h4
end
section
variable {P : Program} {d : Option Tmp} {ty : TypeId} {ps : String} {af : Array Edge} {g : Option (Nat × Bool)} {ρ : Operand → Value} {w : World} {K : Value → World → Prop}
theorem op_slA{t e:TypeId}{x:Operand}{n:Nat}{a:Addr}{m:Lck K (opW P ⟨d,.slice t x Option.none Option.none Option.none,ty,ps,af,g⟩ ρ w K)}(ht:P.underlying t=some (.array n e))(hn:n≠0)(he:(P.info? e).isSome=true)
  (hx:ρ x= .pointer (some a)) (h:K (.slice (some a) n n) w):optL (slD P (some (.array n e)) (.pointer (some a)) Option.none Option.none Option.none) w K (opW P ⟨d,.slice t x Option.none Option.none Option.none,ty,ps,af,g⟩ ρ w K) m:=by
 show opW P _ ρ w K
 obtain⟨inf,hi⟩:=Option.isSome_iff_exists.1 he
 refine zaJ (s:=Instr.sliceAt t (ρ x) Option.none Option.none Option.none) (v:= .slice (some a) n n) (w':=w) ?_ h
 have e1:=zbV (P:=P) (w:=w) (sl:=false) (n:=n) (c:=n) (lo:=Option.none) (hi:=Option.none) (mx:=Option.none) (l:=0) (h:=n) (m:=n) rfl rfl rfl (Nat.zero_le _) (Nat.le_refl _) (Nat.le_refl _) (by simp)
 have ha0:a.add 0=a:=by simp[Addr.add]
 simp[Instr.sliceAt,underlying,program,Sem.run,ht,hx,Instr.sureAddr,e1,sizeOf,typeInfo,hi,hn,ha0]
end
theorem NetAt.one{w:World}{cs:List Value}{N:NetL}(h:NetAt w cs N):cs.length=4∧∀v∈cs,one v=true:=by
 obtain⟨hv,rv,rfl,h1,h2⟩:=h.ex
 refine⟨rfl,fun v hv=>?_⟩
 simp at hv
 rcases hv with rfl|rfl|rfl|rfl
 ·exact h1.isOne
 ·exact h2.isOne
 ·rfl
 ·rfl
theorem zlw{w0 w:World}(hE0:Ext w0 w){cs:List Value}{N:NetL}{s:Int}{q:Nm}{qv:Value}(hN:NetAt w0 cs N)(hG:NetZ N)(hq:Row w qv (q.map vs))(mq:NmM q):
  Fn Tryz.prog 148 #[.agg cs.toArray,vi s,qv] w (fun v w'=>v= .tuple #[vi (zdg N s q).1,.bool (zdg N s q).2]∧Ext w w'):=by
 obtain⟨hv,rv,rfl,hh,hr⟩:=hN.ex
 have e1:=hh.isOne
 have e2:=hr.isOne
 obtain⟨ah,ch,hhv,_⟩:=hh.open
 obtain⟨ar,cr,hrv,_⟩:=id hr
 obtain⟨aq,cq,hqv,_⟩:=id hq
 have ql:=mq.len
 refine enter Tryz.func148 Tryz.ntmps148 rfl rfl ?_
 repeat refine c_r ?_
 rw[hhv,hrv,hqv]
 refine rg0 ?_
 rw[←hhv,←hrv,←hqv]
 repeat refine c_r ?_
 rw[zai]
 refine zaM ?_
 intro w1 hE1 hs1 hA hC
 refine rq ?_;intro gd K hgd hK
 try simp only[go_sem]
 rw[zai]
 refine st_al2 ?_
 intro w2 hE2 hs2 h8 h9
 refine zaR (P:=Tryz.prog) (t:=3) (j:=0) (u:=vi 0) (l:=[vi 0]) h8 (by simp) rfl rfl rfl ?_
 intro w3 hs3 h8' hk3
 try simp only[go_sem]
 refine zaR (P:=Tryz.prog) (t:=3) (j:=0) (u:=vi (-1)) (l:=[vi 0]) ((hk3.block _ (by omega) (by omega)).trans h9) (by simp) rfl rfl rfl ?_
 intro w4 hs4 h9' hk4
 try simp only[go_sem]
 refine hK _ _ ?_;clear hK hgd;clear K;try clear gd
 simp only[List.set_cons_zero]at h8' h9'
 obtain⟨b8,hb8⟩:∃b,w1.heap.size=b:=⟨_,rfl⟩
 rw[hb8]at h8 h8' h9 h9' hk3 hk4 hs2 ⊢
 have hE3:=Keep.to_ext (hE1.trans hE2) rfl (fun b hb=>by omega) hk3
 have hE4:=Keep.to_ext hE3 rfl (fun b hb=>by omega) hk4
 have g8:=(hk4.block _ (by omega) (by omega)).trans h8'
 have gA:=(hk4.block _ (by omega) (by omega)).trans ((hk3.block _ (by omega) (by omega)).trans (Ext.at hE2 hA))
 have gC:=(hk4.block _ (by omega) (by omega)).trans ((hk3.block _ (by omega) (by omega)).trans (Ext.at hE2 hC))
 clear h8 h8' h9 hk3 hk4 hE3 hE2 hE1 hA hC
 have d4:=zah (n:=4) (l:=[hv,rv,vi N.rw,vi N.rf]) gA rfl
 have p5:zae w4 (some ⟨w.heap.size+1,0,Option.none⟩)=some qv:=zab gC rfl
 have hb8w:w.heap.size+2≤b8:=by omega
 repeat refine c_r ?_
 refine rc d4 (zones_ok w4) ?_
 rintro _ w5 ⟨rfl,hE5,hs5,hbn,hbs⟩
 refine re trivial ?_
 repeat refine c_r ?_
 have hE05:=hE0.trans (hE4.trans hE5)
 refine zdu (g:=240) (cap:=#[.pointer (some ⟨w4.heap.size+1,0,Option.none⟩),.pointer (some ⟨w4.heap.size,0,Option.none⟩)]) (vq0) rfl (zonesIt (C:=fun b=>b=b8∨b=b8+1) hE05 hbs hbn hh (fun b hb=>by have:=hE0.size;omega) hG) (Keep.refl _ _) (Nat.le_refl _) (fun b hb=>by omega) (fun x A args h=>by obtain⟨_,_,e,_⟩:=h;rw[e];rfl)
  (fun pre A=>Ext w A∧A.heap[b8]? =some (.cells #[vi (pre.foldl (zaY q) (0, -1)).1] 3 (0,0))∧A.heap[b8+1]? =some (.cells #[vi (pre.foldl (zaY q) (0, -1)).2] 3 (0,0))∧A.heap[w.heap.size+1]? =some (.cells #[qv] 27 (0,0)))
  (fun _ _ _=>False) ?_ (fun _ _ _ _ h _=>h.elim) ?_ ?_ ?_ (fun _ _ _ _ _ _ _ h _=>h.elim)
 ·rintro pre A B ⟨h1,h2,h3,h4⟩ hk
  have f:∀{b:Nat} {O:Obj},A.heap[b]? =some O→b<w5.heap.size→B.heap[b]? =some O:=fun h hb=>(hk.block _ (Array.getElem?_eq_some_iff.1 h).1 (by unfold two;omega)).trans h
  exact⟨Keep.to_ext h1 rfl (fun b hb=>by unfold two at hb;omega) hk,f h2 (by omega),f h3 (by omega),f h4 (by omega)⟩
 ·exact⟨hE4.trans hE5,Ext.at hE5 g8,Ext.at hE5 h9',Ext.at hE5 gC⟩
 ·rintro lp pre y suf A args hxs hszA ⟨hEA,k8,k9,k5⟩ ⟨ov,lv,rfl,ho,hr⟩
  obtain⟨B,hB⟩:∃B,pre.foldl (zaY q) (0, -1)=B:=⟨_,rfl⟩
  have hfo:(pre++ [y]).foldl (zaY q) (0, -1)=zaY q B y:=by rw[List.foldl_append,List.foldl_cons,List.foldl_nil,hB]
  rw[hB]at k8 k9
  have gz:GoodZ y.2:=by
   have hm:y∈numZ 0 (N.zones s):=hxs▸(by simp)
   obtain⟨i,hi,rfl⟩:=List.mem_iff_getElem.1 hm
   have hi':=hi
   rw[zbY]at hi'
   rw[zex hi']
   exact(zdW hG).1 _ (List.getElem_mem hi')
  have mo:=gz.m
  have ol:=mo.len
  repeat (first|refine c_r ?_|refine rg0 ?_)
  refine rq ?_;intro gd K hgd hK
  try simp only[go_sem]
  refine zaQ (P:=Tryz.prog) (l:=[ov,lv]) rfl (zdX ho.isOne hr.isOne) rfl rfl ?_
  intro A1 hE6 hs6 hB6
  try simp only[go_sem]
  refine hK _ _ ?_;clear hK hgd;clear K;try clear gd
  refine zap ?_
  refine⟨rfl,zcv hE6 (by omega),fun Y hY=>?_⟩
  have f:∀{b:Nat} {O:Obj},A1.heap[b]? =some O→¬two w5.heap.size b→Y.heap[b]? =some O:=fun h hb=>(hY.block _ (Array.getElem?_eq_some_iff.1 h).1 hb).trans h
  have y8:=f (Ext.at hE6 k8) (by unfold two;omega)
  have y9:=f (Ext.at hE6 k9) (by unfold two;omega)
  have y5:=f (Ext.at hE6 k5) (by unfold two;omega)
  have y6:=f hB6 (by unfold two;omega)
  have hEY:Ext w Y:=Keep.to_ext (hEA.trans hE6) rfl (fun b hb=>by unfold two at hb;omega) hY
  have hsY:=hY.size
  have q8:zae Y (some ⟨b8,0,Option.none⟩)=some (vi B.1):=zab y8 rfl
  have q9:zae Y (some ⟨b8+1,0,Option.none⟩)=some (vi B.2):=zab y9 rfl
  have q5:zae Y (some ⟨w.heap.size+1,0,Option.none⟩)=some qv:=zab y5 rfl
  have q6:zae Y (some ⟨A.heap.size,0,Option.none⟩)=some ov:=zab y6 rfl
  obtain⟨ao,co,hov,_⟩:=id ho
  have holen:(y.2.o.map vs).length=y.2.o.length:=by simp
  rw[holen]at hov
  clear y5 y6
  repeat refine c_r ?_
  refine rcg [(4,21)] (an3 q5 q6 Nat.add_zero) (zcA Y qv ov q y.2.o (hq.ext hEY) (ho.ext (hE0.trans hEY)) mq.LB mo.LB (by omega) (by omega)) ?_
  rintro _ Z ⟨rfl,hZ⟩
  have z6:=zaa hZ q6
  have z9:=zaa hZ q9
  rw[hov]at z6
  have hEZ:=hEY.trans hZ
  have z8':=Ext.at hZ y8
  have z9':=Ext.at hZ y9
  have z5':=Ext.at hZ (f (Ext.at hE6 k5) (by unfold two;omega))
  have hkZ:KeepB (w5.heap.size+2) (fun b=>b=b8∨b=b8+1) Y Z:=zcv hZ (by omega)
  obtain⟨u,hu⟩:∃u,za6 q y.2.o=u:=⟨_,rfl⟩
  rw[hu]
  have hstay:(u=true∧B.2<(y.2.o.length:Int))∨zaY q B y=B:=by
   by_cases h:u=true∧B.2<(y.2.o.length:Int)
   ·exact .inl h
   ·exact .inr (by unfold zaY;rw[hu,if_neg h])
  cases u with
  |false=>
   have hst:zaY q B y=B:=hstay.resolve_left (fun h=>by cases h.1)
   refine reg [(4,21)] trivial ?_
   repeat refine c_r ?_
   refine wf trivial ?_
   repeat refine c_r ?_
   refine⟨⟨hEZ,?_,?_,z5'⟩,hkZ⟩
   ·rw[hfo,hst];exact z8'
   ·rw[hfo,hst];exact z9'
  |true=>
   refine reg [(4,21)] (an3 z6 z9 Nat.add_zero) ?_
   repeat refine c_r ?_
   by_cases hgt:B.2<(y.2.o.length:Int)
   ·refine wt (decide_eq_true hgt) ?_
    have hst:zaY q B y=((y.1:Int),(y.2.o.length:Int)):=by unfold zaY;rw[hu,if_pos ⟨rfl,hgt⟩]
    repeat refine c_r ?_
    refine zaH (fun i=>i==5) [(0,true),(1,true),(2,true),(3,true),(4,false),(5,false)] ((fun i=>i=b8∨i=b8+1)) mixed (by kernel_rfl) ?_;intro gd K x hgd hx hxe hK;have hx0:=zfp hxe;clear hxe
    have z6x:=zaa hx0 z6
    have hsZ:=hZ.size
    have hsx:=hx0.size
    simp (disch:=first|omega|assumption|rfl) only[go_sem,z6x,Nat.add_zero]
    refine⟨fun a ha hb=>by cases ha;dsimp only at hb;omega,?_⟩
    refine zaR (P:=Tryz.prog) (t:=3) (j:=0) (u:=vi y.1) (l:=[vi B.1]) (Ext.at hx0 z8') (by simp) rfl rfl rfl ?_
    intro Z1 hsZ1 h8' hkZ1
    refine⟨.inr (hkZ1.mono fun i _ h=> .inl h),?_⟩
    simp (disch:=first|omega|assumption|rfl) only[go_sem]
    refine zaR (P:=Tryz.prog) (t:=3) (j:=0) (u:=vi y.2.o.length) (l:=[vi B.2]) ((hkZ1.block _ (by omega) (by omega)).trans (Ext.at hx0 z9')) (by simp) rfl rfl rfl ?_
    intro Z2 hsZ2 h9' hkZ2
    refine⟨.inl rfl,?_⟩
    simp (disch:=first|omega|assumption|rfl) only[go_sem]
    refine hK _ _ ?_;clear hK hgd;clear K;try clear gd
    have z5x:=Ext.at hx0 z5'
    repeat refine c_r ?_
    refine⟨⟨Keep.to_ext (Keep.to_ext (hEZ.trans hx0) rfl (fun b hb=>by omega) hkZ1) rfl (fun b hb=>by omega) hkZ2,?_,?_,?_⟩,(hkZ.trans (zcv hx0 (by omega))).trans ((hkZ1.toB (by omega) (fun i _ h=> .inl h)).trans (hkZ2.toB (by omega) (fun i _ h=> .inr h)))⟩
    ·rw[hfo,hst];exact(hkZ2.block _ (by omega) (by omega)).trans h8'
    ·rw[hfo,hst];exact h9'
    ·exact(hkZ2.block _ (by omega) (by omega)).trans ((hkZ1.block _ (by omega) (by omega)).trans z5x)
   ·refine wf (decide_eq_false hgt) ?_
    have hst:zaY q B y=B:=hstay.resolve_left (fun h=>hgt h.2)
    repeat refine c_r ?_
    refine⟨⟨hEZ,?_,?_,z5'⟩,hkZ⟩
    ·rw[hfo,hst];exact z8'
    ·rw[hfo,hst];exact z9'
 ·intro A hszA ⟨hEA,k8,k9,_⟩ hD
  have q8:zae A (some ⟨b8,0,Option.none⟩)=some (vi (bestZ q (N.zones s)).1):=zab k8 rfl
  have q9:zae A (some ⟨b8+1,0,Option.none⟩)=some (vi (bestZ q (N.zones s)).2):=zab k9 rfl
  repeat refine c_r ?_
  refine zaH (fun _=>false) [(0,true),(1,true),(2,true),(3,true),(4,true)] NoS mixed (by kernel_rfl) ?_;intro gd K x hgd hx hxe hK;clear hxe
  have q8x:=zaa hx q8
  have q9x:=zaa hx q9
  simp (disch:=first|omega|assumption|rfl) only[go_sem,q8x,q9x]
  refine hK _ _ ?_;clear hK hgd;clear K;try clear gd
  repeat refine c_r ?_
  refine zj4 (v:=vi (zdg N s q).1) (v':= .bool (zdg N s q).2) (.inr rfl) (by rfl) Tryz.ntmps148 (vr0) (vr0) (Ext.at hx hD) ?_
  intro Z hkZ hsZ
  exact⟨rfl,Keep.to_ext (hEA.trans hx) rfl (fun b hb=>by omega) hkZ⟩
theorem zle{w0 w:World}(hE0:Ext w0 w){cs:List Value}{N:NetL}{s:Int}{q:Nm}{qv:Value}(hN:NetAt w0 cs N)(hG:NetZ N)(hq:Row w qv (q.map vs))(mq:NmM q):
  Fn Tryz.prog 150 #[.agg cs.toArray,vi s,qv] w (fun v w'=>v= .bool (zdg N s q).2∧Ext w w'):=by
 have hN0:=hN
 obtain⟨hv,rv,rfl,hh,hr⟩:=hN.ex
 obtain⟨ah,ch,hhv,_⟩:=hh.open
 obtain⟨ar,cr,hrv,_⟩:=id hr
 refine enter Tryz.func150 Tryz.ntmps150 rfl rfl ?_
 repeat refine c_r ?_
 rw[hhv,hrv]
 refine rg0 ?_
 rw[←hhv,←hrv]
 repeat refine c_r ?_
 refine zaB ?_
 intro w1 hE1 hs1 hA
 have d:=zah (n:=4) (l:=[hv,rv,vi N.rw,vi N.rf]) hA rfl
 repeat refine c_r ?_
 refine rc d (zlw (s:=s) (hE0.trans hE1) hN0 hG (hq.ext hE1) mq) ?_
 rintro _ w2 ⟨rfl,hE2⟩
 refine re trivial ?_
 repeat refine c_r ?_
 refine rg0 ?_
 repeat refine c_r ?_
 refine rt0 Tryz.ntmps150 ?_
 exact⟨rfl,hE1.trans hE2⟩
theorem zone_at{w:World}{hv:Value}{N:NetL}{s k:Int}{z:zb5}(hh:Rows 6 (HostC w) w hv N.hosts)(hz:(N.zones s)[k.toNat]? =some z)(hk:0≤k):
  ∃(i j:Nat) (ah:Addr) (ch:Nat) (xi x5 az:Addr) (cz nz:Nat) (xz:Addr) (ov lv:Value),s=(i:Int)∧k=(j:Int)∧i<N.hosts.length∧j<nz∧hv= .slice (some ah) N.hosts.length ch∧adr (some ah) (i*6)=some xi∧adr (some xi) 5=some x5∧zae w (some x5)=some (.slice (some az) nz cz)∧adr (some az) (j*2)=some xz∧
   zal w (some xz) 2=some [ov,lv]∧Row w ov (z.o.map vs)∧Rows 7 (RecAt w) w lv z.recs:=by
 unfold NetL.zones at hz
 split at hz
 ·simp at hz
 rename_i hs
 cases hh':N.hosts[s.toNat]? with
 |none=>rw[hh']at hz;simp at hz
 |some h=>
  rw[hh']at hz
  dsimp only at hz
  obtain⟨hi,hhi⟩:=List.getElem?_eq_some_iff.1 hh'
  obtain⟨hj,hzj⟩:=List.getElem?_eq_some_iff.1 hz
  obtain⟨ah,ch,rfl,_,hgh⟩:=hh.open
  obtain⟨cs,hcs,hH⟩:=hgh _ hi
  rw[hhi]at hH
  obtain⟨nv,b1,b2,b3,b4,zv,rfl,_,_,hzr⟩:=hH.ex
  obtain⟨az,cz,rfl,_,hgz⟩:=hzr.open
  obtain⟨c2,hc2,hZ⟩:=hgz _ hj
  rw[hzj]at hZ
  obtain⟨ov,lv,rfl,ho,hr⟩:=hZ.ex
  obtain⟨xh,rfl⟩:=Option.isSome_iff_exists.1 (zao hcs)
  obtain⟨xz,rfl⟩:=Option.isSome_iff_exists.1 (zao hc2)
  obtain⟨xi,hxi⟩:∃xi,adr (some xh) (s.toNat*6)=some xi:=⟨_,rfl⟩
  obtain⟨x5,hx5⟩:∃x,adr (some xi) 5=some x:=⟨_,rfl⟩
  obtain⟨xk,hxk⟩:∃xi,adr (some xz) (k.toNat*2)=some xi:=⟨_,rfl⟩
  rw[hxi]at hcs
  rw[hxk]at hc2
  exact⟨s.toNat,k.toNat,xh,ch,xi,x5,xz,cz,_,xk,ov,lv,by omega,by omega,hi,hj,rfl,hxi,hx5,by rw[←hx5];exact zax hcs rfl,hxk,hc2,ho,hr⟩
theorem ones5{a b c:Value}{k:Int}{d:Bool}(ha:one a=true)(hb:one b=true)(hc:one c=true):∀v∈ [vi k,a,b,.bool d,c],one v=true:=fun v h=>by
 simp at h
 rcases h with rfl|rfl|rfl|rfl|rfl<;>first|assumption|rfl
theorem nil_res{w0 w:World}{B:Nat}{k:Int}{b:Bool}:ResB w0 B w [vi k,.slice Option.none 0 0,.slice Option.none 0 0,.bool b,.slice Option.none 0 0] ⟨k,[],[],b,[]⟩:=
 ⟨_,_,_,rfl,Rows.nil _ _ _,BlkB.nil,.inr (za8 _),Rows.nil _ _ _,BlkB.nil⟩
theorem Ask_ok{w0 w:World}(hE0:Ext w0 w){cs:List Value}{N:NetL}{s:Int}{q:Nm}{qv:Value}{t:Int}(hN:NetAt w0 cs N)(hG:NetZ N)(hq:Row w qv (q.map vs))(mq:NmM q):
  Fn Tryz.prog 93 #[.agg cs.toArray,vi s,qv,vi t] w (fun v w'=>Ext w w'∧∃cs,v= .agg cs.toArray∧ResB w0 w.heap.size w' cs (askN N s q t)):=by
 have hN0:=hN
 obtain⟨hv,rv,rfl,hh,hr⟩:=hN.ex
 obtain⟨ah,ch,hhv,_⟩:=hh.open
 obtain⟨ar,cr,hrv,_⟩:=id hr
 refine enter Tryz.func93 Tryz.ntmps93 rfl rfl ?_
 repeat refine c_r ?_
 rw[hhv,hrv]
 refine rg0 ?_
 rw[←hhv,←hrv]
 repeat refine c_r ?_
 rw[zai]
 refine zaM ?_
 intro w1 hE1 hs1 hA hC
 have d:=zah (n:=4) (l:=[hv,rv,vi N.rw,vi N.rf]) hA rfl
 repeat refine c_r ?_
 refine rc d (zlw (s:=s) (hE0.trans hE1) hN0 hG (hq.ext hE1) mq) ?_
 rintro _ w2 ⟨rfl,hE2⟩
 refine re trivial ?_
 have hE02:=hE0.trans (hE1.trans hE2)
 have hC2:=Ext.at hE2 hC
 have d2:=zac hE2 d
 repeat refine c_r ?_
 refine rg0 ?_
 repeat refine c_r ?_
 cases hb:(zdg N s q).2 with
 |false=>
  have hk:askN N s q t=⟨7,[],[],false,[]⟩:=by unfold askN;rw[hb];rfl
  refine wt trivial ?_
  repeat refine c_r ?_
  refine rq ?_;intro gd K hgd hK
  try simp only[go_sem]
  refine⟨by kernel_rfl,?_⟩
  rw[show bdV Tryz.prog 184 [(0,vi 7)]=some (.agg #[vi 7,.slice Option.none 0 0,.slice Option.none 0 0,.bool false,.slice Option.none 0 0]) from by kernel_rfl]
  try simp only[go_sem]
  refine zaK (P:=Tryz.prog) (t:=184) (l:=[vi 7,.slice Option.none 0 0,.slice Option.none 0 0,.bool false,.slice Option.none 0 0]) hC2 rfl (ones5 rfl rfl rfl) rfl rfl ?_
  intro z hz' hbz hkz
  try simp only[go_sem]
  refine hK _ _ ?_;clear hK hgd;clear K;try clear gd
  repeat refine c_r ?_
  refine zaC (.inr rfl) Tryz.ntmps93 rfl (zaX (x:=⟨w.heap.size+1,0,Option.none⟩) (k:=5) (vq0) rfl rfl (zah hbz rfl) zav) ?_
  exact⟨Keep.to_ext (hE1.trans hE2) rfl (fun b hb=>by omega) hkz,_,rfl,by rw[hk];exact nil_res⟩
 |true=>
  obtain⟨hk0,hk1⟩:=bestN_in hb
  obtain⟨z,hz⟩:∃z,(N.zones s)[(zdg N s q).1.toNat]? =some z:=⟨_,List.getElem?_eq_getElem (by omega)⟩
  have hk:askN N s q t=zbp z.o z.recs q t:=by unfold askN;rw[hb,hz];rfl
  have gz:=(zdW hG).1 z (List.mem_of_getElem? hz)
  obtain⟨i,j,xh,c1,xi,x5,az,cz,nz,xz,ov,lv,rfl,hkj,hi,hj,rfl,hxi,hx5,pz,hxz,dz,ho,hl⟩:=zone_at hh hz hk0
  rw[hkj]
  refine wf trivial ?_
  have p0:zae w2 (some ⟨w.heap.size,0,Option.none⟩)=some (.slice (some xh) N.hosts.length c1):=zab (Ext.at hE2 hA) rfl
  have pz2:=zaa hE02 pz
  have dz2:=zac hE02 dz
  have i0:(0:Int)≤(i:Int):=by omega
  have i1:(i:Int)<(N.hosts.length:Int):=by omega
  have j0:(0:Int)≤(j:Int):=by omega
  have j1:(j:Int)<(nz:Int):=by omega
  repeat refine c_r ?_
  refine rq ?_;intro gd K hgd hK
  try simp (disch:=first|omega|assumption|rfl) only[go_sem,p0,i0,i1,j0,j1,hxi,hx5,pz2,hxz,dz2,Nat.add_zero]
  refine Fn.mono (Zone_ok (t:=t) (gz.zn hE02 (ho.ext hE02) (hl.ext hE02)) gz.c.gd (hq.ext (hE1.trans hE2)) mq) ?_
  rintro _ w3 ⟨hE3,cs,rfl,hres⟩
  try simp only[go_sem]
  refine zaK (P:=Tryz.prog) (t:=184) (l:=cs) (Ext.at hE3 hC2) hres.cells.1 hres.cells.2 (by rw[hres.cells.1];rfl) rfl ?_
  intro z hz' hbz hkz
  try simp only[go_sem]
  refine hK _ _ ?_;clear hK hgd;clear K;try clear gd
  repeat refine c_r ?_
  refine zaC (.inr rfl) Tryz.ntmps93 rfl (zaX (x:=⟨w.heap.size+1,0,Option.none⟩) (k:=5) (vq0) rfl rfl (zah hbz hres.cells.1.symm) zav) ?_
  have hs2:=hE2.size
  exact⟨Keep.to_ext (hE1.trans (hE2.trans hE3)) rfl (fun b hb=>by omega) hkz,_,rfl,by rw[hk];exact(hres.keep hkz (fun b h1 _ h2=>by omega)).mono (by omega)⟩
structure TellD(w0 w:World)(g:FuncId)(cap:List Value)(p:DatL→Bool)(R:List DatL):Prop where
 call:zam Tryz.prog g=true
 tell:∀(A:World) (cs:List Value) (r:DatL),Ext w A→r∈R→DatAt w0 cs r→Fn Tryz.prog g (.agg cs.toArray::cap).toArray A (fun v A'=>v= .bool (p r)∧Ext A A')
theorem zls{w0 w:World}{lv:Value}{R:List DatL}{g:FuncId}{cap:List Value}{p:DatL→Bool}(hl:Rows 5 (DatAt w0) w lv R)(ht:TellD w0 w g cap p R)(hlen:R.length≤1000000000):
  Fn Tryz.prog 284 #[lv,.func (.func g) #[] cap.toArray] w (fun v w'=>Ext w w'∧∃i:Int,v=vi i∧decide (i≥0)=R.any p):=by
 obtain⟨hcal,htell⟩:=ht
 obtain⟨aR,cR,rfl,hcR,hgR⟩:=hl.open
 refine enter Tryz.func284 Tryz.ntmps284 rfl rfl ?_
 repeat refine c_r ?_
 refine rg0 ?_
 repeat refine c_r ?_
 refine rg0 ?_
 repeat refine c_r ?_
 refine zar (fun m σ ds A=>ds=[]∧∃(i:Nat),i+m=R.length∧σ 8=vi i∧σ 7=vi R.length∧σ 0= .slice aR R.length cR∧σ 1= .func (.func g) #[] cap.toArray∧Ext w A∧∀j (h:j<R.length),j<i→p R[j]=false) R.length ?_ ?_
 ·exact⟨rfl,0,by omega,vr0,vq0,vq0,vq0,Keep.refl _ _,fun j h hj=>absurd hj (by omega)⟩
 rintro m σ ds A ⟨rfl,i,him,h8,h7,h0,h1,hEA,hlow⟩
 repeat refine c_r ?_
 refine rg2 h8 h7 ?_
 repeat refine c_r ?_
 refine wc0 ?_ ?_
 ·intro hlt
  simp only[decide_eq_true_eq]at hlt
  have hiR:i<R.length:=by omega
  have hi0:(0:Int)≤(i:Int):=by omega
  have hi1:(i:Int)<(R.length:Int):=by omega
  have hi1':(i:Int)+1=((i+1:Nat):Int):=by push_cast;rfl
  obtain⟨cr,hcr,hRr⟩:=hgR i hiR
  obtain⟨xR,rfl⟩:=Option.isSome_iff_exists.1 (zao hcr)
  have hcrA:=zac hEA hcr
  repeat refine c_r ?_
  refine rg1 h8 ?_
  repeat refine c_r ?_
  refine rq ?_;intro gd K hgd hK
  try simp (disch:=first|omega|assumption|rfl) only[go_sem,h0,h1,hi0,hi1,hcrA]
  refine zcd hcal (Fn.mono (htell A cr R[i] hEA (List.getElem_mem hiR) hRr) ?_)
  rintro _ A1 ⟨rfl,hE1⟩
  try simp only[go_sem]
  refine hK _ _ ?_;clear hK hgd;clear K;try clear gd
  repeat refine c_r ?_
  refine wc0 ?_ ?_
  ·intro ht
   repeat (first|refine c_r ?_|refine rg0 ?_)
   refine rt0 Tryz.ntmps284 ?_
   refine⟨hEA.trans hE1,_,rfl,?_⟩
   rw[show R.any p=true from List.any_eq_true.2 ⟨_,List.getElem_mem hiR,ht⟩]
   exact decide_eq_true (by omega)
  ·intro ht
   repeat refine c_r ?_
   refine rg2 h8 hi1' ?_
   repeat refine c_r ?_
   refine⟨m - 1,by omega,rfl,i+1,by omega,vq0,(vq1 h7),(vq1 h0),(vq1 h1),hEA.trans hE1,fun j hj hji=>?_⟩
   by_cases hj2:j=i
   ·subst hj2;exact ht
   ·exact hlow j hj (by omega)
 ·intro hge
  simp only[decide_eq_false_iff_not]at hge
  repeat (first|refine c_r ?_|refine rg0 ?_)
  refine rt0 Tryz.ntmps284 ?_
  refine⟨hEA,_,rfl,?_⟩
  have:R.any p=false:=by
   rw[List.any_eq_false]
   intro x hx
   obtain⟨j,hj,rfl⟩:=List.getElem_of_mem hx
   rw[hlow j hj (by omega)];exact Bool.false_ne_true
  rw[this];rfl
theorem zen{w0 w:World}{lv:Value}{R:List DatL}{g:FuncId}{cap:List Value}{p:DatL→Bool}(hl:Rows 5 (DatAt w0) w lv R)(ht:TellD w0 w g cap p R)(hlen:R.length≤1000000000):
  Fn Tryz.prog 254 #[lv,.func (.func g) #[] cap.toArray] w (fun v w'=>v= .bool (R.any p)∧Ext w w'):=by
 refine enter Tryz.func254 Tryz.ntmps254 rfl rfl ?_
 repeat refine c_r ?_
 refine rg0 ?_
 repeat refine c_r ?_
 refine rq ?_;intro gd K hgd hK
 try simp only[go_sem]
 refine Fn.mono (zls hl ht hlen) ?_
 rintro _ w1 ⟨hE1,i,rfl,hi⟩
 try simp only[go_sem]
 refine hK _ _ ?_;clear hK hgd;clear K;try clear gd
 repeat refine c_r ?_
 refine rt0 Tryz.ntmps254 ?_
 exact⟨by rw[hi],hE1⟩
theorem zlx(w:World)(a b:Value)(xs ys:List UInt8)(ha:Row w a (xs.map zaf))(hb:Row w b (ys.map zaf)):Fn Tryz.prog 257 #[a,b] w (fun v w'=>v= .bool (decide (xs=ys))∧w'=w):=by
 obtain⟨a1,c1,rfl,_,h1⟩:=ha
 obtain⟨a2,c2,rfl,_,h2⟩:=hb
 simp only[List.length_map]at h1 h2 ⊢
 refine enter Tryz.func257 Tryz.ntmps257 rfl rfl ?_
 repeat refine c_r ?_
 refine rg0 ?_
 repeat refine c_r ?_
 refine rq ?_;intro gd K hgd hK
 try simp only[go_sem]
 refine zbP (l:=xs) rfl rfl rfl (vq0) (fun j hj=>by have:=h1 j (by simpa using hj);simpa using this) ?_
 try simp only[go_sem]
 refine zbP (l:=ys) rfl rfl rfl (vq0) (fun j hj=>by have:=h2 j (by simpa using hj);simpa using this) ?_
 try simp only[go_sem]
 refine hK _ _ ?_;clear hK hgd;clear K;try clear gd
 repeat refine c_r ?_
 refine rt0 Tryz.ntmps257 ?_
 exact⟨rfl,rfl⟩
def isA(d:DatL):Bool:=decide (d.ty=1)
def isG(addr:List UInt8)(d:DatL):Bool:=isA d && decide (d.raw=addr)
theorem IsA_ok{w0 A:World}{cs:List Value}{r:DatL}(hcs:DatAt w0 cs r):Fn Tryz.prog 253 #[.agg cs.toArray] A (fun v A'=>v= .bool (isA r)∧Ext A A'):=by
 obtain⟨nm,nu,tx,rw',rfl,h1,h2,h3,h4⟩:=hcs.ex
 refine enter Tryz.func253 Tryz.ntmps253 rfl rfl ?_
 repeat refine c_r ?_
 refine rg0 ?_
 repeat refine c_r ?_
 refine zaB ?_
 intro w1 hE1 hs1 hA
 have p0:zae w1 (some ⟨A.heap.size,0,Option.none⟩)=some (vi r.ty):=zab hA rfl
 refine rg2 p0 Nat.add_zero ?_
 repeat refine c_r ?_
 refine rt0 Tryz.ntmps253 ?_
 exact⟨rfl,hE1⟩
theorem tell_A{w0 w:World}{ds:List DatL}:TellD w0 w 253 [] isA ds:=⟨rfl,fun A cs r _ _ hcs=>IsA_ok hcs⟩
theorem tell_G{w0 w:World}{bf bh:Nat}{nv zv:Value}{a b c d:UInt8}{ds:List DatL}(hE0:Ext w0 w)(hf:w.heap[bf]? =some (.cells #[.func (.func 253) #[] #[]] 352 (0,0)))(hh:w.heap[bh]? =some (.cells #[nv,zaf a,zaf b,zaf c,zaf d,zv] 116 (0,0))):
  TellD w0 w 256 [.pointer (some ⟨bf,0,Option.none⟩),.pointer (some ⟨bh,0,Option.none⟩)] (isG [a,b,c,d]) ds:=by
 refine⟨rfl,fun A cs r hE hr hcs=>?_⟩
 have hcs0:=hcs
 obtain⟨nm,nu,tx,rw',rfl,h1,h2,h3,h4⟩:=hcs.ex
 obtain⟨vals,⟨a1,c1,rfl,_⟩,_⟩:=id h1
 obtain⟨a2,c2,rfl,_⟩:=id h2
 obtain⟨a3,c3,rfl,_⟩:=id h3
 obtain⟨a4,c4,hrw,_⟩:=id h4
 refine enter Tryz.func256 Tryz.ntmps256 rfl rfl ?_
 repeat refine c_r ?_
 rw[hrw]
 refine rg0 ?_
 rw[←hrw]
 repeat refine c_r ?_
 refine zaB ?_
 intro w1 hE1 hs1 hA
 have hE01:=hE0.trans (hE.trans hE1)
 have pf:zae w1 (some ⟨bf,0,Option.none⟩)=some (.func (.func 253) #[] #[]):=zab (Ext.at (hE.trans hE1) hf) rfl
 have hhA:=Ext.at (hE.trans hE1) hh
 have d5:=zah (n:=5) (l:=[vi r.ty,_,_,_,rw']) hA rfl
 have p4:zae w1 (some ⟨A.heap.size,4,Option.none⟩)=some rw':=zab hA rfl
 have hadr:Row w1 (.slice (some ⟨bh,1,Option.none⟩) 4 4) ([a,b,c,d].map zaf):=⟨some ⟨bh,1,Option.none⟩,4,rfl,Nat.le_refl _,fun j hj=>by
  have hj4:j<4:=by simpa using hj
  have:adr (some ⟨bh,1,Option.none⟩) j=some ⟨bh,1+j,Option.none⟩:=by simp[adr,Addr.add]
  rw[this]
  refine zab hhA ?_
  match j,hj4 with
  |0,_=>rfl
  |1,_=>rfl
  |2,_=>rfl
  |3,_=>rfl⟩
 repeat refine c_r ?_
 refine zaH (fun _=>false) [(0,true),(1,true),(2,false),(3,true),(4,true),(5,true),(6,true),(7,false),(8,false),(9,true),(10,true)] NoS mixed (by kernel_rfl) ?_;intro gd K x hgd hx hxe hK;clear hxe
 have hg3:∀n σ b,zat gd n σ (some (3,b))=zaj (ev n σ (.tmp 8)) b:=(fun n σ b=>by rw[zad,show gd 3=some 8 from(by rw[hgd];rfl)];rfl)
 have pfx:=zaa hx pf
 have d5x:=zac hx d5
 have p4x:=zaa hx p4
 simp (disch:=first|omega|assumption|rfl) only[go_sem,pfx,d5x]
 refine Fn.mono (IsA_ok hcs0) ?_
 rintro _ y1 ⟨rfl,hy1⟩
 refine⟨.inr hy1,?_⟩
 have p4y:=zaa hy1 p4x
 cases hai:isA r with
 |false=>
  simp (disch:=first|omega|assumption|rfl) only[go_sem,↓hg3]
  refine hK _ _ ?_;clear hK hgd;clear K;try clear gd
  repeat refine c_r ?_
  refine rt0 Tryz.ntmps256 ?_
  exact⟨by unfold isG;rw[hai];rfl,(hE1.trans hx).trans hy1⟩
 |true=>
  simp (disch:=first|omega|assumption|rfl) only[go_sem,p4y,↓hg3]
  refine op_slA rfl (by decide) (by kernel_rfl) (vq0) ?_
  refine⟨.inr (Keep.refl _ _),?_⟩
  simp (disch:=first|omega|assumption|rfl) only[go_sem,↓hg3]
  refine Fn.mono (zlx _ _ _ _ _ (h4.ext ((hE01.trans hx).trans hy1)) (hadr.ext (hx.trans hy1))) ?_
  rintro _ _ ⟨rfl,rfl⟩
  refine⟨.inr (Keep.refl _ _),?_⟩
  simp (disch:=first|omega|assumption|rfl) only[go_sem,↓hg3]
  refine hK _ _ ?_;clear hK hgd;clear K;try clear gd
  repeat refine c_r ?_
  refine rt0 Tryz.ntmps256 ?_
  exact⟨by unfold isG;rw[hai];rfl,(hE1.trans hx).trans hy1⟩
end Go.Proofs.YtahbdamijngmmaaGreat
namespace Go.Proofs.YtahbdamijngmmaaGreat.P_ci
open Go Go.Proofs.YtahbdamijngmmaaGreat
set_option maxRecDepth 10000
theorem Clip_ok{w:World}{a:Option Addr}{n c:Nat}(hc:n≤c):Fn Tryz.prog 90 #[.slice a n c] w (fun u w'=>u= .slice a n n∧w'=w):=by
 refine enter Tryz.func90 Tryz.ntmps90 rfl rfl ?_
 repeat refine c_r ?_
 refine rg0 ?_
 repeat refine c_r ?_
 refine rq ?_;intro gd K hgd hK
 try simp only[go_sem]
 have hcl:slD Tryz.prog (some (TypeDesc.slice 3)) (Value.slice a n c) Option.none (some (Value.int IntKind.i64 ↑n)) (some (Value.int IntKind.i64 ↑n))=some (.slice a n n):=zeN hc (by rfl)
 rw[hcl]
 try simp only[go_sem]
 refine hK _ _ ?_;clear hK hgd;clear K;try clear gd
 repeat refine c_r ?_
 refine rt0 Tryz.ntmps90 ?_
 exact⟨rfl,rfl⟩
end Go.Proofs.YtahbdamijngmmaaGreat.P_ci
namespace Go.Proofs.YtahbdamijngmmaaGreat
open Go
set_option maxRecDepth 10000
structure TellH(w0 w:World)(g:FuncId)(cap:List Value)(p:zdV→Bool)(R:List zdV):Prop where
 call:zam Tryz.prog g=true
 tell:∀(A:World) (cs:List Value) (r:zdV),Ext w A→r∈R→HostC w0 cs r→Fn Tryz.prog g (.agg cs.toArray::cap).toArray A (fun v A'=>v= .bool (p r)∧Ext A A')
theorem HostC.one{w:World}{cs:List Value}{h:zdV}(hc:HostC w cs h):cs.length=6∧∀v∈cs,one v=true:=by
 obtain⟨nv,a,b,c,d,zv,rfl,_,h1,h2⟩:=hc.ex
 refine⟨rfl,fun v hv=>?_⟩
 simp at hv
 rcases hv with rfl|rfl|rfl|rfl|rfl|rfl<;>first|exact h1.isOne|exact h2.isOne|rfl
theorem tell_N{w0 w:World}{bn:Nat}{hv:Value}{host:Nm}{R:List zdV}(hE0:Ext w0 w)(hb:w.heap[bn]? =some (.cells #[hv] 27 (0,0)))(hh:Row w0 hv (host.map vs))(mh:NmM host)(hR:∀h∈R,NmM h.name):
  TellH w0 w 252 [.pointer (some ⟨bn,0,Option.none⟩)] (fun h=>decide (zaw h.name=zaw host)) R:=by
 refine⟨rfl,fun A cs r hE hr hcs=>?_⟩
 obtain⟨nv,a,b,c,d,zv,rfl,_,h1,h2⟩:=hcs.ex
 have mr:=hR r hr
 have l1:=mr.len
 have l2:=mh.len
 have e1:=h1.isOne
 have e2:=h2.isOne
 obtain⟨a1,c1,hnv,_⟩:=id h1
 obtain⟨a2,c2,hzv,_⟩:=h2.open
 refine enter Tryz.func252 Tryz.ntmps252 rfl rfl ?_
 repeat refine c_r ?_
 rw[hnv,hzv]
 refine rg0 ?_
 rw[←hnv,←hzv]
 repeat refine c_r ?_
 refine zaB ?_
 intro w1 hE1 hs1 hA
 have p0:zae w1 (some ⟨A.heap.size,0,Option.none⟩)=some nv:=zab hA rfl
 have p1:zae w1 (some ⟨bn,0,Option.none⟩)=some hv:=zab (Ext.at (hE.trans hE1) hb) rfl
 have hE01:=hE0.trans (hE.trans hE1)
 repeat refine c_r ?_
 refine rc (an3 p0 p1 Nat.add_zero) (zd9 w1 nv hv r.name host (h1.ext hE01) (hh.ext hE01) mr.LB mh.LB (by omega) (by omega)) ?_
 rintro _ w2 ⟨rfl,hE2⟩
 refine re trivial ?_
 repeat refine c_r ?_
 refine rt0 Tryz.ntmps252 ?_
 exact⟨rfl,hE1.trans hE2⟩
theorem tell_M{w0 w:World}{bg bf:Nat}{gv:Value}{glue:List DatL}{R:List zdV}(hE0:Ext w0 w)(hb:w.heap[bg]? =some (.cells #[gv] 181 (0,0)))(hf:w.heap[bf]? =some (.cells #[.func (.func 253) #[] #[]] 352 (0,0)))(hg:Rows 5 (DatAt w0) w gv glue)(hgl:glue.length≤1000000000):
  TellH w0 w 255 [.pointer (some ⟨bg,0,Option.none⟩),.pointer (some ⟨bf,0,Option.none⟩)] (fun h=>glue.any (isG h.addr)) R:=by
 refine⟨rfl,fun A cs r hE hr hcs=>?_⟩
 obtain⟨nv,a,b,c,d,zv,rfl,ha,h1,h2⟩:=hcs.ex
 obtain⟨a1,c1,hnv,_⟩:=id h1
 obtain⟨a2,c2,hzv,_⟩:=h2.open
 refine enter Tryz.func255 Tryz.ntmps255 rfl rfl ?_
 repeat refine c_r ?_
 rw[hnv,hzv]
 refine rg0 ?_
 rw[←hnv,←hzv]
 repeat refine c_r ?_
 refine zaB ?_
 intro w1 hE1 hs1 hA
 have p1:zae w1 (some ⟨bg,0,Option.none⟩)=some gv:=zab (Ext.at (hE.trans hE1) hb) rfl
 have hE01:=hE0.trans (hE.trans hE1)
 repeat refine c_r ?_
 refine rc p1 (zen (hg.ext (hE.trans hE1)) (tell_G hE01 (Ext.at (hE.trans hE1) hf) hA) hgl) ?_
 rintro _ w2 ⟨rfl,hE2⟩
 refine re trivial ?_
 repeat refine c_r ?_
 refine rt0 Tryz.ntmps255 ?_
 exact⟨by rw[ha],hE1.trans hE2⟩
def zcM(host:Nm)(glue:List DatL)(h:zdV):Bool:=if glue.any isA=true then glue.any (isG h.addr) else decide (zaw h.name=zaw host)
def zcK{α:Type}(p:α→Bool):Nat→List α→List Int
 |_,[]=>[]
 |i,h::l=>(if p h=true then [(i:Int)] else [])++zcK p (i+1) l
def zks(N:NetL)(host:Nm)(glue:List DatL):List Int:=zcK (zcM host glue) 0 N.hosts
theorem zgM{α:Type}{p:α→Bool}:∀{l m:List α} {i:Nat},zcK p i (l++m)=zcK p i l++zcK p (i+l.length) m
 | [],m,i=>by simp[zcK]
 |h::l,m,i=>by
  simp only[List.cons_append,zcK,List.append_assoc]
  rw[zgM (l:=l),List.length_cons,show i+1+l.length=i+(l.length+1) from by omega]
theorem zi6{α:Type}{p:α→Bool}{l:List α}{i:Nat}(hi:i<l.length):zcK p 0 (l.take (i+1))=zcK p 0 (l.take i)++if p l[i]=true then [(i:Int)] else []:=by
 rw[zan hi,zgM]
 simp only[zcK,List.append_nil,List.length_take]
 rw[show 0+min i l.length=i from by omega]
theorem zeS{α:Type}{p:α→Bool}:∀{l:List α} {i:Nat},(zcK p i l).length≤l.length
 | [],i=>by simp[zcK]
 |h::l,i=>by
  have:=zeS (p:=p) (l:=l) (i:=i+1)
  simp only[zcK,List.length_append,List.length_cons]
  split<;>simp<;>omega
theorem Meant_ok{w0 w:World}(hE0:Ext w0 w){cs:List Value}{N:NetL}{host:Nm}{hv gv:Value}{glue:List DatL}(hN:NetAt w0 cs N)(hG:NetZ N)(hh:Row w0 hv (host.map vs))(mh:NmM host)(hg:Rows 5 (DatAt w0) w gv glue)(hgl:glue.length≤1000000000):
  Fn Tryz.prog 205 #[.agg cs.toArray,hv,gv] w (fun v w'=>Ext w w'∧Row w' v ((zks N host glue).map vi)∧BlkB w.heap.size w' v):=by
 obtain⟨hs,rs,rfl,hhs,hr⟩:=hN.ex
 obtain⟨ah,ch,rfl,hch,hgh⟩:=hhs.open
 obtain⟨ar,cr,hrv,_⟩:=id hr
 obtain⟨a1,c1,hnv,_⟩:=id hh
 obtain⟨a2,c2,hgv,_⟩:=hg.open
 have hl:=hG.hl
 refine enter Tryz.func205 Tryz.ntmps205 rfl rfl ?_
 repeat refine c_r ?_
 rw[hrv,hnv,hgv]
 refine rg0 ?_
 rw[←hrv,←hnv,←hgv]
 repeat refine c_r ?_
 rw[zai,zai,zai]
 refine zcz ?_
 intro w1 hE1 hs1 hA hB hC
 repeat refine c_r ?_
 refine rg0 ?_
 repeat refine c_r ?_
 refine rq ?_;intro gd K hgd hK
 try simp only[go_sem]
 refine zjQ ?_
 intro w2 hE2 hs2 hD
 refine zaR (P:=Tryz.prog) (t:=352) (j:=0) (u:= .func (.func 253) #[] #[]) (l:=[_]) hD (by simp) rfl rfl rfl ?_
 intro w3 hs3 hD3 hk3
 try simp only[go_sem]
 refine hK _ _ ?_;clear hK hgd;clear K;try clear gd
 simp only[List.set_cons_zero]at hD3
 obtain⟨b8,hb8⟩:∃b,w1.heap.size=b:=⟨_,rfl⟩
 rw[hb8]at hD3 hk3 hs2 ⊢
 have hE3:Ext w w3:=Keep.to_ext (hE1.trans hE2) rfl (fun b hb=>by omega) hk3
 have up:∀{b:Nat} {O:Obj},w1.heap[b]? =some O→w3.heap[b]? =some O:=fun {b O} h=>(hk3.block _ (by have:=(Array.getElem?_eq_some_iff.1 h).1;omega) (by have:=(Array.getElem?_eq_some_iff.1 h).1;omega)).trans (Ext.at hE2 h)
 have p0:zae w3 (some ⟨w.heap.size,0,Option.none⟩)=some (.slice ah N.hosts.length ch):=zab (up hA) rfl
 have pC:zae w3 (some ⟨w.heap.size+1+1,0,Option.none⟩)=some gv:=zab (up hC) rfl
 have pD:zae w3 (some ⟨b8,0,Option.none⟩)=some (.func (.func 253) #[] #[]):=zab hD3 rfl
 repeat refine c_r ?_
 refine rc (an2 pC pD) (zen (hg.ext hE3) tell_A hgl) ?_
 rintro _ w4 ⟨rfl,hE4⟩
 refine re trivial ?_
 have hE34:=hE3.trans hE4
 have hE04:=hE0.trans hE34
 repeat refine c_r ?_
 refine zaA (Q:=fun e σ' ds' v'=>e= .normal∧ds'=[]∧v'=w4∧σ' 3= .pointer (some ⟨w.heap.size,0,Option.none⟩)∧∃g cap,σ' 7= .func (.func g) #[] cap.toArray∧TellH w0 w4 g cap (zcM host glue) N.hosts) ?_ ?_
 ·cases hany:glue.any isA with
  |true=>
   refine wt trivial ?_
   repeat refine c_r ?_
   refine rg0 ?_
   have hp:zcM host glue=fun h=>glue.any (isG h.addr):=funext fun h=>by unfold zcM;rw[hany];rfl
   exact⟨rfl,rfl,rfl,vq0,255,[.pointer (some ⟨w.heap.size+1+1,0,Option.none⟩),.pointer (some ⟨b8,0,Option.none⟩)],vr0,by rw[hp];exact tell_M hE04 (Ext.at hE4 (up hC)) (Ext.at hE4 hD3) (hg.ext hE34) hgl⟩
  |false=>
   refine wf trivial ?_
   repeat refine c_r ?_
   have hp:zcM host glue=fun h=>decide (zaw h.name=zaw host):=funext fun h=>by unfold zcM;rw[hany];rfl
   exact⟨rfl,rfl,rfl,vq0,252,[.pointer (some ⟨w.heap.size+1,0,Option.none⟩)],vr0,by rw[hp];exact tell_N hE04 (Ext.at hE4 (up hB)) hh mh hG.nm⟩
 rintro _ σ1 _ w5 ⟨rfl,rfl,rfl,h3,g,cap,h7,htell⟩
 have p0':=zaa hE4 p0
 repeat refine c_r ?_
 refine rg0 ?_
 repeat refine c_r ?_
 refine rg3 h3 p0' Nat.add_zero ?_
 repeat refine c_r ?_
 refine zar (fun m σ ds A=>ds=[]∧∃(i:Nat) (ov:Value),i+m=N.hosts.length∧σ 20=vi i∧σ 19=vi N.hosts.length∧σ 18= .slice ah N.hosts.length ch∧σ 7= .func (.func g) #[] cap.toArray∧σ 9=ov∧Own w5.heap.size A 3 ov ((zcK (zcM host glue) 0 (N.hosts.take i)).map vi)∧Ext w5 A) N.hosts.length ?_ ?_
 ·exact⟨rfl,0,.slice Option.none 0 0,by omega,vr0,vq0,vq0,(vq1 h7),vq0,Own.nil _ _ _,Keep.refl _ _⟩
 rintro m σ ds A ⟨rfl,i,ov,him,s20,s19,s18,s7,s9,hown,hEA⟩
 repeat refine c_r ?_
 refine rg2 s20 s19 ?_
 repeat refine c_r ?_
 refine wc0 ?_ ?_
 ·intro hlt
  simp only[decide_eq_true_eq]at hlt
  have hi:i<N.hosts.length:=by omega
  have hi0:(0:Int)≤(i:Int):=by omega
  have hi1':(i:Int)+1=((i+1:Nat):Int):=by push_cast;rfl
  obtain⟨cs,hcs,hH⟩:=hgh i hi
  obtain⟨xz,rfl⟩:=Option.isSome_iff_exists.1 (zao hcs)
  obtain⟨xi,hxi⟩:∃xi,adr (some xz) (i*6)=some xi:=⟨_,rfl⟩
  rw[hxi]at hcs
  obtain⟨hc6,hc1⟩:=hH.one
  have d:=zac (hE04.trans hEA) hcs
  repeat refine c_r ?_
  refine rq ?_;intro gd K hgd hK
  try simp (disch:=first|omega|assumption|rfl) only[go_sem,s20,s18,hi0,hlt,hxi,d]
  refine zaQ (P:=Tryz.prog) (l:=cs) (by rw[hc6];rfl) hc1 (by rw[hc6];rfl) rfl ?_
  intro A1 hE6 hs6 hB6
  try simp only[go_sem]
  refine hK _ _ ?_;clear hK hgd;clear K;try clear gd
  have d1:=zah (n:=6) hB6 hc6.symm
  repeat refine c_r ?_
  refine rq ?_;intro gd K hgd hK
  try simp (disch:=first|omega|assumption|rfl) only[go_sem,s7,d1]
  refine zcd htell.call (Fn.mono (htell.tell A1 cs N.hosts[i] (hEA.trans hE6) (List.getElem_mem hi) hH) ?_)
  rintro _ A2 ⟨rfl,hE7⟩
  try simp only[go_sem]
  refine hK _ _ ?_;clear hK hgd;clear K;try clear gd
  have hE67:=hE6.trans hE7
  have hown2:=hown.ext hE67
  have hpk:=zi6 (p:=zcM host glue) hi
  have hlen:=zeS (p:=zcM host glue) (l:=N.hosts.take i) (i:=0)
  have hsz:=(hEA.trans hE67).size
  repeat refine c_r ?_
  refine zaA (Q:=fun e σ' ds' v'=>e= .normal∧ds'=[]∧σ' 20=vi i∧σ' 19=vi N.hosts.length∧σ' 18= .slice (some xz) N.hosts.length ch∧σ' 7= .func (.func g) #[] cap.toArray∧∃ov',σ' 9=ov'∧Own w5.heap.size v' 3 ov' ((zcK (zcM host glue) 0 (N.hosts.take (i+1))).map vi)∧Ext w5 v') ?_ ?_
  ·cases hb:zcM host glue N.hosts[i] with
   |false=>
    rw[hb,if_neg (by decide),List.append_nil]at hpk
    refine wf trivial ?_
    repeat refine c_r ?_
    exact⟨rfl,rfl,(vq1 s20),(vq1 s19),(vq1 s18),(vq1 s7),ov,(vq1 s9),by rw[hpk];exact hown2,hEA.trans hE67⟩
   |true=>
    rw[hb,if_pos rfl]at hpk
    refine wt trivial ?_
    repeat refine c_r ?_
    refine rq ?_;intro gd K hgd hK
    try simp (disch:=first|omega|assumption|rfl) only[go_sem,s9]
    refine zcD (z:=vi 0) (by rfl) (by rfl) (by rfl) (by rfl) (by rfl) ?_
    intro A3 hE8 hs8 ho8
    try simp only[go_sem]
    refine zch (B:=w5.heap.size) (hown2.ext hE8) ho8.row (by rfl) (by rfl) (by rfl) (by rfl) (by rfl) (by rfl) ((vr1 s9)) (vr0) (fun q hq=>by rw[List.mem_singleton.1 hq];rfl) (by simp at hlen ⊢;omega) (by decide) (by omega) ?_
    intro ov' A4 ho9 hE9 _ _
    try simp only[go_sem]
    refine hK _ _ ?_;clear hK hgd;clear K;try clear gd
    exact⟨rfl,rfl,(vq1 s20),(vq1 s19),(vq1 s18),(vq1 s7),ov',vr0,by rw[hpk,List.map_append];exact ho9,hE9 _ ((hEA.trans hE67).trans hE8) (Nat.le_refl _)⟩
  clear s20 s19 s18 s7 s9
  rintro _ σ2 _ A3 ⟨rfl,rfl,s20,s19,s18,s7,ov',s9,hown3,hE3⟩
  repeat refine c_r ?_
  refine rg2 s20 hi1' ?_
  repeat refine c_r ?_
  exact⟨m - 1,by omega,rfl,i+1,ov',by omega,vq0,(vq1 s19),(vq1 s18),(vq1 s7),(vq1 s9),hown3,hE3⟩
 ·intro hge
  simp only[decide_eq_false_iff_not]at hge
  rw[List.take_of_length_le (by omega)]at hown
  obtain⟨ao,co,hov,hco,hgo⟩:=hown.row
  rw[hov]at s9
  repeat refine c_r ?_
  refine rc s9 (P_ci.Clip_ok hco) ?_
  rintro _ A1 ⟨rfl,rfl⟩
  refine re trivial ?_
  repeat refine c_r ?_
  refine rt0 Tryz.ntmps205 ?_
  exact⟨hE34.trans hEA,⟨ao,_,rfl,Nat.le_refl _,hgo⟩,((hov▸hown.blk).same).mono hE34.size⟩
end Go.Proofs.YtahbdamijngmmaaGreat
namespace Go.Proofs.YtahbdamijngmmaaGreat.P_st
open Go Go.Proofs.YtahbdamijngmmaaGreat
set_option maxRecDepth 10000
theorem Clip_ok{w:World}{a:Option Addr}{n c:Nat}(hc:n≤c):Fn Tryz.prog 147 #[.slice a n c] w (fun u w'=>u= .slice a n n∧w'=w):=by
 refine enter Tryz.func147 Tryz.ntmps147 rfl rfl ?_
 repeat refine c_r ?_
 refine rg0 ?_
 repeat refine c_r ?_
 refine rq ?_;intro gd K hgd hK
 try simp only[go_sem]
 have hcl:slD Tryz.prog (some (TypeDesc.slice 80)) (Value.slice a n c) Option.none (some (Value.int IntKind.i64 ↑n)) (some (Value.int IntKind.i64 ↑n))=some (.slice a n n):=zeN hc (by rfl)
 rw[hcl]
 try simp only[go_sem]
 refine hK _ _ ?_;clear hK hgd;clear K;try clear gd
 repeat refine c_r ?_
 refine rt0 Tryz.ntmps147 ?_
 exact⟨rfl,rfl⟩
end Go.Proofs.YtahbdamijngmmaaGreat.P_st
namespace Go.Proofs.YtahbdamijngmmaaGreat
open Go
set_option maxRecDepth 10000
structure zaq where
 sv:Int
 name:Nm
 rw:Int
 rf:Int
 ref:Bool
 fin:Int
def stV(nv:Value)(s:zaq):List Value:=[vi s.sv,nv,vi s.rw,vi s.rf,.bool s.ref,vi s.fin]
def StN(nv:Value)(cs:List Value)(s:zaq):Prop:=cs=stV nv s∧one nv=true
theorem zcJ{nv:Value}{s:zaq}(h:one nv=true):∀v∈stV nv s,one v=true:=fun v hv=>by
 unfold stV at hv
 simp at hv
 rcases hv with rfl|rfl|rfl|rfl|rfl|rfl<;>first|assumption|rfl
theorem zco(nv:Value):zeq 6 (StN nv):=⟨fun h=>by rw[h.1];rfl,fun h=>by rw[h.1];exact zcJ h.2⟩
def endS(s:zaq)(k:Int):List zaq:=[{s with fin:=k}]
def zdj(N:NetL)(s:zaq):List zaq:=N.roots.map fun r=>{s with sv:=r}
theorem zis{s x:zaq}{k:Int}(h:x∈endS s k):x.name=s.name:=by
 unfold endS at h;rw[List.mem_singleton.1 h]
def StF(B:Nat)(ok:Value→Prop)(w:World)(v:Value)(L:List zaq):Prop:=BlkB B w v∧∃u,ok u∧Rows 6 (StN u) w v L∧∀s∈L,Row w u (s.name.map vs)
theorem StF.mono{B B':Nat}{ok ok':Value→Prop}{w:World}{v:Value}{L:List zaq}(h:StF B ok w v L)(hB:B'≤B)(hok:∀u,ok u→ok' u):StF B' ok' w v L:=by
 obtain⟨h0,u,h1,h2⟩:=h
 exact⟨h0.mono hB,u,hok u h1,h2⟩
theorem zb6{B:Nat}{nv:Value}{s:zaq}{k:Int}{w:World}{v:Value}(h:Rows 6 (StN nv) w v (endS s k)∧BlkB B w v)(hr:Row w nv (s.name.map vs)):StF B (fun u=>u=nv) w v (endS s k):=
 ⟨h.2,nv,rfl,h.1,fun x hx=>by rw[zis hx];exact hr⟩
theorem zcw(w:World){nv:Value}{l:List Value}(hr:Row w nv l)(s:zaq)(k:Int):
  Fn Tryz.prog 94 #[.agg (stV nv s).toArray,vi k] w (fun v w'=>Ext w w'∧Rows 6 (StN nv) w' v (endS s k)∧BlkB w.heap.size w' v):=by
 have h1:=hr.isOne
 obtain⟨an,cn,hnv,_⟩:=hr
 unfold stV
 rw[hnv]
 refine enter Tryz.func94 Tryz.ntmps94 rfl rfl ?_
 repeat refine c_r ?_
 refine rg0 ?_
 rw[←hnv]
 repeat refine c_r ?_
 refine zaB ?_
 intro w1 hE1 hs1 hA
 refine rq ?_;intro gd K hgd hK
 try simp only[go_sem]
 refine zaR (P:=Tryz.prog) (t:=3) (j:=5) (u:=vi k) (l:=stV nv s) hA (by show 5<6;decide) rfl rfl rfl ?_
 intro w2 hs2 hA2 hk2
 try simp only[go_sem]
 refine hK _ _ ?_;clear hK hgd;clear K;try clear gd
 have hE2:=Keep.to_ext hE1 rfl (fun b hb=>by omega) hk2
 have d:zal w2 (some ⟨w.heap.size,0,Option.none⟩) 6=some (stV nv {s with fin:=k}):=zah hA2 rfl
 repeat refine c_r ?_
 refine rq ?_;intro gd K hgd hK
 try simp (disch:=first|omega|assumption|rfl) only[go_sem,d]
 refine za9 (C:=StN nv) (zco nv) (l:=stV nv {s with fin:=k}) (by rfl) (by rfl) (by rfl) (by rfl) ⟨rfl,h1⟩ (by decide) ?_
 intro w3 hE3 hs3 ho3
 try simp only[go_sem]
 refine hK _ _ ?_;clear hK hgd;clear K;try clear gd
 repeat refine c_r ?_
 refine rt0 Tryz.ntmps94 ?_
 exact⟨hE2.trans hE3,ho3.rows,ho3.blk.mono hE2.size⟩
theorem zii{w0 w:World}(hE0:Ext w0 w){cs:List Value}{N:NetL}(hN:NetAt w0 cs N)(hrl:N.roots.length≤1000){nv:Value}{l:List Value}(hr:Row w nv l)(s:zaq):
  Fn Tryz.prog 92 #[.agg cs.toArray,.agg (stV nv s).toArray] w (fun v w'=>Ext w w'∧Rows 6 (StN nv) w' v (zdj N s)∧BlkB w.heap.size w' v):=by
 have h1:=hr.isOne
 obtain⟨an,cn,hnv,_⟩:=hr
 obtain⟨hv,rv,rfl,hh,hro⟩:=hN.ex
 obtain⟨ah,ch,hhv,_⟩:=hh.open
 obtain⟨ar,cr,rfl,hcr,hgr⟩:=hro
 simp only[List.length_map]at hcr hgr
 unfold stV
 rw[hnv,hhv]
 refine enter Tryz.func92 Tryz.ntmps92 rfl rfl ?_
 repeat refine c_r ?_
 refine rq ?_;intro gd K hgd hK;simp (disch:=first|omega|assumption|rfl) only[go_sem,List.length_map];refine hK _ _ ?_;clear hK hgd;clear K gd
 rw[←hnv,←hhv]
 repeat refine c_r ?_
 rw[zai]
 refine zaM ?_
 intro w1 hE1 hs1 hA hC
 have p1:zae w1 (some ⟨w.heap.size,1,Option.none⟩)=some (.slice ar N.roots.length cr):=zab hA rfl
 repeat refine c_r ?_
 refine rg0 ?_
 repeat refine c_r ?_
 refine rg2 p1 Nat.zero_add ?_
 repeat refine c_r ?_
 obtain⟨b3,hb3⟩:∃b,w.heap.size+1=b:=⟨_,rfl⟩
 rw[hb3]at hC ⊢
 refine zar (fun m σ ds A=>ds=[]∧∃(i:Nat) (ov:Value) (s':zaq),i+m=N.roots.length∧σ 11=vi i∧σ 10=vi N.roots.length∧σ 9= .slice ar N.roots.length cr∧σ 3= .pointer (some ⟨b3,0,Option.none⟩)∧σ 5=ov∧A.heap[b3]? =some (.cells (stV nv s').toArray 80 (0,0))∧(∃k,s'={s with sv:=k})∧
  Owns 6 (StN nv) w1.heap.size A 80 ov ((N.roots.take i).map fun r=>{s with sv:=r})∧Ext w A∧w1.heap.size≤A.heap.size) N.roots.length ?_ ?_
 ·exact⟨rfl,0,.slice Option.none 0 0,s,by omega,vr0,vq0,vq0,vq0,vq0,hC,⟨s.sv,rfl⟩,Owns.nil _ _ _ _ _,hE1,Nat.le_refl _⟩
 rintro m σ ds A ⟨rfl,i,ov,s',him,s11,s10,s9,s3,s5,hB,⟨k0,hs'⟩,hown,hEA,hsz⟩
 repeat refine c_r ?_
 refine rg2 s11 s10 ?_
 repeat refine c_r ?_
 refine wc0 ?_ ?_
 ·intro hlt
  simp only[decide_eq_true_eq]at hlt
  have hi:i<N.roots.length:=by omega
  have hi0:(0:Int)≤(i:Int):=by omega
  have hi1':(i:Int)+1=((i+1:Nat):Int):=by push_cast;rfl
  have hg:=zaa (hE0.trans hEA) (hgr i hi)
  rw[List.getElem_map]at hg
  obtain⟨xz,rfl⟩:=Option.isSome_iff_exists.1 (zag (hgr 0 (by omega)))
  have hszA:=hEA.size
  repeat refine c_r ?_
  refine rq ?_;intro gd K hgd hK;simp (disch:=first|omega|assumption|rfl) only[go_sem,s11,s9,hi0,hlt,hg,Nat.mul_one];refine hK _ _ ?_;clear hK hgd;clear K gd
  repeat refine c_r ?_
  refine rq ?_;intro gd K hgd hK
  try simp (disch:=first|omega|assumption|rfl) only[go_sem,s3]
  refine zaR (P:=Tryz.prog) (t:=3) (j:=0) (u:=vi N.roots[i]) (l:=stV nv s') hB (by show 0<6;decide) rfl rfl rfl ?_
  intro A1 hs6 hB1 hk1
  try simp only[go_sem]
  refine hK _ _ ?_;clear hK hgd;clear K;try clear gd
  have hB1':A1.heap[b3]? =some (.cells (stV nv {s with sv:=N.roots[i]}).toArray 80 (0,0)):=by rw[hs']at hB1;exact hB1
  have hE1':=Keep.to_ext hEA rfl (fun b hb=>by omega) hk1
  have d:zal A1 (some ⟨b3,0,Option.none⟩) 6=some (stV nv {s with sv:=N.roots[i]}):=zah hB1' rfl
  have hown1:=hown.keep hk1 (fun b hb hb2=>by have:=(hown.ge hb).1;omega)
  repeat refine c_r ?_
  refine rq ?_;intro gd K hgd hK
  try simp (disch:=first|omega|assumption|rfl) only[go_sem,s5,s3,d]
  refine za9 (C:=StN nv) (zco nv) (l:=stV nv {s with sv:=N.roots[i]}) (by rfl) (by rfl) (by rfl) (by rfl) ⟨rfl,h1⟩ (by decide) ?_
  intro A2 hE7 hs7 ho7
  try simp only[go_sem]
  refine zaT (zco nv) (hown1.ext hE7) ho7.rows (by rfl) (by rfl) (by rfl) (by rfl) (by rfl) (by rfl) (by decide) ((vr1 s5)) (vr0) (by simp;omega) (by decide) (by omega) ?_
  intro ov' A3 ho8 hE8 hk8 _
  try simp only[go_sem]
  refine hK _ _ ?_;clear hK hgd;clear K;try clear gd
  have hsz3:=hk8.size
  repeat refine c_r ?_
  refine rg2 s11 hi1' ?_
  repeat refine c_r ?_
  refine⟨m - 1,by omega,rfl,i+1,ov',{s with sv:=N.roots[i]},by omega,vq0,(vq1 s10),(vq1 s9),(vq1 s3),vq0,?_,⟨_,rfl⟩,?_,hE8 w (hE1'.trans hE7) (by omega),by omega⟩
  ·refine(hk8.block _ (by omega) (fun hb=>?_)).trans (Ext.at hE7 hB1')
   have:=(hown1.ge hb).1;omega
  ·rw[zan hi,List.map_append];exact ho8
 ·intro hge
  simp only[decide_eq_false_iff_not]at hge
  have hfull:(N.roots.take i).map (fun r=>({s with sv:=r}:zaq))=zdj N s:=by rw[List.take_of_length_le (by omega)];rfl
  rw[hfull]at hown
  obtain⟨ao,co,hov,hco,_⟩:=hown.rows.open
  rw[hov]at s5 hown
  repeat refine c_r ?_
  refine rc s5 (P_st.Clip_ok hco) ?_
  rintro _ A1 ⟨rfl,rfl⟩
  refine re trivial ?_
  repeat refine c_r ?_
  refine rt0 Tryz.ntmps92 ?_
  have:=hown.rows.take (m:=(zdj N s).length) (c2:=(zdj N s).length) (Nat.le_refl _) (Nat.le_refl _)
  rw[List.take_length]at this
  exact⟨hEA,this,hown.blk.same.mono (by have:=hE1.size;omega)⟩
theorem zhq{w0 w:World}(hE0:Ext w0 w){cs:List Value}{N:NetL}(hN:NetAt w0 cs N)(hrl:N.roots.length≤1000){nv:Value}{q:Nm}(hq:Row w nv (q.map vs)):
  Fn Tryz.prog 44 #[.agg cs.toArray,nv] w (fun v w'=>Ext w w'∧StF w.heap.size (fun u=>u=nv) w' v (zdj N ⟨0,q,0,0,false,0⟩)):=by
 have hN0:=hN
 obtain⟨hv,rv,rfl,hh,hr⟩:=hN.ex
 obtain⟨ah,ch,hhv,_⟩:=hh.open
 obtain⟨ar,cr,hrv,_⟩:=id hr
 obtain⟨an,cn,hnv,_⟩:=id hq
 refine enter Tryz.func44 Tryz.ntmps44 rfl rfl ?_
 repeat refine c_r ?_
 rw[hhv,hrv,hnv]
 refine rg0 ?_
 rw[←hhv,←hrv,←hnv]
 repeat refine c_r ?_
 refine zaB ?_
 intro w1 hE1 hs1 hA
 have d:=zah (n:=4) (l:=[hv,rv,vi N.rw,vi N.rf]) hA rfl
 repeat refine c_r ?_
 refine rq ?_;intro gd K hgd hK
 try simp (disch:=first|omega|assumption|rfl) only[go_sem,d]
 refine⟨by kernel_rfl,?_⟩
 rw[hnv,show bdV Tryz.prog 80 [(1,.slice an (q.map vs).length cn)]=some (.agg #[vi 0,.slice an (q.map vs).length cn,vi 0,vi 0,.bool false,vi 0]) from by kernel_rfl,←hnv]
 try simp only[go_sem]
 refine Fn.mono (zii (hE0.trans hE1) hN0 hrl (hq.ext hE1) ⟨0,q,0,0,false,0⟩) ?_
 rintro v w2 ⟨hE2,hrs⟩
 try simp only[go_sem]
 refine hK _ _ ?_;clear hK hgd;clear K;try clear gd
 repeat refine c_r ?_
 refine rt0 Tryz.ntmps44 ?_
 exact⟨hE1.trans hE2,hrs.2.mono hE1.size,nv,rfl,hrs.1,fun s hs=>by
  obtain⟨r,_,rfl⟩:=List.mem_map.1 hs
  exact hq.ext (hE1.trans hE2)⟩
theorem zdO(l:Lab):(za2 l).length=l.length:=by simp[za2]
theorem LB.fold{n:Nm}(h:LB n):LB (zaw n):=fun l hl=>by
 simp only[zaw,List.mem_map]at hl
 obtain⟨m,hm,rfl⟩:=hl
 rw[zdO];exact h m hm
end Go.Proofs.YtahbdamijngmmaaGreat
namespace Go.Proofs.YtahbdamijngmmaaGreat
open Go Go.ChangeShapes Go.WideShapes Go.ChangeAt Go.RowKit Go.WideElems
theorem Ext.below{w x:World}(h:Ext w x):RowKit.Below w.heap.size w x:=⟨h.os,h.tape,h.output,h.size,fun k hk=>h.block k hk (fun h=>h)⟩
theorem Ext.kept{w x:World}(h:Ext w x)(may:MemPlace→Prop):w.keptBut x may:=by
 refine⟨h.os,h.output,fun i hi=>?_⟩
 rw[h.block i hi (fun h=>h)]
 cases hw:w.heap[i]? with
 |none=>trivial
 |some o=>cases o<;>simp
theorem zdx{H:Type}{enc:TypeId×Value→H}{P:Program}(hl:laidOutB P=true){W W':World}{sp:Nat→Bool}(hE:Ext W W'):
  ∀{ts:List TypeId} {vs:List Value} {ds:List (DataW H)} {ps:List MemPlace},(∀t∈ts,P.readableRec t=true∧t<P.types.size)→DataW.TrodAll enc P W 0 (fun _=>true) true ts vs ds ps→(∀x∈ps,x.block<W.heap.size)→(∀x∈ps,sp x.block=true)→
   DataW.TrodAll enc P W' 0 sp true ts vs ds ps
 | [],_,_,_,_,h,_,_=>by
  obtain⟨rfl,rfl,rfl⟩:=trodAll_nil h
  exact trodAll_mk0
 |_::_,_,_,_,ht,h,hlt,hs=>by
  obtain⟨v,vs1,d,ds1,a,b,rfl,rfl,rfl,h1,h2⟩:=trodAll_cons h
  obtain⟨hr,hrow⟩:=ht _ (List.mem_cons_self ..)
  exact trodAll_cons_mk (WideElems.Trod_stays hl hr hrow h1 (fun x hx=>hE.below.same (hlt x (List.mem_append_left _ hx))) (fun x hx=>hs x (List.mem_append_left _ hx)))
   (zdx hl hE (fun t h=>ht t (List.mem_cons_of_mem _ h)) h2 (fun x hx=>hlt x (List.mem_append_right _ hx)) (fun x hx=>hs x (List.mem_append_right _ hx)))
theorem zji{w x:World}(h:Ext w x){b:Nat}(hb:b<w.heap.size)(o:Nat):x.frozen? ⟨b,o,Option.none⟩=w.frozen? ⟨b,o,Option.none⟩:=by
 unfold World.frozen?
 rw[h.block b hb (fun h=>h)]
theorem law_post{H:Type}{enc:TypeId×Value→H}{P:Program}{f:Func}{s:ChangeSpec}{apart fresh handsOn again:Bool}{W W':World}{args:Array Value}{ds gs:List (DataW H)}{before:List MemPlace}
  (hW:DataW.Whole enc P f.params.toList s.vars apart W args.toList ds gs before) (hvn:s.vars=[]) (hspec:s.fn H ds={results:=[.lit (.bool true)],args:=ds}) {tb:TypeId} (hrt:f.resultTypes=#[tb]) (htb:P.underlying tb=some .bool)
  (hl:laidOutB P=true) (hrd:∀t∈f.params.toList,P.readableRec t=true∧t<P.types.size) (hE:Ext W W'):s.post enc P f apart fresh handsOn again W args (.bool true) W':=by
 have hlt:=hW.lt
 have hW0:=hW
 obtain⟨p,q,hA,hV,hpq,hfz,hnd⟩:=hW
 have hq:gs=[]∧q=[]:=by
  rw[hvn]at hV
  cases gs with
  |nil=>exact⟨rfl,hV⟩
  |cons _ _=>exact hV.elim
 obtain⟨rfl,rfl⟩:=hq
 rw[List.append_nil]at hpq
 subst hpq
 have hres:∀(b:Nat) (sp:Nat→Bool) (hd:Bool),DataW.TrodAll enc P W' b sp hd f.resultTypes.toList ((Value.bool true).resultList f.resultTypes.size) (s.fn H (ds++ [])).results []:=fun b sp hd=>by
  rw[List.append_nil,hspec,hrt]
  exact trodAll_mk1 (shut_bool htb true)
 have hargs:∀sp:Nat→Bool,(∀x∈before,sp x.block=true)→DataW.TrodAll enc P W' 0 sp true f.params.toList args.toList (s.fn H (ds++ [])).args before:=fun sp hs=>by
  rw[List.append_nil,hspec]
  exact zdx hl hE hrd hA hlt hs
 have hvars:∀sp:Nat→Bool,DataW.TrodVars enc P W' sp s.vars (s.fn H (ds++ [])).vars []:=fun sp=>by
  rw[List.append_nil,hspec,hvn];rfl
 have hold:∀x∈before,(fun b=>decide (b<W.heap.size)) x.block=true:=fun x hx=>by simpa using hlt x hx
 refine⟨ds,[],before,[],before,[],hW0,hres _ _ _,hargs _ hold,hvars _,hE.kept _,fun _=>?_⟩
 refine⟨fun j t r h1 h2=>?_,_,_,([]++before)++ [],⟨[]++before,[],trodAll_append (hargs _ (fun _ _=>rfl)) (hres _ _ _),hvars _,rfl,?_,?_⟩,?_⟩
 ·rw[hrt]at h1 h2
  match j with
  |0=>
   simp at h1
   subst h1
   have:r= .bool true:=by simpa [Value.resultList] using h2.symm
   subst this
   exact okWide_bool_mk htb true
  |j+1=>simp at h1
 ·intro b off hp
  have hp':MemPlace.cell b off∈before:=by simpa using hp
  rw[zji hE (show b<W.heap.size from hlt _ hp')]
  exact hfz b off hp'
 ·intro ha
  simpa using hnd ha
 ·intro x hx _
  simpa using hx
theorem law_lift{C:Checked}{os:Os}{f:FuncId}{fn:Func}{s:ChangeSpec}{conds:List PathCond}{apart fresh handsOn again:Bool}{H:Type}{enc:TypeId×Value→H}
  (own:ownKnob C.prog.godebug=none) (started:os.Started) (noInit:C.prog.inits.idxOf? f=none) (hfn:C.prog.funcs[f]? =some fn)
  (witness:∃(w:World) (tape:Tape) (i:Input),w.os=os∧(w.forCall tape i).Shaped C.prog∧i.vars=[]∧Input.okWide C.prog (w.forCall tape i) .any w.heap.size f i∧
   s.pre6 enc C.prog fn conds apart (w.forCall tape i).memory i.args∧({}:Assume).holds C.prog (lone (Frame.enter C.prog f i.args .normal) [] (w.forCall tape i)))
  (hvn:s.vars=[]) (hspec:∀ds:List (DataW H),ds.length=fn.params.size→s.fn H ds={results:=[.lit (.bool true)],args:=ds}) {tb:TypeId} (hrt:fn.resultTypes=#[tb]) (htb:C.prog.underlying tb=some .bool)
  (hl:laidOutB C.prog=true) (hrd:fn.params.toList.all (fun t=>C.prog.readableRec t && decide (t<C.prog.types.size))=true)
  (walk:∀(W:World) (base:Nat) (args:List Value) (ds:List (DataW H)) (p:List MemPlace),(∀(j:Nat) t v,fn.params[j]? =some t→args[j]? =some v→Value.okWide C.prog W .any base t v)→
   DataW.TrodAll enc C.prog W 0 (fun _=>true) true fn.params.toList args ds p→(∀x∈DataW.weightsEach C.prog fn.params.toList ds,x≤reachBytes)→Fn C.prog f args.toArray W (fun v W'=>v= .bool true∧Ext W W')):
  ReturnsInHanded {} C os f .any (s.pre6 enc C.prog fn conds apart) (s.post enc C.prog fn apart fresh handsOn again):=by
 refine returnsInHanded_of_change_sized own started noInit hfn witness ?_
 intro W base args ds gs before hval hW _ hwt _
 have hW0:=hW
 obtain⟨p,q,hA,hV,_⟩:=hW
 have hgs:gs=[]:=by
  rw[hvn]at hV
  cases gs with
  |nil=>rfl
  |cons _ _=>exact hV.elim
 subst hgs
 have hvt:s.plain.varTypes C.prog=[]:=by
  unfold DataSpec.varTypes
  rw[show s.plain.vars=[] from hvn];rfl
 rw[hvt,List.append_nil,List.append_nil]at hwt
 have hlen:∀{ts:List TypeId} {vs:List Value} {ds:List (DataW H)} {ps:List MemPlace},DataW.TrodAll enc C.prog W 0 (fun _=>true) true ts vs ds ps→ds.length=ts.length:=by
  intro ts
  induction ts with
  |nil=>intro vs ds ps h;obtain⟨rfl,rfl,rfl⟩:=trodAll_nil h;rfl
  |cons t ts ih=>
   intro vs ds ps h
   obtain⟨v,vs1,d,ds1,a,b,rfl,rfl,rfl,h1,h2⟩:=trodAll_cons h
   simp[ih h2]
 have hw:=walk W base args.toList ds p (fun j t v h1 h2=>hval j t v h1 (by simpa using h2)) hA (fun x hx=>by simpa using (List.all_eq_true.1 hwt) x hx)
 rw[Array.toArray_toList]at hw
 refine Calls.mono (callsIn_wide.1 hw) ?_
 rintro e W' ⟨v,rfl,rfl,hE⟩
 refine⟨_,rfl,law_post hW0 hvn (hspec ds (by rw[hlen hA];simp)) hrt htb hl (fun t ht=>?_) hE⟩
 have:=(List.all_eq_true.1 hrd) t ht
 simpa using this
/-! arguments -/
section
variable {H : Type} {enc : TypeId × Value → H} {P : Program} {w : World} {base : Nat} {sp : Nat → Bool} {held : Bool}
def Rd(enc:TypeId×Value→H)(P:Program)(w:World)(base:Nat)(sp:Nat→Bool)(held:Bool)(t:TypeId)(v:Value):Prop:=∃n x,DataW.trod enc P w base sp held n t [v]=some x∧∀k∈x.1.weights P t,k≤reachBytes
theorem zcn{e:TypeId}{d:DataW H}{k:Nat}:∀{l:List (DataW H)},d∈l→k∈d.weights P e→k∈DataW.weightsAll P e l
 |a::l,hd,hk=>by
  simp only[DataW.weightsAll,List.mem_append]
  rcases List.mem_cons.1 hd with rfl|hd
  ·exact .inl hk
  ·exact .inr (zcn hd hk)
theorem zfZ{t e:TypeId}{v:Value}(h:Rd enc P w base sp held t v)(ht:P.underlying t=some (.slice e))(hc:P.cellsOf e=1):
  ∃vals,Row w v vals∧(∀u∈vals,Rd enc P w base sp held e u)∧vals.length*P.bytesOf e≤reachBytes:=by
 obtain⟨n,x,h,hw⟩:=h
 rcases Go.Deep.open_slice1 ht hc h with ⟨h1,_⟩| ⟨a,len,cap,m,k,V,D,Pl,h1,_,hl,hm,hmm,rfl,hx⟩
 ·simp only[List.cons.injEq,and_true]at h1
  subst h1
  exact⟨[],⟨Option.none,0,rfl,Nat.le_refl _,fun j h=>by simp at h⟩,fun u h=>(by cases h),by simp⟩
 ·simp only[List.cons.injEq,and_true]at h1
  subst h1
  have hml:len≤m:=by rw[hmm];split<;>omega
  simp only[DataW.weights,ht]at hw
  refine⟨(List.range len).map V,⟨some a,cap,by simp,by simpa using hl,fun j hj=>?_⟩,fun u hu=>?_,?_⟩
  ·simp at hj
   have:=(hx j (by omega)).1
   simpa [zae,adr] using this
  ·obtain⟨j,hj,rfl⟩:=List.mem_map.1 hu
   simp at hj
   refine⟨_,_,(hx j (by omega)).2,fun q hq=>hw q (List.mem_cons_of_mem _ (List.mem_append_left _ (zcn (d:=D j) ?_ hq)))⟩
   exact List.mem_map.2 ⟨j,by simpa using hj,rfl⟩
  ·have h1:=hw _ (List.mem_cons_self ..)
   have h2:((List.range len).map V).length*P.bytesOf e≤(((List.range len).map D).length+((List.range (m - len)).map fun j=>D (len+j)).length)*P.bytesOf e:=Nat.mul_le_mul (by simp) (Nat.le_refl _)
   omega
theorem zj7{t:TypeId}{v:Value}(h:Rd enc P w base sp held t v)(ht:P.underlying t=some .string):∃s:List UInt8,v=vs s∧s.length≤reachBytes:=by
 obtain⟨n,x,h,hw⟩:=h
 cases n with
 |zero=>cases h
 |succ n=>
  unfold DataW.trod at h
  rw[ht]at h
  cases v<;>simp at h
  rename_i s
  obtain⟨_,rfl⟩:=h
  exact⟨s.data.toList,by simp[vs],by simpa [DataW.weights,ByteArray.toList_eq] using hw⟩
theorem zi4{t:TypeId}{v:Value}{d:DataW H}{p:List MemPlace}{ts:List TypeId}{ds:List (DataW H)}(h:DataW.Trod enc P w base sp held t v d p)(hv:v.cells.toList=[v])
  (hw:∀x∈DataW.weightsEach P ts ds,x≤reachBytes) {j:Nat} (ht:ts[j]? =some t) (hd:ds[j]? =some d):Rd enc P w base sp held t v:=by
 obtain⟨n,h⟩:=h
 rw[hv]at h
 exact⟨n,_,h,fun k hk=>hw k (DataW.weights_mem_each ht hd k hk)⟩
theorem zhR{α β:Type}{f:α→β}{Q:α→Prop}:∀{l:List β},(∀u∈l,∃s,u=f s∧Q s)→∃m:List α,l=m.map f∧∀s∈m,Q s
 | [],_=>⟨[],rfl,fun s h=>by cases h⟩
 |b::l,h=>by
  obtain⟨s,rfl,hq⟩:=h b (List.mem_cons_self ..)
  obtain⟨m,rfl,hm⟩:=zhR (fun u hu=>h u (List.mem_cons_of_mem _ hu))
  refine⟨s::m,rfl,fun x hx=>?_⟩
  rcases List.mem_cons.1 hx with rfl|hx
  ·exact hq
  ·exact hm x hx
end
end Go.Proofs.YtahbdamijngmmaaGreat
namespace Go.Proofs.YtahbdamijngmmaaGreat
open Go
section
variable {H : Type} {enc : TypeId × Value → H} {P : Program} {w : World} {base : Nat} {sp : Nat → Bool} {held : Bool}
structure NmOk(n:Nm):Prop where
 lb:LB n
 len:n.length≤8796093022207
theorem reach_lt:reachBytes<140737488355328:=by decide
theorem zd0{t e:TypeId}{v:Value}(h:Rd enc P w base sp held t v)(ht:P.underlying t=some (.slice e))(hc:P.cellsOf e=1)(he:P.underlying e=some .string)(hb:P.bytesOf e=16):∃n:Nm,Row w v (n.map vs)∧NmOk n:=by
 obtain⟨vals,hr,hall,hl⟩:=zfZ h ht hc
 obtain⟨m,rfl,hm⟩:=zhR (f:=vs) (fun u hu=>zj7 (hall u hu) he)
 have:=reach_lt
 rw[hb]at hl
 exact⟨m,hr,fun l hl=>by have:=hm l hl;omega,by simp at hl;omega⟩
theorem rd_names{t ts tb:TypeId}{v:Value}(h:Rd enc P w base sp held t v)(ht:P.underlying t=some (.slice ts))(hc:P.cellsOf ts=1)(ht2:P.underlying ts=some (.slice tb))(hc2:P.cellsOf tb=1)(he:P.underlying tb=some .string)(hb:P.bytesOf tb=16):
  ∃L:List Nm,NamesAt w v L∧∀n∈L,NmOk n:=by
 obtain⟨vals,hr,hall,hlen0⟩:=zfZ h ht hc
 have:∃L:List Nm,(vals.length=L.length∧∀i (h:i<vals.length) (h':i<L.length),Row w vals[i] (L[i].map vs))∧∀n∈L,NmOk n:=by
  clear hr h hlen0
  induction vals with
  |nil=>exact⟨[],⟨rfl,fun i h=>by simp at h⟩,fun n h=>by cases h⟩
  |cons u vals ih=>
   obtain⟨n,hn,hok⟩:=zd0 (hall u (List.mem_cons_self ..)) ht2 hc2 he hb
   obtain⟨L,⟨h1,h2⟩,h3⟩:=ih (fun x hx=>hall x (List.mem_cons_of_mem _ hx))
   refine⟨n::L,⟨by simp[h1],fun i a b=>?_⟩,fun x hx=>?_⟩
   ·cases i with
    |zero=>exact hn
    |succ i=>exact h2 i (by simpa using a) (by simpa using b)
   ·rcases List.mem_cons.1 hx with rfl|hx
    ·exact hok
    ·exact h3 x hx
 obtain⟨L,⟨h1,h2⟩,h3⟩:=this
 exact⟨L,⟨vals,hr,h1,h2⟩,h3⟩
end
end Go.Proofs.YtahbdamijngmmaaGreat
