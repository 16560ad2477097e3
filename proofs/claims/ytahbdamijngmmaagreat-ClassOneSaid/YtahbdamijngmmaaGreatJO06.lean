/-
  Texts of a proof, joined: F7, F8, F9, G0, G1, G2, G3, G4, G5, K27, W0, W1, W2, Y3, M6ed, M6eg, F0, F1, G6, G7, V0, K25, V1, K28, V2, V3, V4, M5ci, V5, M5st, V6, V7, V8, V9, VA, Y6, VB, VC.
  Conditions: none.
-/
import Derived.Test.YtahbdamijngmmaaGreatJO05
import Derived.Test.YtahbdamijngmmaaGreatJO02
import Derived.Test.YtahbdamijngmmaaGreatJO01
import Derived.Test.YtahbdamijngmmaaGreatJO04
set_option linter.unusedVariables false
set_option linter.unusedSimpArgs false
set_option linter.defProp false
set_option linter.unnecessarySimpa false
set_option maxHeartbeats 8000000
namespace Go.Proofs.YtahbdamijngmmaaGreat
open Go
set_option maxRecDepth 10000
theorem zks{w0 w:World}(hE0:Ext w0 w){ov lv:Value}{o:Nm}{R:List RecL}(ho:Row w ov (o.map vs))(hl:Rows 7 (RecAt w0) w lv R)(hok:∀r∈R,zcw r)(hlen:R.length≤1000000000):
  Fn Tryz.prog 111 #[ov,lv] w (fun v w'=>Ext w w'∧∃cv,v= .agg #[ov,cv]∧Rows 7 (RecAt w0) w' cv (zbB R)):=by
 obtain⟨ao,co,hov,_⟩:=id ho
 obtain⟨no,hno⟩:∃no,(o.map vs).length=no:=⟨_,rfl⟩
 rw[hno]at hov
 refine enter Tryz.func111 Tryz.ntmps111 rfl rfl ?_
 repeat refine c_r ?_
 refine rg0 ?_
 repeat refine c_r ?_
 refine zaM ?_
 intro w1 hE1 hs1 hA
 refine rq ?_;intro gd K hgd hK
 try simp only[go_sem]
 refine Fn.mono (Canon_ok w0 w1 (hE0.trans hE1) (hl.ext hE1) hok hlen) ?_
 rintro cv w2 ⟨hcv,hE2,hcb⟩
 obtain⟨ac,cc,hcve,_⟩:=hcv.open
 try simp only[go_sem]
 refine⟨by kernel_rfl,?_⟩
 rw[hov,hcve,show bdV Tryz.prog 122 [(0,.slice ao no co),(1,.slice ac (zbB R).length cc)]=some (.agg #[.slice ao no co,.slice ac (zbB R).length cc]) from by kernel_rfl]
 try simp only[go_sem]
 refine zbQ (P:=Tryz.prog) (t:=122) (l:=[.slice ao no co,.slice ac (zbB R).length cc]) (Ext.at hE2 hA) rfl (fun v h=>by simp at h;rcases h with rfl|rfl<;>rfl) rfl rfl ?_
 intro z hz' hbz hkz
 try simp only[go_sem]
 refine hK _ _ ?_;clear hK hgd;clear K;try clear gd
 repeat refine c_r ?_
 refine zaA (.inr rfl) Tryz.ntmps111 rfl (zcB (x:=⟨w.heap.size,0,Option.none⟩) (k:=2) (vq0) rfl rfl (zay hbz rfl) zaz) ?_
 refine⟨Keep.to_ext (hE1.trans hE2) rfl (fun b hb=>by omega) hkz,.slice ac (zbB R).length cc,by rw[hov];rfl,?_⟩
 rw[←hcve]
 exact hcv.keep hkz hcb (fun b hb _=>by omega)
theorem RZNew_ok{w0 w:World}(hE0:Ext w0 w){ov lv:Value}{o:Nm}{R:List RecL}(ho:Row w ov (o.map vs))(hl:Rows 7 (RecAt w0) w lv R)(hok:∀r∈R,zcw r)(hlen:R.length≤1000000000):
  Fn Tryz.prog 65 #[ov,lv] w (fun v w'=>Ext w w'∧∃cv,v= .agg #[ov,cv]∧Rows 7 (RecAt w0) w' cv (zbB R)):=by
 obtain⟨ao,co,hov,_⟩:=id ho
 obtain⟨no,hno⟩:∃no,(o.map vs).length=no:=⟨_,rfl⟩
 rw[hno]at hov
 refine enter Tryz.func65 Tryz.ntmps65 rfl rfl ?_
 repeat refine c_r ?_
 refine rg0 ?_
 repeat refine c_r ?_
 refine zaM ?_
 intro w1 hE1 hs1 hA
 refine rq ?_;intro gd K hgd hK
 try simp only[go_sem]
 refine Fn.mono (zkC w0 w1 (hE0.trans hE1) (hl.ext hE1) hok hlen) ?_
 rintro cv w2 ⟨hcv,hE2⟩
 obtain⟨ac,cc,hcve,_⟩:=hcv.rows.open
 try simp only[go_sem]
 refine⟨by kernel_rfl,?_⟩
 rw[hov,hcve,show bdV Tryz.prog 128 [(0,.slice ao no co),(1,.slice ac (zbB R).length cc)]=some (.agg #[.slice ao no co,.slice ac (zbB R).length cc]) from by kernel_rfl]
 try simp only[go_sem]
 refine zbQ (P:=Tryz.prog) (t:=128) (l:=[.slice ao no co,.slice ac (zbB R).length cc]) (Ext.at hE2 hA) rfl (fun v h=>by simp at h;rcases h with rfl|rfl<;>rfl) rfl rfl ?_
 intro z hz' hbz hkz
 try simp only[go_sem]
 refine hK _ _ ?_;clear hK hgd;clear K;try clear gd
 repeat refine c_r ?_
 refine zaA (.inr rfl) Tryz.ntmps65 rfl (zcB (x:=⟨w.heap.size,0,Option.none⟩) (k:=2) (vq0) rfl rfl (zay hbz rfl) zaz) ?_
 refine⟨Keep.to_ext (hE1.trans hE2) rfl (fun b hb=>by omega) hkz,.slice ac (zbB R).length cc,by rw[hov];rfl,?_⟩
 rw[←hcve]
 exact hcv.rows.keep hkz hcv.blk (fun b hb _=>by omega)
def zeW(n:Nm):Bool:=few n && decide (zaH n=0)
theorem zbA{n:Nm}(h:zaH n=0):∀l∈n,l≠ []∧l.length≤63:=by
 intro l hl
 unfold zaH at h
 cases hf:n.find? (fun l=>decide (errL l≠0)) with
 |some x=>
  rw[hf]at h
  have:=List.find?_some hf
  simp only[decide_eq_true_eq]at this
  exact absurd h this
 |none=>
  have:=List.find?_eq_none.1 hf l hl
  simp only[decide_eq_true_eq,Decidable.not_not]at this
  unfold errL at this
  split at this
  ·cases this
  ·rename_i h0
   refine⟨h0,?_⟩
   split at this
   ·cases this
   ·omega
theorem sum_ge:∀n:Nm,n.length≤(n.map fun l=>1+l.length).sum
 | []=>Nat.zero_le _
 |a::n=>by
  have ih:=sum_ge n
  rw[List.map_cons,List.sum_cons]
  have e:(a::n).length=n.length+1:=rfl
  omega
theorem zd9{n:Nm}(h:zaH n=0):n.length≤255:=by
 have hl:=zbA h
 unfold zaH at h
 split at h
 ·rename_i x hf
  have:=List.find?_some hf
  simp only[decide_eq_true_eq]at this
  exact absurd h this
 ·split at h
  ·cases h
  ·rename_i h2
   unfold lenN at h2
   have:=sum_ge n
   omega
theorem checkN_g{n:Nm}(h:zaH n=0):NmG n:=
 ⟨fun l hl=>(zbA h l hl).1,fun l hl=>by have:=(zbA h l hl).2;omega,by have:=zd9 h;omega⟩
theorem zhi{n:Nm}(h:zeW n=true):NmG n:=by
 unfold zeW at h
 simp only[Bool.and_eq_true,decide_eq_true_eq]at h
 exact checkN_g h.2
theorem zii(w:World)(a:Value)(xs:Nm)(ha:Row w a (xs.map vs)):
  Fn Tryz.prog 17 #[a] w (fun v w'=>v= .bool (zeW xs)∧Ext w w'):=by
 refine enter Tryz.func17 Tryz.ntmps17 rfl rfl ?_
 repeat refine c_r ?_
 refine rg0 ?_
 repeat refine c_r ?_
 cases hf:few xs with
 |true=>
  refine rq ?_;intro gd K hgd hK
  have hg2:∀n σ b,zas gd n σ (some (2,b))=zaj (ev n σ (.tmp 5)) b:=(fun n σ b=>by rw[zab,show gd 2=some 5 from(by rw[hgd];rfl)];rfl)
  try simp only[go_sem]
  refine Fn.mono (zgX w a xs ha) ?_
  rintro _ w1 ⟨rfl,hE1⟩
  rw[hf]
  try simp (disch:=first|omega|assumption|rfl) only[go_sem,↓hg2]
  refine Fn.mono (zbh w1 a xs (ha.ext hE1) (fun l hl=>by
   have:=few_lb hf l hl
   simp only[few,Bool.and_eq_true,List.all_eq_true,decide_eq_true_eq]at hf
   have:=hf.2 l hl
   omega) (by have:=few_len hf;omega)) ?_
  rintro _ w2 ⟨rfl,hE2⟩
  try simp (disch:=first|omega|assumption|rfl) only[go_sem,↓hg2]
  refine hK _ _ ?_;clear hK hgd;clear K;try clear gd
  repeat refine c_r ?_
  refine rt0 Tryz.ntmps17 ?_
  refine⟨?_,hE1.trans hE2⟩
  unfold zeW
  rw[hf,Bool.true_and]
 |false=>
  refine rq ?_;intro gd K hgd hK
  have hg2:∀n σ b,zas gd n σ (some (2,b))=zaj (ev n σ (.tmp 5)) b:=(fun n σ b=>by rw[zab,show gd 2=some 5 from(by rw[hgd];rfl)];rfl)
  try simp only[go_sem]
  refine Fn.mono (zgX w a xs ha) ?_
  rintro _ w1 ⟨rfl,hE1⟩
  rw[hf]
  try simp (disch:=first|omega|assumption|rfl) only[go_sem,↓hg2]
  refine hK _ _ ?_;clear hK hgd;clear K;try clear gd
  repeat refine c_r ?_
  refine rt0 Tryz.ntmps17 ?_
  refine⟨?_,hE1⟩
  unfold zeW
  rw[hf,Bool.false_and]
theorem zkK(w:World)(t:Int):
  Fn Tryz.prog 264 #[vi t] w (fun v w'=>w'=w∧∃a b c:Int,v= .tuple #[vi a,vi b,vi c]∧((t=2∨t=5∨t=39)→a=1)∧(t=15→b=1)):=by
 refine enter Tryz.func264 Tryz.ntmps264 rfl rfl ?_
 repeat refine c_r ?_
 refine rg0 ?_
 repeat refine c_r ?_
 refine rg0 ?_
 repeat refine c_r ?_
 refine rg0 ?_
 repeat refine c_r ?_
 refine wc0 ?_ ?_
 ·intro h1
  simp only[decide_eq_true_eq]at h1
  repeat (first|refine c_r ?_|refine rg0 ?_)
  refine zaA (.inr rfl) Tryz.ntmps264 rfl (zal (vr0) (zal (vr0) (zal (vr0) zaz))) ?_
  exact⟨rfl,0,0,4,rfl,by omega,by omega⟩
 intro h1
 simp only[decide_eq_false_iff_not]at h1
 repeat refine c_r ?_
 refine rg0 ?_
 repeat refine c_r ?_
 refine wc0 ?_ ?_
 ·intro h2
  simp only[decide_eq_true_eq]at h2
  repeat (first|refine c_r ?_|refine rg0 ?_)
  refine zaA (.inr rfl) Tryz.ntmps264 rfl (zal (vr0) (zal (vr0) (zal (vr0) zaz))) ?_
  exact⟨rfl,0,0,16,rfl,by omega,by omega⟩
 intro h2
 simp only[decide_eq_false_iff_not]at h2
 refine zgN ?_
 refine zax (Q:=fun e σ' ds' v'=>e= .normal∧ds'=[]∧v'=w∧σ' 5=vi t∧∃bb,σ' 10= .bool bb∧bb=(decide (t=2)|| (decide (t=5)|| (decide (t=12)||decide (t=39))))) ?_ ?_
 ·refine zgN ?_
  refine rg0 ?_
  refine zaC ?_
  refine wc0 ?_ ?_
  ·intro h
   repeat refine c_r ?_
   exact⟨rfl,rfl,rfl,vq0,true,by simp only[go_sem];rw[h],by rw[h];rfl⟩
  intro e1
  refine zgN ?_
  refine rg0 ?_
  refine zaC ?_
  refine wc0 ?_ ?_
  ·intro h
   repeat refine c_r ?_
   exact⟨rfl,rfl,rfl,vq0,true,by simp only[go_sem];rw[h],by rw[e1,h];rfl⟩
  intro e2
  refine zgN ?_
  refine rg0 ?_
  refine zaC ?_
  refine wc0 ?_ ?_
  ·intro h
   repeat refine c_r ?_
   exact⟨rfl,rfl,rfl,vq0,true,by simp only[go_sem];rw[h],by rw[e1,e2,h];rfl⟩
  intro e3
  refine rg0 ?_
  exact⟨rfl,rfl,rfl,vq0,decide (t=39),vr0,by rw[e1,e2,e3];rfl⟩
 rintro _ σ1 _ v1 ⟨rfl,rfl,hv1,h5,bb,h10,hbb⟩
 rw[hv1]
 clear hv1 v1
 repeat refine c_r ?_
 refine zaO (t:=bb) ((vq1 h10)) ?_ ?_
 ·intro ht
  rw[ht]at hbb
  repeat (first|refine c_r ?_|refine rg0 ?_)
  refine zaA (.inr rfl) Tryz.ntmps264 rfl (zal (vr0) (zal (vr0) (zal (vr0) zaz))) ?_
  refine⟨rfl,1,0,0,rfl,fun _=>rfl,fun h=>?_⟩
  subst h
  cases hbb
 intro ht
 rw[ht]at hbb
 have hno:¬(t=2∨t=5∨t=39):=by
  rintro(rfl|rfl|rfl)<;>cases hbb
 repeat refine c_r ?_
 refine rg1 h5 ?_
 repeat refine c_r ?_
 refine wc0 ?_ ?_
 ·intro h3
  repeat (first|refine c_r ?_|refine rg0 ?_)
  refine zaA (.inr rfl) Tryz.ntmps264 rfl (zal (vr0) (zal (vr0) (zal (vr0) zaz))) ?_
  exact⟨rfl,1,1,0,rfl,fun _=>rfl,fun _=>rfl⟩
 intro h3
 simp only[decide_eq_false_iff_not]at h3
 repeat refine c_r ?_
 refine rg1 h5 ?_
 repeat refine c_r ?_
 refine wc0 ?_ ?_
 ·intro h4
  repeat (first|refine c_r ?_|refine rg0 ?_)
  refine zaA (.inr rfl) Tryz.ntmps264 rfl (zal (vr0) (zal (vr0) (zal (vr0) zaz))) ?_
  exact⟨rfl,2,5,0,rfl,fun h=>absurd h hno,fun h=>absurd h h3⟩
 intro h4
 repeat refine c_r ?_
 refine rg1 h5 ?_
 repeat refine c_r ?_
 refine wc0 ?_ ?_
 ·intro h6
  repeat (first|refine c_r ?_|refine rg0 ?_)
  refine zaA (.inr rfl) Tryz.ntmps264 rfl (zal (vr0) (zal (vr0) (zal (vr0) zaz))) ?_
  exact⟨rfl,0,0,0,rfl,fun h=>absurd h hno,fun h=>absurd h h3⟩
 intro h6
 repeat (first|refine c_r ?_|refine rg0 ?_)
 refine zaA (.inr rfl) Tryz.ntmps264 rfl (zal (vr0) (zal (vr0) (zal (vr0) zaz))) ?_
 exact⟨rfl,0,0, -1,rfl,fun h=>absurd h hno,fun h=>absurd h h3⟩
theorem zbO(b:Bool):zaj undef b=false:=nr rfl
structure DatF(d:DatL):Prop where
 names:∀n∈d.names,(∀l∈n,l.length≤1000000000)∧n.length≤1000000000
 nn:d.names.length≤1000000000
 nu:d.nums.length≤1000000000
 nt:d.texts.length≤1000000000
 tl:∀l∈d.texts,l.length≤1000000000
 nr:d.raw.length≤1000000000
 n8:d.names.length≤8
def zfS(t:Int):Prop:=t=2∨t=5∨t=39
theorem zf6{w0 w:World}(hE0:Ext w0 w){cs:List Value}{d:DatL}(hd:DatAt w0 cs d)(hf:DatF d):
  Fn Tryz.prog 218 #[.agg cs.toArray] w (fun v w'=>Ext w w'∧∃e:Int,v=vi e∧(e=0→(∀n∈d.names,zaH n=0)∧(zfS d.ty→d.names.length=1))):=by
 obtain⟨nm,nu,tx,rw',rfl,⟨vals,⟨an,cn,rfl,hcn,hgn⟩,hvl,hvr⟩,⟨au,cu,rfl,hcu,hgu⟩,⟨at1,ct,rfl,hct,hgt⟩,⟨ar,cr,rfl,hcr,hgr⟩⟩:=hd.ex
 simp only[List.length_map]at hcu hgu hct hgt hcr hgr
 simp only[List.length_map]
 obtain⟨L,hL⟩:∃L:List Value,[vi d.ty,.slice an vals.length cn,.slice au d.nums.length cu,.slice at1 d.texts.length ct,.slice ar d.raw.length cr]=L:=⟨_,rfl⟩
 refine enter Tryz.func218 Tryz.ntmps218 rfl rfl ?_
 repeat refine c_r ?_
 refine rg0 ?_
 repeat refine c_r ?_
 refine zaM ?_
 intro w1 hE1 hs1 hA
 have p0:zah w1 (some ⟨w.heap.size,0,Option.none⟩)=some (vi d.ty):=zac hA rfl
 have p1:zah w1 (some ⟨w.heap.size,1,Option.none⟩)=some (.slice an vals.length cn):=zac hA rfl
 have p2:zah w1 (some ⟨w.heap.size,2,Option.none⟩)=some (.slice au d.nums.length cu):=zac hA rfl
 have p3:zah w1 (some ⟨w.heap.size,3,Option.none⟩)=some (.slice at1 d.texts.length ct):=zac hA rfl
 have p4:zah w1 (some ⟨w.heap.size,4,Option.none⟩)=some (.slice ar d.raw.length cr):=zac hA rfl
 have nn:=hf.nn
 have nu:=hf.nu
 have nt:=hf.nt
 have nr:=hf.nr
 have rd:∀{x},Ext w1 x→zah x (some ⟨w.heap.size,1,Option.none⟩)=some (.slice an vals.length cn)∧zah x (some ⟨w.heap.size,3,Option.none⟩)=some (.slice at1 d.texts.length ct)∧zah x (some ⟨w.heap.size,0,Option.none⟩)=some (vi d.ty)∧zah x (some ⟨w.heap.size,2,Option.none⟩)=some (.slice au d.nums.length cu)∧zah x (some ⟨w.heap.size,4,Option.none⟩)=some (.slice ar d.raw.length cr):=
  fun hx=>⟨zaa hx p1,zaa hx p3,zaa hx p0,zaa hx p2,zaa hx p4⟩
 refine zax (Q:=fun e σ' ds' v'=>e= .normal∧ds'=[]∧σ' 1= .pointer (some ⟨w.heap.size,0,Option.none⟩)∧v'=w1∧∃bb,σ' 17= .bool bb) ?_ ?_
 ·by_cases h1:d.ty<1
  ·refine rq ?_;intro gd K hgd hK
   have hg3:∀n σ b,zas gd n σ (some (3,b))=zaj (ev n σ (.tmp 13)) b:=(fun n σ b=>by rw[zab,show gd 3=some 13 from(by rw[hgd];rfl)];rfl)
   try simp (disch:=first|omega|assumption|rfl) only[go_sem,p0,Nat.add_zero,decide_eq_true h1,↓hg3]
   refine hK _ _ ?_;clear hK hgd;clear K;try clear gd
   exact⟨rfl,rfl,vq0,rfl,_,vr0⟩
  ·refine rq ?_;intro gd K hgd hK
   have hg3:∀n σ b,zas gd n σ (some (3,b))=zaj (ev n σ (.tmp 13)) b:=(fun n σ b=>by rw[zab,show gd 3=some 13 from(by rw[hgd];rfl)];rfl)
   try simp (disch:=first|omega|assumption|rfl) only[go_sem,p0,Nat.add_zero,decide_eq_false h1,↓hg3]
   refine hK _ _ ?_;clear hK hgd;clear K;try clear gd
   exact⟨rfl,rfl,vq0,rfl,_,vr0⟩
 rintro _ σ1 _ v1 ⟨rfl,rfl,h1,hv1,bb,h17⟩
 rw[hv1]
 clear hv1 v1
 repeat refine c_r ?_
 refine zaO (t:=bb) ((vq1 h17)) ?_ ?_
 ·intro _
  repeat (first|refine c_r ?_|refine rg0 ?_)
  refine rt0 Tryz.ntmps218 ?_
  exact⟨hE1,6,rfl,fun h=>by cases h⟩
 intro _
 repeat refine c_r ?_
 refine rq ?_;intro gd K hgd hK
 try simp (disch:=first|omega|assumption|rfl) only[go_sem,h1,p0,Nat.add_zero]
 refine Fn.mono (zkK w1 d.ty) ?_
 rintro _ w2 ⟨hw2,a,b,c,rfl,hca,hcb⟩
 rw[hw2]
 clear hw2 w2
 try simp only[go_sem]
 refine hK _ _ ?_;clear hK hgd;clear K;try clear gd
 repeat refine c_r ?_
 refine rg3 h1 p3 Nat.zero_add ?_
 repeat refine c_r ?_
 refine rg3 h1 p0 Nat.add_zero ?_
 repeat refine c_r ?_
 refine zax (Q:=fun e σ' ds' v'=>e= .normal∧ds'=[]∧σ' 1= .pointer (some ⟨w.heap.size,0,Option.none⟩)∧σ' 3=vi a∧σ' 4=vi b∧σ' 5=vi c∧v'=w1∧∃bb,σ' 6= .bool bb) ?_ ?_
 ·refine wc0 ?_ ?_
  ·intro h16
   repeat refine c_r ?_
   by_cases h2:(d.texts.length:Int)≥1
   ·refine rq ?_;intro gd K hgd hK
    have hg4:∀n σ b,zas gd n σ (some (4,b))=zaj (ev n σ (.tmp 36)) b:=(fun n σ b=>by rw[zab,show gd 4=some 36 from(by rw[hgd];rfl)];rfl)
    try simp (disch:=first|omega|assumption|rfl) only[go_sem,h1,p3,Nat.zero_add,decide_eq_true h2,↓hg4]
    refine hK _ _ ?_;clear hK hgd;clear K;try clear gd
    exact⟨rfl,rfl,(vq1 h1),vq0,vq0,vq0,rfl,_,vr0⟩
   ·refine rq ?_;intro gd K hgd hK
    have hg4:∀n σ b,zas gd n σ (some (4,b))=zaj (ev n σ (.tmp 36)) b:=(fun n σ b=>by rw[zab,show gd 4=some 36 from(by rw[hgd];rfl)];rfl)
    try simp (disch:=first|omega|assumption|rfl) only[go_sem,h1,p3,Nat.zero_add,decide_eq_false h2,↓hg4]
    refine hK _ _ ?_;clear hK hgd;clear K;try clear gd
    exact⟨rfl,rfl,(vq1 h1),vq0,vq0,vq0,rfl,_,vr0⟩
  ·intro h16
   repeat refine c_r ?_
   exact⟨rfl,rfl,(vq1 h1),vq0,vq0,vq0,rfl,_,vr0⟩
 clear h1
 rintro _ σ2 _ v1 ⟨rfl,rfl,h1,h3,h4,h5,hv1,b6,h6⟩
 rw[hv1]
 clear hv1 v1
 repeat refine c_r ?_
 refine zax (Q:=fun e σ' ds' v'=>e= .normal∧ds'=[]∧σ' 1= .pointer (some ⟨w.heap.size,0,Option.none⟩)∧v'=w1∧∃bb,σ' 68= .bool bb∧(bb=false→(vals.length:Int)=a∧(d.nums.length:Int)=b)) ?_ ?_
 ·by_cases hA:(vals.length:Int)=a
  rotate_left
  ·refine rq ?_;intro gd K hgd hK
   have hg5:∀n σ b,zas gd n σ (some (5,b))=zaj (ev n σ (.tmp 47)) b:=(fun n σ b=>by rw[zab,show gd 5=some 47 from(by rw[hgd];rfl)];rfl);have hg12:∀n σ b,zas gd n σ (some (12,b))=zaj (ev n σ (.tmp 54)) b:=(fun n σ b=>by rw[zab,show gd 12=some 54 from(by rw[hgd];rfl)];rfl);have hg15:∀n σ b,zas gd n σ (some (15,b))=zaj (ev n σ (.tmp 57)) b:=(fun n σ b=>by rw[zab,show gd 15=some 57 from(by rw[hgd];rfl)];rfl);have hg23:∀n σ b,zas gd n σ (some (23,b))=zaj (ev n σ (.tmp 65)) b:=(fun n σ b=>by rw[zab,show gd 23=some 65 from(by rw[hgd];rfl)];rfl)
   try simp (disch:=first|omega|assumption|rfl) only[go_sem,h1,h3,h4,h5,h6,p1,p2,p4,Nat.zero_add,decide_eq_false hA,Bool.not_true,Bool.not_false,zbO,↓hg5,↓hg12,↓hg15,↓hg23]
   refine hK _ _ ?_;clear hK hgd;clear K;try clear gd
   exact⟨rfl,rfl,(vq1 h1),rfl,_,vr0,fun h=>by cases h⟩
  by_cases hB:(d.nums.length:Int)=b
  rotate_left
  ·refine rq ?_;intro gd K hgd hK
   have hg5:∀n σ b,zas gd n σ (some (5,b))=zaj (ev n σ (.tmp 47)) b:=(fun n σ b=>by rw[zab,show gd 5=some 47 from(by rw[hgd];rfl)];rfl);have hg12:∀n σ b,zas gd n σ (some (12,b))=zaj (ev n σ (.tmp 54)) b:=(fun n σ b=>by rw[zab,show gd 12=some 54 from(by rw[hgd];rfl)];rfl);have hg15:∀n σ b,zas gd n σ (some (15,b))=zaj (ev n σ (.tmp 57)) b:=(fun n σ b=>by rw[zab,show gd 15=some 57 from(by rw[hgd];rfl)];rfl);have hg23:∀n σ b,zas gd n σ (some (23,b))=zaj (ev n σ (.tmp 65)) b:=(fun n σ b=>by rw[zab,show gd 23=some 65 from(by rw[hgd];rfl)];rfl)
   try simp (disch:=first|omega|assumption|rfl) only[go_sem,h1,h3,h4,h5,h6,p1,p2,p4,Nat.zero_add,decide_eq_true hA,decide_eq_false hB,Bool.not_true,Bool.not_false,zbO,↓hg5,↓hg12,↓hg15,↓hg23]
   refine hK _ _ ?_;clear hK hgd;clear K;try clear gd
   exact⟨rfl,rfl,(vq1 h1),rfl,_,vr0,fun h=>by cases h⟩
  by_cases hC:c≥0
  ·by_cases hD:(d.raw.length:Int)=c
   ·refine rq ?_;intro gd K hgd hK
    have hg5:∀n σ b,zas gd n σ (some (5,b))=zaj (ev n σ (.tmp 47)) b:=(fun n σ b=>by rw[zab,show gd 5=some 47 from(by rw[hgd];rfl)];rfl);have hg12:∀n σ b,zas gd n σ (some (12,b))=zaj (ev n σ (.tmp 54)) b:=(fun n σ b=>by rw[zab,show gd 12=some 54 from(by rw[hgd];rfl)];rfl);have hg15:∀n σ b,zas gd n σ (some (15,b))=zaj (ev n σ (.tmp 57)) b:=(fun n σ b=>by rw[zab,show gd 15=some 57 from(by rw[hgd];rfl)];rfl);have hg23:∀n σ b,zas gd n σ (some (23,b))=zaj (ev n σ (.tmp 65)) b:=(fun n σ b=>by rw[zab,show gd 23=some 65 from(by rw[hgd];rfl)];rfl)
    try simp (disch:=first|omega|assumption|rfl) only[go_sem,h1,h3,h4,h5,h6,p1,p2,p4,Nat.zero_add,decide_eq_true hA,decide_eq_true hB,decide_eq_true hC,decide_eq_true hD,Bool.not_true,Bool.not_false,zbO,↓hg5,↓hg12,↓hg15,↓hg23]
    refine hK _ _ ?_;clear hK hgd;clear K;try clear gd
    exact⟨rfl,rfl,(vq1 h1),rfl,_,vr0,fun _=>⟨hA,hB⟩⟩
   ·refine rq ?_;intro gd K hgd hK
    have hg5:∀n σ b,zas gd n σ (some (5,b))=zaj (ev n σ (.tmp 47)) b:=(fun n σ b=>by rw[zab,show gd 5=some 47 from(by rw[hgd];rfl)];rfl);have hg12:∀n σ b,zas gd n σ (some (12,b))=zaj (ev n σ (.tmp 54)) b:=(fun n σ b=>by rw[zab,show gd 12=some 54 from(by rw[hgd];rfl)];rfl);have hg15:∀n σ b,zas gd n σ (some (15,b))=zaj (ev n σ (.tmp 57)) b:=(fun n σ b=>by rw[zab,show gd 15=some 57 from(by rw[hgd];rfl)];rfl);have hg23:∀n σ b,zas gd n σ (some (23,b))=zaj (ev n σ (.tmp 65)) b:=(fun n σ b=>by rw[zab,show gd 23=some 65 from(by rw[hgd];rfl)];rfl)
    try simp (disch:=first|omega|assumption|rfl) only[go_sem,h1,h3,h4,h5,h6,p1,p2,p4,Nat.zero_add,decide_eq_true hA,decide_eq_true hB,decide_eq_true hC,decide_eq_false hD,Bool.not_true,Bool.not_false,zbO,↓hg5,↓hg12,↓hg15,↓hg23]
    refine hK _ _ ?_;clear hK hgd;clear K;try clear gd
    exact⟨rfl,rfl,(vq1 h1),rfl,_,vr0,fun h=>by cases h⟩
  ·refine rq ?_;intro gd K hgd hK
   have hg5:∀n σ b,zas gd n σ (some (5,b))=zaj (ev n σ (.tmp 47)) b:=(fun n σ b=>by rw[zab,show gd 5=some 47 from(by rw[hgd];rfl)];rfl);have hg12:∀n σ b,zas gd n σ (some (12,b))=zaj (ev n σ (.tmp 54)) b:=(fun n σ b=>by rw[zab,show gd 12=some 54 from(by rw[hgd];rfl)];rfl);have hg15:∀n σ b,zas gd n σ (some (15,b))=zaj (ev n σ (.tmp 57)) b:=(fun n σ b=>by rw[zab,show gd 15=some 57 from(by rw[hgd];rfl)];rfl);have hg23:∀n σ b,zas gd n σ (some (23,b))=zaj (ev n σ (.tmp 65)) b:=(fun n σ b=>by rw[zab,show gd 23=some 65 from(by rw[hgd];rfl)];rfl)
   try simp (disch:=first|omega|assumption|rfl) only[go_sem,h1,h3,h4,h5,h6,p1,p2,p4,Nat.zero_add,decide_eq_true hA,decide_eq_true hB,decide_eq_false hC,Bool.not_true,Bool.not_false,zbO,↓hg5,↓hg12,↓hg15,↓hg23]
   refine hK _ _ ?_;clear hK hgd;clear K;try clear gd
   exact⟨rfl,rfl,(vq1 h1),rfl,_,vr0,fun _=>⟨hA,hB⟩⟩
 clear h1 h3 h4 h5 h6
 rintro _ σ3 _ v1 ⟨rfl,rfl,h1,hv1,b7,h68,hb7⟩
 rw[hv1]
 clear hv1 v1
 repeat refine c_r ?_
 refine zaO (t:=b7) ((vq1 h68)) ?_ ?_
 ·intro _
  repeat (first|refine c_r ?_|refine rg0 ?_)
  refine rt0 Tryz.ntmps218 ?_
  exact⟨hE1,2,rfl,fun h=>by cases h⟩
 intro hb
 obtain⟨hA,hB⟩:=hb7 hb
 have hlead:zfS d.ty→d.names.length=1:=fun h=>by have:=hca h;omega
 repeat refine c_r ?_
 refine rg0 ?_
 repeat refine c_r ?_
 refine zax (Q:=fun e σ' ds' v'=>ds'=[]∧Ext w1 v'∧((e= .exit 0∧σ' 1= .pointer (some ⟨w.heap.size,0,Option.none⟩)∧∀n∈d.names,zaH n=0)∨(e= .ret∧∃e2:Int,e2≠0∧σ' 2=vi e2))) ?_ ?_
 ·refine zai (fun m σ ds A=>ds=[]∧∃(i:Nat),i+m=vals.length∧σ 7=vi i∧σ 1= .pointer (some ⟨w.heap.size,0,Option.none⟩)∧Ext w1 A∧∀j (h:j<d.names.length),j<i→zaH d.names[j]=0) vals.length ?_ ?_
  ·exact⟨rfl,0,by omega,vr0,(vq1 h1),Keep.refl _ _,fun j h hj=>absurd hj (by omega)⟩
  clear h1
  rintro m σ ds A ⟨rfl,i,him,h7,h1,hEA,hlow⟩
  obtain⟨q1,q3,q0,q2,q4⟩:=rd hEA
  repeat refine c_r ?_
  refine rg4 h7 h1 q1 Nat.zero_add ?_
  repeat refine c_r ?_
  refine wc0 ?_ ?_
  ·intro hlt
   simp only[decide_eq_true_eq]at hlt
   have hi:i<vals.length:=by omega
   have hi0:(0:Int)≤(i:Int):=by omega
   have hi1:(i:Int)<(vals.length:Int):=by omega
   have hi1':(i:Int)+1=((i+1:Nat):Int):=by push_cast;rfl
   have hgi:=hgn i hi
   obtain⟨xN,rfl⟩:=Option.isSome_iff_exists.1 (zad hgi)
   have hgi':=zaa (hE0.trans (hE1.trans hEA)) hgi
   have hrow:=hvr i hi (by omega)
   obtain⟨n,hn⟩:∃n,d.names[i]'(by omega)=n:=⟨_,rfl⟩
   rw[hn]at hrow
   have hnf:=hf.names n (hn▸List.getElem_mem _)
   obtain⟨hv,hhv⟩:∃hv,vals[i]=hv:=⟨_,rfl⟩
   rw[hhv]at hgi' hrow
   repeat refine c_r ?_
   refine rq ?_;intro gd K hgd hK
   try simp (disch:=first|omega|assumption|rfl) only[go_sem,h7,h1,q1,Nat.zero_add,hi0,hi1,hgi']
   refine Fn.mono (zbh A hv n (hrow.ext (hE0.trans (hE1.trans hEA))) hnf.1 hnf.2) ?_
   rintro _ A2 ⟨rfl,hA2⟩
   try simp only[go_sem]
   refine hK _ _ ?_;clear hK hgd;clear K;try clear gd
   repeat refine c_r ?_
   refine rg0 ?_
   repeat refine c_r ?_
   by_cases h0:zaH n=0
   ·rw[h0]
    refine zaO (t:=false) (vr0) (fun h=>by cases h) ?_
    intro _
    repeat refine c_r ?_
    refine rg2 h7 hi1' ?_
    repeat refine c_r ?_
    refine⟨m - 1,by omega,rfl,i+1,by omega,vq0,(vq1 h1),hEA.trans hA2,fun j hj hji=>?_⟩
    by_cases hj2:j=i
    ·subst hj2;rw[hn];exact h0
    ·exact hlow j hj (by omega)
   ·refine zaO (t:=!decide (zaH n=0)) (vr0) ?_ (fun h=>by rw[decide_eq_false h0]at h;cases h)
    intro _
    repeat refine c_r ?_
    refine rg0 ?_
    repeat refine c_r ?_
    exact⟨rfl,hEA.trans hA2,.inr ⟨rfl,zaH n,h0,vq0⟩⟩
  ·intro hge
   simp only[decide_eq_false_iff_not]at hge
   repeat refine c_r ?_
   refine⟨rfl,hEA,.inl ⟨rfl,(vq1 h1),fun n hn=>?_⟩⟩
   obtain⟨j,hj,rfl⟩:=List.getElem_of_mem hn
   exact hlow j hj (by omega)
 clear h1
 rintro e σ4 _ A ⟨rfl,hEA,⟨rfl,h1,hall⟩| ⟨rfl,e2,he2,h2⟩⟩
 rotate_left
 ·repeat refine c_r ?_
  refine rt1 h2 Tryz.ntmps218 ?_
  exact⟨hE1.trans hEA,e2,rfl,fun h=>absurd h he2⟩
 have fin:∀e:Int,e=0→(∀n∈d.names,zaH n=0)∧(zfS d.ty→d.names.length=1):=fun e _=>⟨hall,hlead⟩
 obtain⟨q1,q3,q0,q2,q4⟩:=rd hEA
 repeat refine c_r ?_
 have hvl0:(d.names.length:Int)=a:=by omega
 refine zax (Q:=fun e σ' ds' v'=>e= .normal∧ds'=[]∧σ' 1= .pointer (some ⟨w.heap.size,0,Option.none⟩)∧v'=A∧∃bb,σ' 94= .bool bb) ?_ ?_
 ·by_cases h15:d.ty=15
  ·have hb1:=hcb h15
   have hnu1:(0:Int)<(d.nums.length:Int):=by omega
   have hz0:(0:Int)≤0:=by omega
   have hg0:=hgu 0 (by omega)
   obtain⟨xU,rfl⟩:=Option.isSome_iff_exists.1 (zad hg0)
   rw[zar]at hg0
   have hg0':=zaa (hE0.trans (hE1.trans hEA)) hg0
   rw[List.getElem_map]at hg0'
   refine rq ?_;intro gd K hgd hK
   have hg3:∀n σ b,zas gd n σ (some (3,b))=zaj (ev n σ (.tmp 88)) b:=(fun n σ b=>by rw[zab,show gd 3=some 88 from(by rw[hgd];rfl)];rfl)
   try simp (disch:=first|omega|assumption|rfl) only[go_sem,h1,q0,q2,Nat.add_zero,Nat.zero_add,decide_eq_true h15,hnu1,hz0,hg0',Nat.zero_mul,zar,Int.toNat_zero,↓hg3]
   refine hK _ _ ?_;clear hK hgd;clear K;try clear gd
   exact⟨rfl,rfl,(vq1 h1),rfl,_,vr0⟩
  ·refine rq ?_;intro gd K hgd hK
   have hg3:∀n σ b,zas gd n σ (some (3,b))=zaj (ev n σ (.tmp 88)) b:=(fun n σ b=>by rw[zab,show gd 3=some 88 from(by rw[hgd];rfl)];rfl)
   try simp (disch:=first|omega|assumption|rfl) only[go_sem,h1,q0,Nat.add_zero,decide_eq_false h15,↓hg3]
   refine hK _ _ ?_;clear hK hgd;clear K;try clear gd
   exact⟨rfl,rfl,(vq1 h1),rfl,_,vr0⟩
 clear h1
 rintro _ σ5 _ v1 ⟨rfl,rfl,h1,hv1,b94,h94⟩
 rw[hv1]
 clear hv1 v1
 repeat refine c_r ?_
 refine zaO (t:=b94) ((vq1 h94)) ?_ ?_
 ·intro _
  repeat (first|refine c_r ?_|refine rg0 ?_)
  refine rt0 Tryz.ntmps218 ?_
  exact⟨hE1.trans hEA,7,rfl,fun h=>by cases h⟩
 intro _
 repeat refine c_r ?_
 refine rg0 ?_
 repeat refine c_r ?_
 refine zax (Q:=fun e σ' ds' v'=>ds'=[]∧v'=A∧((e= .exit 2∧σ' 1= .pointer (some ⟨w.heap.size,0,Option.none⟩))∨(e= .ret∧σ' 2=vi 3))) ?_ ?_
 ·refine zai (fun m σ ds B=>ds=[]∧∃(i:Nat),i+m=d.texts.length∧σ 9=vi i∧σ 1= .pointer (some ⟨w.heap.size,0,Option.none⟩)∧B=A) d.texts.length ?_ ?_
  ·exact⟨rfl,0,by omega,vr0,(vq1 h1),rfl⟩
  clear h1
  rintro m σ ds B ⟨rfl,i,him,h9,h1,hB2⟩
  rw[hB2]
  clear hB2 B
  repeat refine c_r ?_
  refine rg4 h9 h1 q3 Nat.zero_add ?_
  repeat refine c_r ?_
  refine wc0 ?_ ?_
  ·intro hlt
   simp only[decide_eq_true_eq]at hlt
   have hi:i<d.texts.length:=by omega
   have hi0:(0:Int)≤(i:Int):=by omega
   have hi1:(i:Int)<(d.texts.length:Int):=by omega
   have hi1':(i:Int)+1=((i+1:Nat):Int):=by push_cast;rfl
   have hgi:=hgt i hi
   obtain⟨xT,rfl⟩:=Option.isSome_iff_exists.1 (zad hgi)
   have hgi':=zaa (hE0.trans (hE1.trans hEA)) hgi
   rw[List.getElem_map]at hgi'
   have htl:=hf.tl _ (List.getElem_mem hi)
   repeat refine c_r ?_
   refine rg7 h9 h1 q3 Nat.zero_add hi0 hi1 hgi' ?_
   repeat refine c_r ?_
   refine wc0 ?_ ?_
   ·intro hgt2
    repeat refine c_r ?_
    refine rg0 ?_
    repeat refine c_r ?_
    exact⟨rfl,rfl,.inr ⟨rfl,vq0⟩⟩
   ·intro hgt2
    repeat refine c_r ?_
    refine rg2 h9 hi1' ?_
    repeat refine c_r ?_
    exact⟨m - 1,by omega,rfl,i+1,by omega,vq0,(vq1 h1),rfl⟩
  ·intro hge
   repeat refine c_r ?_
   exact⟨rfl,rfl,.inl ⟨rfl,(vq1 h1)⟩⟩
 clear h1
 rintro e σ6 _ v1 ⟨rfl,hv1,⟨rfl,h1⟩| ⟨rfl,h2⟩⟩
 rotate_left
 ·rw[hv1]
  repeat refine c_r ?_
  refine rt1 h2 Tryz.ntmps218 ?_
  exact⟨hE1.trans hEA,3,rfl,fun h=>by cases h⟩
 rw[hv1]
 clear hv1 v1
 repeat refine c_r ?_
 refine rg3 h1 q4 Nat.zero_add ?_
 repeat refine c_r ?_
 refine wc0 ?_ ?_
 ·intro _
  repeat (first|refine c_r ?_|refine rg0 ?_)
  refine rt0 Tryz.ntmps218 ?_
  exact⟨hE1.trans hEA,3,rfl,fun h=>by cases h⟩
 intro _
 repeat (first|refine c_r ?_|refine rg0 ?_)
 refine rt0 Tryz.ntmps218 ?_
 exact⟨hE1.trans hEA,0,rfl,fin 0⟩
structure DatX(w0:World)(B:Nat)(A:World)(nm:Value)(cs:List Value)(d:DatL):Prop where
 ex:∃nu tx rw vals,cs=[vi d.ty,nm,nu,tx,rw]∧Row A nm vals∧vals.length=d.names.length∧(∀i (h:i<vals.length) (h':i<d.names.length),Row w0 vals[i] (d.names[i].map vs))∧Row w0 nu (d.nums.map v32)∧Row w0 tx (d.texts.map vs)∧Row w0 rw (d.raw.map zae)
 blk:BlkB B A nm
theorem DatX.at{w0 A:World}{B:Nat}{nm:Value}{cs:List Value}{d:DatL}(h:DatX w0 B A nm cs d)(hE:Ext w0 A):DatAt A cs d:=by
 obtain⟨nu,tx,rw,vals,e,h1,h2,h3,h4,h5,h6⟩:=h.ex
 exact⟨nm,nu,tx,rw,e,⟨vals,h1,h2,fun i a b=>(h3 i a b).ext hE⟩,h4.ext hE,h5.ext hE,h6.ext hE⟩
theorem DatX.keep{w0 A x:World}{B:Nat}{nm:Value}{cs:List Value}{d:DatL}(h:DatX w0 B A nm cs d){S:Nat→Prop}(hk:Keep S A x)(hS:∀a n c,nm= .slice (some a) n c→¬S a.block):DatX w0 B x nm cs d:=by
 obtain⟨nu,tx,rw,vals,e,h1,h2,h3,h4,h5,h6⟩:=h.ex
 exact⟨⟨nu,tx,rw,vals,e,h1.blocks fun a n c hv=>hk.block _ (h.blk a n c hv).2 (hS a n c hv),h2,h3,h4,h5,h6⟩,h.blk.ext hk.size⟩
theorem DatX.mono{w0 A:World}{B B':Nat}{nm:Value}{cs:List Value}{d:DatL}(h:DatX w0 B A nm cs d)(hB:B'≤B):DatX w0 B' A nm cs d:=⟨h.ex,h.blk.mono hB⟩
theorem DOf_ok{w0 w:World}(hE0:Ext w0 w){cs:List Value}{d:DatL}(hd:DatAt w0 cs d)(hnn:d.names.length≤1000000000):
  Fn Tryz.prog 164 #[.agg cs.toArray] w (fun v w'=>Ext w w'∧∃cs' nm,v= .agg cs'.toArray∧DatX w0 w.heap.size w' nm cs' d):=by
 obtain⟨nm,nu,tx,rw',rfl,⟨vals,⟨an,cn,rfl,hcn,hgn⟩,hvl,hvr⟩,hnu,htx,hrw⟩:=hd.ex
 obtain⟨au,cu,rfl,_⟩:=id hnu
 obtain⟨at1,ct,rfl,_⟩:=id htx
 obtain⟨ar,cr,rfl,_⟩:=id hrw
 refine enter Tryz.func164 Tryz.ntmps164 rfl rfl ?_
 repeat refine c_r ?_
 refine rg0 ?_
 repeat refine c_r ?_
 rw[zap]
 refine zbP ?_
 intro w1 hE1 hs1 hA hC
 have p0:zah w1 (some ⟨w.heap.size,0,Option.none⟩)=some (vi d.ty):=zac hA rfl
 have p1:zah w1 (some ⟨w.heap.size,1,Option.none⟩)=some (.slice an vals.length cn):=zac hA rfl
 have p2:zah w1 (some ⟨w.heap.size,2,Option.none⟩)=some (.slice au (d.nums.map v32).length cu):=zac hA rfl
 have p3:zah w1 (some ⟨w.heap.size,3,Option.none⟩)=some (.slice at1 (d.texts.map vs).length ct):=zac hA rfl
 have p4:zah w1 (some ⟨w.heap.size,4,Option.none⟩)=some (.slice ar (d.raw.map zae).length cr):=zac hA rfl
 refine rq ?_;intro gd K hgd hK
 try simp (disch:=first|omega|assumption|rfl) only[go_sem,p0,p2,p3,p4,Nat.add_zero,Nat.zero_add]
 refine⟨by kernel_rfl,?_⟩
 rw[show bdV Tryz.prog 208 [(0,vi d.ty),(2,.slice au (d.nums.map v32).length cu),(3,.slice at1 (d.texts.map vs).length ct),(4,.slice ar (d.raw.map zae).length cr)]=some (.agg #[vi d.ty,.slice Option.none 0 0,.slice au (d.nums.map v32).length cu,.slice at1 (d.texts.map vs).length ct,.slice ar (d.raw.map zae).length cr]) from by kernel_rfl]
 try simp only[go_sem]
 have hB3:=zam w1 (.cells #[vi 0,.slice Option.none 0 0,.slice Option.none 0 0,.slice Option.none 0 0,.slice Option.none 0 0] 208 (0,0))
 have hE4:=Ext.alloc w1 (.cells #[vi 0,.slice Option.none 0 0,.slice Option.none 0 0,.slice Option.none 0 0,.slice Option.none 0 0] 208 (0,0))
 have hs4:=zap w1 (.cells #[vi 0,.slice Option.none 0 0,.slice Option.none 0 0,.slice Option.none 0 0,.slice Option.none 0 0] 208 (0,0))
 revert hB3 hE4 hs4
 generalize w1.alloc (.cells #[vi 0,.slice Option.none 0 0,.slice Option.none 0 0,.slice Option.none 0 0,.slice Option.none 0 0] 208 (0,0))=w2
 intro hB3 hE4 hs4
 refine zbQ (P:=Tryz.prog) (t:=208) (l:=[vi d.ty,.slice Option.none 0 0,.slice au (d.nums.map v32).length cu,.slice at1 (d.texts.map vs).length ct,.slice ar (d.raw.map zae).length cr]) hB3 rfl (fun v h=>by simp at h;rcases h with rfl|rfl|rfl|rfl|rfl<;>rfl) rfl rfl ?_
 intro w3 hs5 hB5 hk5
 try simp only[go_sem]
 refine hK _ _ ?_;clear hK hgd;clear K;try clear gd
 have hE13:Ext w1 w3:=Keep.to_ext hE4 rfl (fun b hb=>by omega) hk5
 obtain⟨b3,hb3⟩:∃b3,w1.heap.size=b3:=⟨_,rfl⟩
 rw[hb3]at hB5
 have hs3:w3.heap.size=b3+1:=by omega
 repeat refine c_r ?_
 refine rg0 ?_
 repeat refine c_r ?_
 rw[hb3]
 refine zai (fun m σ ds A=>ds=[]∧∃(i:Nat) (nv:Value),i+m=vals.length∧σ 4=vi i∧σ 1= .pointer (some ⟨w.heap.size,0,Option.none⟩)∧σ 2= .pointer (some ⟨w.heap.size+1,0,Option.none⟩)∧σ 3= .pointer (some ⟨b3,0,Option.none⟩)∧A.heap[b3]? =some (.cells [vi d.ty,nv,.slice au (d.nums.map v32).length cu,.slice at1 (d.texts.map vs).length ct,.slice ar (d.raw.map zae).length cr].toArray 208 (0,0))∧Own w3.heap.size A 26 nv (vals.take i)∧Ext w1 A∧w3.heap.size≤A.heap.size) vals.length ?_ ?_
 ·exact⟨rfl,0,.slice Option.none 0 0,by omega,vr0,vq0,vq0,vq0,hB5,Own.nil _ _ _,hE13,Nat.le_refl _⟩
 rintro m σ ds A ⟨rfl,i,nv,him,h4,h1,h2,h3,hb,hown,hEA,hsA⟩
 have q1:=zaa hEA p1
 have s1:=hE1.size
 repeat refine c_r ?_
 refine rg4 h4 h1 q1 Nat.zero_add ?_
 repeat refine c_r ?_
 refine wc0 ?_ ?_
 ·intro hlt
  simp only[decide_eq_true_eq]at hlt
  have hi:i<vals.length:=by omega
  have hi0:(0:Int)≤(i:Int):=by omega
  have hi1:(i:Int)<(vals.length:Int):=by omega
  have hi1':(i:Int)+1=((i+1:Nat):Int):=by push_cast;rfl
  have hgi:=hgn i hi
  obtain⟨xN,rfl⟩:=Option.isSome_iff_exists.1 (zad hgi)
  obtain⟨xi,hxi⟩:∃xi,adr (some xN) i=some xi:=⟨_,rfl⟩
  rw[hxi]at hgi
  have hgA:=zaa (hE0.trans (hE1.trans hEA)) hgi
  have hxb:xi.block<w3.heap.size:=by
   have:=zcj (show w0.cell? xi=some _ from hgi)
   have:=(hE0.trans (hE1.trans hE13)).size
   omega
  have hrow:=hvr i hi (by omega)
  obtain⟨hv,hhv⟩:∃hv,vals[i]=hv:=⟨_,rfl⟩
  rw[hhv]at hgA hrow
  obtain⟨ha,hc,hve,_⟩:=id hrow
  have hone:one hv=true:=by rw[hve];rfl
  have htk:vals.take (i+1)=vals.take i++ [hv]:=by rw[zak hi,hhv]
  have hnv:zah A (some ⟨b3,1,Option.none⟩)=some nv:=sv_get hb rfl
  have hvals:(vals.take i).length≤1000000000:=by rw[List.length_take];omega
  repeat refine c_r ?_
  refine zaL (fun i=>i==10) [(0,true),(1,true),(2,true),(3,true),(4,true),(5,true),(6,true),(7,false),(8,false),(9,true),(10,false)] (zc5 w3.heap.size) mixed (by kernel_rfl) ?_;intro gd K x hgd hx hxe hK;have hx0:=drewX hxe;clear hxe
  have hgx:=zaa hx0 hgA
  have hnx:=zaa hx0 hnv
  have q1x:=zaa hx0 q1
  have hxs:=hx.size
  simp (disch:=first|omega|assumption|rfl) only[go_sem,h4,h1,h3,q1x,hgx,hnx,hi0,hi1,hxi,Nat.zero_add,Nat.mul_one]
  refine⟨zed (by omega),zed (by omega),zeS hxb,?_⟩
  refine zdS (z:= .slice Option.none 0 0) (v:=hv) (by rfl) (by rfl) (by rfl) (by rfl) (by rw[hve];rfl) ?_
  intro w5 hE5 hs5 ho5
  refine⟨.inr hE5.keep,?_⟩
  simp (disch:=first|omega|assumption|rfl) only[go_sem]
  have hx5:=hx0.trans hE5
  have hx5s:=hx5.size
  refine zbU (hown.ext hx5) ho5.row rfl rfl rfl rfl rfl rfl (vr0) (vr0) (fun q hq=>by rw[List.mem_singleton.1 hq];exact hone) (by rw[List.length_singleton];omega) (by decide) (by omega) ?_
  intro v7 w7 ho7 hE7 hk7 hb7
  refine⟨.inr (hk7.mono fun b _ hb=>by have:=(hown.ge hb).1;show _≤_;omega),?_⟩
  simp (disch:=first|omega|assumption|rfl) only[go_sem,h3]
  have hk7s:=hk7.size
  obtain⟨a7,c7,hv7⟩:=ho7.slice
  have hb3w:w7.heap[b3]? =some (.cells [vi d.ty,nv,.slice au (d.nums.map v32).length cu,.slice at1 (d.texts.map vs).length ct,.slice ar (d.raw.map zae).length cr].toArray 208 (0,0)):=(hk7.block b3 (by omega) (fun h=>by have:=(hown.ge h).1;omega)).trans (Ext.at hx5 hb)
  refine zfo (P:=Tryz.prog) (t:=62) (j:=1) (l:=[vi d.ty,nv,.slice au (d.nums.map v32).length cu,.slice at1 (d.texts.map vs).length ct,.slice ar (d.raw.map zae).length cr]) hb3w (by simp) (by rw[hv7];rfl) rfl rfl ?_
  intro z hz' hbz hkz
  refine⟨.inl rfl,?_⟩
  simp (disch:=first|omega|assumption|rfl) only[go_sem]
  refine hK _ _ ?_;clear hK hgd;clear K;try clear gd
  have hEz:Ext w1 z:=Keep.to_ext (hE7 w1 (hEA.trans hx5) (by omega)) rfl (fun b hb=>by omega) hkz
  repeat refine c_r ?_
  refine rg2 h4 hi1' ?_
  repeat refine c_r ?_
  exact⟨m - 1,by omega,rfl,i+1,v7,by omega,vq0,(vq1 h1),(vq1 h2),(vq1 h3),hbz,by rw[htk];exact ho7.keep hkz (fun b hb h=>by have:=(ho7.ge hb).1;omega),hEz,by omega⟩
 ·intro hge
  simp only[decide_eq_false_iff_not]at hge
  have hi:i=vals.length:=by omega
  rw[hi,List.take_length]at hown
  obtain⟨na,nc,hnv⟩:=hown.slice
  repeat refine c_r ?_
  refine rq ?_;intro gd K hgd hK
  have d5:=zay (n:=5) hb rfl
  try simp (disch:=first|omega|assumption|rfl) only[go_sem,h3,h2,d5]
  refine zbQ (P:=Tryz.prog) (t:=208) (l:=[vi d.ty,nv,.slice au (d.nums.map v32).length cu,.slice at1 (d.texts.map vs).length ct,.slice ar (d.raw.map zae).length cr]) (Ext.at hEA hC) rfl (fun v h=>by
   simp at h
   rcases h with rfl|rfl|rfl|rfl|rfl
   ·rfl
   ·rw[hnv];rfl
   ·rfl
   ·rfl
   ·rfl) rfl rfl ?_
  intro z hz' hbz hkz
  try simp only[go_sem]
  refine hK _ _ ?_;clear hK hgd;clear K;try clear gd
  repeat refine c_r ?_
  refine zaA (.inr rfl) Tryz.ntmps164 rfl (zcB (x:=⟨w.heap.size+1,0,Option.none⟩) (k:=5) ((vq1 h2)) rfl rfl (zay hbz rfl) zaz) ?_
  have hEz:Ext w z:=Keep.to_ext (hE1.trans hEA) rfl (fun b hb=>by omega) hkz
  have hownz:=hown.keep hkz (fun b hb h=>by have:=(hown.ge hb).1;omega)
  refine⟨hEz,_,nv,rfl,⟨⟨_,_,_,vals,rfl,hownz.row,hvl,hvr,hnu,htx,hrw⟩,fun a n c hv=>?_⟩⟩
  have:=hownz.ge (b:=a.block) (by rw[hv];rfl)
  omega
theorem DatAt.open{w:World}{cs:List Value}{d:DatL}(h:DatAt w cs d):∃a1 n1 c1 a2 n2 c2 a3 n3 c3 a4 n4 c4,cs=[vi d.ty,.slice a1 n1 c1,.slice a2 n2 c2,.slice a3 n3 c3,.slice a4 n4 c4]:=by
 obtain⟨nm,nu,tx,rw',rfl,⟨vals,⟨an,cn,rfl,_⟩,_⟩,⟨au,cu,rfl,_⟩,⟨at1,ct,rfl,_⟩,⟨ar,cr,rfl,_⟩⟩:=h.ex
 exact⟨_,_,_,_,_,_,_,_,_,_,_,_,rfl⟩
theorem DatX.open{w0 A:World}{B:Nat}{nm:Value}{cs:List Value}{d:DatL}(h:DatX w0 B A nm cs d):∃a1 n1 c1 a2 n2 c2 a3 n3 c3 a4 n4 c4,cs=[vi d.ty,.slice a1 n1 c1,.slice a2 n2 c2,.slice a3 n3 c3,.slice a4 n4 c4]:=by
 obtain⟨nu,tx,rw,vals,e,⟨a1,c1,rfl,_⟩,h2,h3,⟨a4,c4,rfl,_⟩,⟨a5,c5,rfl,_⟩,⟨a6,c6,rfl,_⟩⟩:=h.ex
 exact⟨_,_,_,_,_,_,_,_,_,_,_,_,e⟩
structure RecX(w0:World)(B:Nat)(A:World)(nm:Value)(cs:List Value)(r:RecL):Prop where
 ex:∃ow ds,cs=ow::v32 r.ttl::ds∧Row w0 ow (r.owner.map vs)∧DatX w0 B A nm ds r.dat
theorem RecX.at{w0 A:World}{B:Nat}{nm:Value}{cs:List Value}{r:RecL}(h:RecX w0 B A nm cs r)(hE:Ext w0 A):RecAt A cs r:=by
 obtain⟨ow,ds,e,h1,h2⟩:=h.ex
 exact⟨ow,ds,e,h1.ext hE,h2.at hE⟩
theorem RecX.keep{w0 A x:World}{B:Nat}{nm:Value}{cs:List Value}{r:RecL}(h:RecX w0 B A nm cs r){S:Nat→Prop}(hk:Keep S A x)(hS:∀a n c,nm= .slice (some a) n c→¬S a.block):RecX w0 B x nm cs r:=by
 obtain⟨ow,ds,e,h1,h2⟩:=h.ex
 exact⟨ow,ds,e,h1,h2.keep hk hS⟩
theorem RecX.mono{w0 A:World}{B B':Nat}{nm:Value}{cs:List Value}{r:RecL}(h:RecX w0 B A nm cs r)(hB:B'≤B):RecX w0 B' A nm cs r:=by
 obtain⟨ow,ds,e,h1,h2⟩:=h.ex
 exact⟨ow,ds,e,h1,h2.mono hB⟩
theorem RecX.blk{w0 A:World}{B:Nat}{nm:Value}{cs:List Value}{r:RecL}(h:RecX w0 B A nm cs r):BlkB B A nm:=by
 obtain⟨ow,ds,e,h1,h2⟩:=h.ex
 exact h2.blk
theorem RecX.cells{w0 A:World}{B:Nat}{nm:Value}{cs:List Value}{r:RecL}(h:RecX w0 B A nm cs r):cs.length=7∧∀q∈cs,one q=true:=by
 obtain⟨ow,ds,e,⟨a,c,rfl,_⟩,h2⟩:=h.ex
 obtain⟨b1,m1,e1,b2,m2,e2,b3,m3,e3,b4,m4,e4,hds⟩:=h2.open
 rw[e,hds]
 refine⟨rfl,fun q hq=>?_⟩
 simp at hq
 rcases hq with rfl|rfl|rfl|rfl|rfl|rfl|rfl<;>rfl
theorem zkx{w0 w:World}(hE0:Ext w0 w){cs:List Value}{r:RecL}(hr:RecAt w0 cs r)(hnn:r.dat.names.length≤1000000000):
  Fn Tryz.prog 116 #[.agg cs.toArray] w (fun v w'=>Ext w w'∧∃cs' nm,v= .agg cs'.toArray∧RecX w0 w.heap.size w' nm cs' r):=by
 obtain⟨ow,ds,rfl,h1,h2⟩:=hr.ex
 obtain⟨oa,oc,how,_⟩:=id h1
 obtain⟨on,hon⟩:∃on,(r.owner.map vs).length=on:=⟨_,rfl⟩
 rw[hon]at how
 obtain⟨b1,m1,e1,b2,m2,e2,b3,m3,e3,b4,m4,e4,hds⟩:=h2.open
 rw[hds,how]
 refine enter Tryz.func116 Tryz.ntmps116 rfl rfl ?_
 repeat refine c_r ?_
 refine rg0 ?_
 repeat refine c_r ?_
 rw[zap]
 refine zbP ?_
 intro w1 hE1 hs1 hA hC
 have p0:zah w1 (some ⟨w.heap.size,0,Option.none⟩)=some (.slice oa on oc):=zac hA rfl
 have p1:zah w1 (some ⟨w.heap.size,1,Option.none⟩)=some (v32 r.ttl):=zac hA rfl
 have p2:zaw w1 (some ⟨w.heap.size,2,Option.none⟩) 5=some [vi r.dat.ty,.slice b1 m1 e1,.slice b2 m2 e2,.slice b3 m3 e3,.slice b4 m4 e4]:=by
  have h7:=zay (n:=7) (l:=[.slice oa on oc,v32 r.ttl,vi r.dat.ty,.slice b1 m1 e1,.slice b2 m2 e2,.slice b3 m3 e3,.slice b4 m4 e4]) hA rfl
  have:=zaW (m:=2) (k:=5) h7
  rwa [zaU]at this
 refine zaL (fun i=>i==8) [(0,true),(1,true),(2,true),(3,true),(4,true),(5,true),(6,false),(7,true),(8,false)] NoS mixed (by kernel_rfl) ?_;intro gd K x hgd hx hxe hK;clear hxe
 have p0x:=zaa hx p0
 have p1x:=zaa hx p1
 have p2x:=zaf hx p2
 have hxs:=hx.size
 simp (disch:=first|omega|assumption|rfl) only[go_sem,p0x,p1x,p2x,Nat.add_zero,Nat.zero_add]
 rw[←hds]
 refine Fn.mono (DOf_ok (hE0.trans (hE1.trans hx)) h2 hnn) ?_
 rintro _ w2 ⟨hE2,cs',nm',rfl,hd'⟩
 refine⟨.inr hE2,?_⟩
 obtain⟨b1',m1',e1',b2',m2',e2',b3',m3',e3',b4',m4',e4',hds'⟩:=hd'.open
 rw[hds']
 simp (disch:=first|omega|assumption|rfl) only[go_sem,p0x,p1x,p2x,Nat.add_zero,Nat.zero_add]
 refine⟨by kernel_rfl,?_⟩
 rw[show bdV Tryz.prog 210 [(0,.slice oa on oc),(1,v32 r.ttl),(2,.agg [vi r.dat.ty,.slice b1' m1' e1',.slice b2' m2' e2',.slice b3' m3' e3',.slice b4' m4' e4'].toArray)]=some (.agg #[.slice oa on oc,v32 r.ttl,vi r.dat.ty,.slice b1' m1' e1',.slice b2' m2' e2',.slice b3' m3' e3',.slice b4' m4' e4']) from by kernel_rfl]
 simp (disch:=first|omega|assumption|rfl) only[go_sem]
 refine zbQ (P:=Tryz.prog) (t:=210) (l:=[.slice oa on oc,v32 r.ttl,vi r.dat.ty,.slice b1' m1' e1',.slice b2' m2' e2',.slice b3' m3' e3',.slice b4' m4' e4']) (Ext.at (hx.trans hE2) hC) rfl (fun v h=>by simp at h;rcases h with rfl|rfl|rfl|rfl|rfl|rfl|rfl<;>rfl) rfl rfl ?_
 intro z hz' hbz hkz
 refine⟨.inl rfl,?_⟩
 simp (disch:=first|omega|assumption|rfl) only[go_sem]
 refine hK _ _ ?_;clear hK hgd;clear K;try clear gd
 repeat refine c_r ?_
 refine zaA (.inr rfl) Tryz.ntmps116 rfl (zcB (x:=⟨w.heap.size+1,0,Option.none⟩) (k:=7) (vq0) rfl rfl (zay hbz rfl) zaz) ?_
 have hEz:Ext w z:=Keep.to_ext (hE1.trans (hx.trans hE2)) rfl (fun b hb=>by omega) hkz
 refine⟨hEz,_,nm',rfl,⟨ow,cs',?_,h1,?_⟩⟩
 ·rw[how,hds']
 ·exact(hd'.keep hkz (fun a n c hv=>by have:=hd'.blk a n c hv;omega)).mono (by omega)
abbrev OX:=RecL×(Value×List Value)
def oxC(cs:List Value)(x:OX):Prop:=cs=x.2.2∧cs.length=7∧∀q∈cs,one q=true
theorem zhR:zfq 7 oxC:=⟨fun h=>h.2.1,fun h=>h.2.2⟩
structure OI(w0:World)(B:Nat)(A:World)(ov:Value)(G:List OX):Prop where
 own:Owns 7 oxC B A 210 ov G
 row:∀x∈G,RecX w0 B A x.2.1 x.2.2 x.1∧∀a n c,x.2.1= .slice (some a) n c→some a.block≠ov.ownBlock
theorem OI.ext{w0 A A':World}{B:Nat}{ov:Value}{G:List OX}(h:OI w0 B A ov G)(hE:Ext A A'):OI w0 B A' ov G:=
 ⟨h.own.ext hE,fun x hx=>by
  obtain⟨h1,h2⟩:=h.row x hx
  exact⟨h1.keep hE (fun a n c hv h=>h),h2⟩⟩
theorem OI.app{w0 A A':World}{B:Nat}{ov v':Value}{G:List OX}{s:OX}(h:OI w0 B A ov G)(hs:RecX w0 B A s.2.1 s.2.2 s.1∧∀a n c,s.2.1= .slice (some a) n c→some a.block≠ov.ownBlock)
  (ho:Owns 7 oxC B A' 210 v' (G++ [s])) (hk:Keep (fun b=>some b=ov.ownBlock) A A') (hb:∀b,some b=v'.ownBlock→some b=ov.ownBlock∨A.heap.size≤b):OI w0 B A' v' (G++ [s]):=by
 refine⟨ho,fun y hy=>?_⟩
 have hy2:RecX w0 B A y.2.1 y.2.2 y.1∧∀a n c,y.2.1= .slice (some a) n c→some a.block≠ov.ownBlock:=by
  rcases List.mem_append.1 hy with hy|hy
  ·exact h.row y hy
  ·rw[List.mem_singleton.1 hy];exact hs
 obtain⟨h1,h2⟩:=hy2
 refine⟨h1.keep hk h2,fun a n c hv e=>?_⟩
 rcases hb _ e with e|e
 ·exact h2 a n c hv e
 ·have:=(h1.blk a n c hv).2;omega
theorem zgU{w0 w:World}(hE0:Ext w0 w){lv:Value}{R:List RecL}(hl:Rows 7 (RecAt w0) w lv R)(hnn:∀r∈R,r.dat.names.length≤1000000000)(hlen:R.length≤1000000000):
  Fn Tryz.prog 64 #[lv] w (fun v w'=>Ext w w'∧∃G:List OX,OI w0 w.heap.size w' v G∧G.map Prod.fst=R):=by
 obtain⟨aR,cR,rfl,hcR,hgR⟩:=hl.open
 refine enter Tryz.func64 Tryz.ntmps64 rfl rfl ?_
 repeat refine c_r ?_
 refine rg0 ?_
 repeat refine c_r ?_
 refine rg0 ?_
 repeat refine c_r ?_
 refine rg0 ?_
 repeat refine c_r ?_
 refine zai (fun m σ ds A=>ds=[]∧∃(i:Nat) (ov:Value) (G:List OX),i+m=R.length∧σ 4=vi i∧σ 3=ov∧σ 0= .slice aR R.length cR∧Ext w A∧OI w0 w.heap.size A ov G∧G.map Prod.fst=R.take i) R.length ?_ ?_
 ·exact⟨rfl,0,.slice Option.none 0 0,[],by omega,vr0,vq0,vq0,Keep.refl _ _,⟨Owns.nil _ _ _ _ _,fun x h=>absurd h (by simp)⟩,rfl⟩
 rintro m σ ds A ⟨rfl,i,ov,G,him,h4,h3,h0,hEA,hOI,hG⟩
 repeat refine c_r ?_
 refine rg2 h4 h0 ?_
 repeat refine c_r ?_
 refine wc0 ?_ ?_
 ·intro hlt
  simp only[decide_eq_true_eq]at hlt
  have hi:i<R.length:=by omega
  have hi0:(0:Int)≤(i:Int):=by omega
  have hi1:(i:Int)<(R.length:Int):=by omega
  have hi1':(i:Int)+1=((i+1:Nat):Int):=by push_cast;rfl
  have hGl:G.length=i:=by
   have:=congrArg List.length hG
   simp at this;omega
  obtain⟨cr,hcr,hRr⟩:=hgR i hi
  obtain⟨r,hr⟩:∃r,R[i]=r:=⟨_,rfl⟩
  rw[hr]at hRr
  have hrn:=hnn r (hr▸List.getElem_mem hi)
  obtain⟨xR,rfl⟩:=Option.isSome_iff_exists.1 (zan hcr)
  obtain⟨xi,hxi⟩:∃xi,adr (some xR) (i*7)=some xi:=⟨_,rfl⟩
  rw[hxi]at hcr
  have hcA:=zaf hEA hcr
  repeat refine c_r ?_
  refine rq ?_;intro gd K hgd hK
  try simp (disch:=first|omega|assumption|rfl) only[go_sem,h3,h0,h4,hi0,hi1,hxi,hcA]
  refine Fn.mono (zkx (hE0.trans hEA) hRr hrn) ?_
  rintro _ A2 ⟨hA2,cs',nm',rfl,hx⟩
  have hA2s:=hA2.size
  have hEAs:=hEA.size
  try simp only[go_sem]
  refine zbC (l:=cs') (a:=((r,(nm',cs')):OX)) zhR rfl rfl rfl rfl ⟨rfl,hx.cells.1,hx.cells.2⟩ (by decide) ?_
  intro A3 hA3 hs3 ho3
  try simp (disch:=first|omega|assumption|rfl) only[go_sem,h3]
  refine zaQ zhR ((hOI.ext hA2).ext hA3).own ho3.rows rfl rfl rfl rfl rfl rfl (by decide) (vr0) (vr0) (by simp;omega) (by decide) (by omega) ?_
  intro v7 A4 ho7 hE7 hk7 hb7
  try simp only[go_sem]
  refine hK _ _ ?_;clear hK hgd;clear K;try clear gd
  have hnew:=((hOI.ext hA2).ext hA3).app (s:=((r,(nm',cs')):OX)) ⟨(hx.keep hA3 (fun a n c hv h=>h)).mono hEAs,fun a n c hv e=>by
   have h8:=(hx.blk a n c hv).1
   have h9:=(hOI.own.ge e).2
   omega⟩ ho7 hk7 hb7
  repeat refine c_r ?_
  refine rg2 h4 hi1' ?_
  repeat refine c_r ?_
  exact⟨m - 1,by omega,rfl,i+1,v7,_,by omega,vq0,vq0,(vq1 h0),hE7 w ((hEA.trans hA2).trans hA3) (Nat.le_refl _),hnew,by rw[List.map_append,hG,zak hi,hr];rfl⟩
 ·intro hge
  simp only[decide_eq_false_iff_not]at hge
  have hi:i=R.length:=by omega
  rw[hi,List.take_length]at hG
  repeat refine c_r ?_
  refine rg1 h3 ?_
  repeat refine c_r ?_
  refine rt0 Tryz.ntmps64 ?_
  exact⟨hEA,G,hOI,hG⟩
theorem OI.rows{w0 A:World}{B:Nat}{ov:Value}{G:List OX}(h:OI w0 B A ov G)(hE:Ext w0 A):Rows 7 (RecAt A) A ov (G.map Prod.fst):=
 h.own.rows.mapM (C':=RecAt A) Prod.fst fun cs x hx hc=>by
  rw[hc.1]
  exact(h.row x hx).1.at hE
theorem zih{w0 w:World}(hE0:Ext w0 w){lv:Value}{R:List RecL}(hl:Rows 7 (RecAt w0) w lv R)(hnn:∀r∈R,r.dat.names.length≤1000000000)(hlen:R.length≤1000000000):
  Fn Tryz.prog 64 #[lv] w (fun v w'=>Ext w w'∧Rows 7 (RecAt w') w' v R):=by
 refine Fn.mono (zgU hE0 hl hnn hlen) ?_
 rintro v w' ⟨hE,G,hOI,rfl⟩
 exact⟨hE,hOI.rows (hE0.trans hE)⟩
theorem zgT{w0 w:World}(hE0:Ext w0 w){cs:List Value}{r:RecL}(hr:RecAt w0 cs r)(hf:DatF r.dat)(ho:(∀l∈r.owner,l.length≤1000000000)∧r.owner.length≤1000000000):
  Fn Tryz.prog 163 #[.agg cs.toArray] w (fun v w'=>Ext w w'∧∃e:Int,v=vi e∧(e=0→zaH r.owner=0∧(∀n∈r.dat.names,zaH n=0)∧(zfS r.dat.ty→r.dat.names.length=1))):=by
 obtain⟨ow,ds,rfl,h1,h2⟩:=hr.ex
 obtain⟨b1,m1,e1,b2,m2,e2,b3,m3,e3,b4,m4,e4,hds⟩:=h2.open
 rw[hds]
 refine enter Tryz.func163 Tryz.ntmps163 rfl rfl ?_
 repeat refine c_r ?_
 refine rg0 ?_
 repeat refine c_r ?_
 refine zaM ?_
 intro w1 hE1 hs1 hA
 have p0:zah w1 (some ⟨w.heap.size,0,Option.none⟩)=some ow:=zac hA rfl
 have p1:zah w1 (some ⟨w.heap.size,1,Option.none⟩)=some (v32 r.ttl):=zac hA rfl
 have p2:zaw w1 (some ⟨w.heap.size,2,Option.none⟩) 5=some ds:=by
  have h7:=zay (n:=7) (l:=[ow,v32 r.ttl,vi r.dat.ty,.slice b1 m1 e1,.slice b2 m2 e2,.slice b3 m3 e3,.slice b4 m4 e4]) hA rfl
  have:=zaW (m:=2) (k:=5) h7
  rw[zaU]at this
  rw[hds];exact this
 refine rq ?_;intro gd K hgd hK
 try simp (disch:=first|omega|assumption|rfl) only[go_sem,p0,Nat.add_zero]
 refine Fn.mono (zbh w1 ow r.owner (h1.ext (hE0.trans hE1)) ho.1 ho.2) ?_
 rintro _ w2 ⟨rfl,hE2⟩
 try simp only[go_sem]
 refine hK _ _ ?_;clear hK hgd;clear K;try clear gd
 have hE12:=hE1.trans hE2
 have p1':=zaa hE2 p1
 have p2':=zaf hE2 p2
 repeat refine c_r ?_
 refine rg0 ?_
 repeat refine c_r ?_
 by_cases h0:zaH r.owner=0
 rotate_left
 ·refine zaO (t:=!decide (zaH r.owner=0)) (vr0) ?_ (fun h=>by rw[decide_eq_false h0]at h;cases h)
  intro _
  repeat refine c_r ?_
  refine rg0 ?_
  repeat refine c_r ?_
  refine rt0 Tryz.ntmps163 ?_
  exact⟨hE12,_,rfl,fun h=>absurd h h0⟩
 refine zaO (t:=!decide (zaH r.owner=0)) (vr0) (fun h=>by rw[decide_eq_true h0]at h;cases h) ?_
 intro _
 repeat refine c_r ?_
 refine rg2 p1' Nat.zero_add ?_
 repeat refine c_r ?_
 refine wc0 ?_ ?_
 ·intro _
  repeat (first|refine c_r ?_|refine rg0 ?_)
  refine rt0 Tryz.ntmps163 ?_
  exact⟨hE12,7,rfl,fun h=>by cases h⟩
 intro _
 repeat refine c_r ?_
 refine rq ?_;intro gd K hgd hK
 try simp (disch:=first|omega|assumption|rfl) only[go_sem,p2',Nat.zero_add]
 refine Fn.mono (zf6 (hE0.trans hE12) h2 hf) ?_
 rintro _ w3 ⟨hE3,e,rfl,he⟩
 try simp only[go_sem]
 refine hK _ _ ?_;clear hK hgd;clear K;try clear gd
 repeat refine c_r ?_
 refine rt0 Tryz.ntmps163 ?_
 exact⟨hE12.trans hE3,e,rfl,fun h=>⟨h0,he h⟩⟩
theorem few_f{n:Nm}(h:few n=true):(∀l∈n,l.length≤1000000000)∧n.length≤1000000000:=by
 simp only[few,Bool.and_eq_true,List.all_eq_true,decide_eq_true_eq]at h
 exact⟨fun l hl=>by have:=h.2 l hl;omega,by omega⟩
theorem DFew_ok{w0 w:World}(hE0:Ext w0 w){cs:List Value}{d:DatL}(hd:DatAt w0 cs d):
  Fn Tryz.prog 217 #[.agg cs.toArray] w (fun v w'=>Ext w w'∧∃b:Bool,v= .bool b∧(b=true→DatF d)):=by
 obtain⟨nm,nu,tx,rw',rfl,⟨vals,⟨an,cn,rfl,hcn,hgn⟩,hvl,hvr⟩,⟨au,cu,rfl,hcu,hgu⟩,⟨at1,ct,rfl,hct,hgt⟩,⟨ar,cr,rfl,hcr,hgr⟩⟩:=hd.ex
 simp only[List.length_map]at hcu hgu hct hgt hcr hgr
 simp only[List.length_map]
 refine enter Tryz.func217 Tryz.ntmps217 rfl rfl ?_
 repeat refine c_r ?_
 refine rg0 ?_
 repeat refine c_r ?_
 refine zaM ?_
 intro w1 hE1 hs1 hA
 have p1:zah w1 (some ⟨w.heap.size,1,Option.none⟩)=some (.slice an vals.length cn):=zac hA rfl
 have p2:zah w1 (some ⟨w.heap.size,2,Option.none⟩)=some (.slice au d.nums.length cu):=zac hA rfl
 have p3:zah w1 (some ⟨w.heap.size,3,Option.none⟩)=some (.slice at1 d.texts.length ct):=zac hA rfl
 have p4:zah w1 (some ⟨w.heap.size,4,Option.none⟩)=some (.slice ar d.raw.length cr):=zac hA rfl
 refine zax (Q:=fun e σ' ds' v'=>e= .normal∧ds'=[]∧σ' 1= .pointer (some ⟨w.heap.size,0,Option.none⟩)∧v'=w1∧∃bb,σ' 26= .bool bb∧(bb=false→vals.length≤8∧d.nums.length≤12∧d.texts.length≤40∧d.raw.length≤1100)) ?_ ?_
 ·by_cases hA1:(vals.length:Int)>8
  ·refine rq ?_;intro gd K hgd hK
   have hg4:∀n σ b,zas gd n σ (some (4,b))=zaj (ev n σ (.tmp 9)) b:=(fun n σ b=>by rw[zab,show gd 4=some 9 from(by rw[hgd];rfl)];rfl);have hg10:∀n σ b,zas gd n σ (some (10,b))=zaj (ev n σ (.tmp 15)) b:=(fun n σ b=>by rw[zab,show gd 10=some 15 from(by rw[hgd];rfl)];rfl);have hg16:∀n σ b,zas gd n σ (some (16,b))=zaj (ev n σ (.tmp 21)) b:=(fun n σ b=>by rw[zab,show gd 16=some 21 from(by rw[hgd];rfl)];rfl)
   try simp (disch:=first|omega|assumption|rfl) only[go_sem,p1,Nat.zero_add,decide_eq_true hA1,zbO,↓hg4,↓hg10,↓hg16]
   refine hK _ _ ?_;clear hK hgd;clear K;try clear gd
   exact⟨rfl,rfl,vq0,rfl,_,vr0,fun h=>by cases h⟩
  by_cases hA2:(d.nums.length:Int)>12
  ·refine rq ?_;intro gd K hgd hK
   have hg4:∀n σ b,zas gd n σ (some (4,b))=zaj (ev n σ (.tmp 9)) b:=(fun n σ b=>by rw[zab,show gd 4=some 9 from(by rw[hgd];rfl)];rfl);have hg10:∀n σ b,zas gd n σ (some (10,b))=zaj (ev n σ (.tmp 15)) b:=(fun n σ b=>by rw[zab,show gd 10=some 15 from(by rw[hgd];rfl)];rfl);have hg16:∀n σ b,zas gd n σ (some (16,b))=zaj (ev n σ (.tmp 21)) b:=(fun n σ b=>by rw[zab,show gd 16=some 21 from(by rw[hgd];rfl)];rfl)
   try simp (disch:=first|omega|assumption|rfl) only[go_sem,p1,p2,Nat.zero_add,decide_eq_false hA1,decide_eq_true hA2,zbO,↓hg4,↓hg10,↓hg16]
   refine hK _ _ ?_;clear hK hgd;clear K;try clear gd
   exact⟨rfl,rfl,vq0,rfl,_,vr0,fun h=>by cases h⟩
  by_cases hA3:(d.texts.length:Int)>40
  ·refine rq ?_;intro gd K hgd hK
   have hg4:∀n σ b,zas gd n σ (some (4,b))=zaj (ev n σ (.tmp 9)) b:=(fun n σ b=>by rw[zab,show gd 4=some 9 from(by rw[hgd];rfl)];rfl);have hg10:∀n σ b,zas gd n σ (some (10,b))=zaj (ev n σ (.tmp 15)) b:=(fun n σ b=>by rw[zab,show gd 10=some 15 from(by rw[hgd];rfl)];rfl);have hg16:∀n σ b,zas gd n σ (some (16,b))=zaj (ev n σ (.tmp 21)) b:=(fun n σ b=>by rw[zab,show gd 16=some 21 from(by rw[hgd];rfl)];rfl)
   try simp (disch:=first|omega|assumption|rfl) only[go_sem,p1,p2,p3,Nat.zero_add,decide_eq_false hA1,decide_eq_false hA2,decide_eq_true hA3,zbO,↓hg4,↓hg10,↓hg16]
   refine hK _ _ ?_;clear hK hgd;clear K;try clear gd
   exact⟨rfl,rfl,vq0,rfl,_,vr0,fun h=>by cases h⟩
  by_cases hA4:(d.raw.length:Int)>1100
  ·refine rq ?_;intro gd K hgd hK
   have hg4:∀n σ b,zas gd n σ (some (4,b))=zaj (ev n σ (.tmp 9)) b:=(fun n σ b=>by rw[zab,show gd 4=some 9 from(by rw[hgd];rfl)];rfl);have hg10:∀n σ b,zas gd n σ (some (10,b))=zaj (ev n σ (.tmp 15)) b:=(fun n σ b=>by rw[zab,show gd 10=some 15 from(by rw[hgd];rfl)];rfl);have hg16:∀n σ b,zas gd n σ (some (16,b))=zaj (ev n σ (.tmp 21)) b:=(fun n σ b=>by rw[zab,show gd 16=some 21 from(by rw[hgd];rfl)];rfl)
   try simp (disch:=first|omega|assumption|rfl) only[go_sem,p1,p2,p3,p4,Nat.zero_add,decide_eq_false hA1,decide_eq_false hA2,decide_eq_false hA3,decide_eq_true hA4,zbO,↓hg4,↓hg10,↓hg16]
   refine hK _ _ ?_;clear hK hgd;clear K;try clear gd
   exact⟨rfl,rfl,vq0,rfl,_,vr0,fun h=>by cases h⟩
  ·refine rq ?_;intro gd K hgd hK
   have hg4:∀n σ b,zas gd n σ (some (4,b))=zaj (ev n σ (.tmp 9)) b:=(fun n σ b=>by rw[zab,show gd 4=some 9 from(by rw[hgd];rfl)];rfl);have hg10:∀n σ b,zas gd n σ (some (10,b))=zaj (ev n σ (.tmp 15)) b:=(fun n σ b=>by rw[zab,show gd 10=some 15 from(by rw[hgd];rfl)];rfl);have hg16:∀n σ b,zas gd n σ (some (16,b))=zaj (ev n σ (.tmp 21)) b:=(fun n σ b=>by rw[zab,show gd 16=some 21 from(by rw[hgd];rfl)];rfl)
   try simp (disch:=first|omega|assumption|rfl) only[go_sem,p1,p2,p3,p4,Nat.zero_add,decide_eq_false hA1,decide_eq_false hA2,decide_eq_false hA3,decide_eq_false hA4,zbO,↓hg4,↓hg10,↓hg16]
   refine hK _ _ ?_;clear hK hgd;clear K;try clear gd
   exact⟨rfl,rfl,vq0,rfl,_,vr0,fun _=>⟨by omega,by omega,by omega,by omega⟩⟩
 rintro _ σ1 _ v1 ⟨rfl,rfl,h1,hv1,bb,h26,hbb⟩
 rw[hv1]
 clear hv1 v1
 repeat refine c_r ?_
 refine zaO (t:=bb) ((vq1 h26)) ?_ ?_
 ·intro _
  repeat (first|refine c_r ?_|refine rg0 ?_)
  refine rt0 Tryz.ntmps217 ?_
  exact⟨hE1,false,rfl,fun h=>by cases h⟩
 intro hb
 obtain⟨ln,lu,lt,lr⟩:=hbb hb
 repeat refine c_r ?_
 refine rg0 ?_
 repeat refine c_r ?_
 refine zax (Q:=fun e σ' ds' v'=>ds'=[]∧Ext w1 v'∧((e= .exit 0∧σ' 1= .pointer (some ⟨w.heap.size,0,Option.none⟩)∧∀n∈d.names,few n=true)∨(e= .ret∧σ' 2= .bool false))) ?_ ?_
 ·refine zai (fun m σ ds A=>ds=[]∧∃(i:Nat),i+m=vals.length∧σ 3=vi i∧σ 1= .pointer (some ⟨w.heap.size,0,Option.none⟩)∧Ext w1 A∧∀j (h:j<d.names.length),j<i→few d.names[j]=true) vals.length ?_ ?_
  ·exact⟨rfl,0,by omega,vr0,(vq1 h1),Keep.refl _ _,fun j h hj=>absurd hj (by omega)⟩
  clear h1
  rintro m σ ds A ⟨rfl,i,him,h3,h1,hEA,hlow⟩
  have q1:=zaa hEA p1
  repeat refine c_r ?_
  refine rg4 h3 h1 q1 Nat.zero_add ?_
  repeat refine c_r ?_
  refine wc0 ?_ ?_
  ·intro hlt
   simp only[decide_eq_true_eq]at hlt
   have hi:i<vals.length:=by omega
   have hi0:(0:Int)≤(i:Int):=by omega
   have hi1:(i:Int)<(vals.length:Int):=by omega
   have hi1':(i:Int)+1=((i+1:Nat):Int):=by push_cast;rfl
   have hgi:=hgn i hi
   obtain⟨xN,rfl⟩:=Option.isSome_iff_exists.1 (zad hgi)
   have hgi':=zaa (hE0.trans (hE1.trans hEA)) hgi
   have hrow:=hvr i hi (by omega)
   obtain⟨n,hn⟩:∃n,d.names[i]'(by omega)=n:=⟨_,rfl⟩
   rw[hn]at hrow
   obtain⟨hv,hhv⟩:∃hv,vals[i]=hv:=⟨_,rfl⟩
   rw[hhv]at hgi' hrow
   repeat refine c_r ?_
   refine rq ?_;intro gd K hgd hK
   try simp (disch:=first|omega|assumption|rfl) only[go_sem,h3,h1,q1,Nat.zero_add,hi0,hi1,hgi']
   refine Fn.mono (zgX A hv n (hrow.ext (hE0.trans (hE1.trans hEA)))) ?_
   rintro _ A2 ⟨rfl,hA2⟩
   try simp only[go_sem]
   refine hK _ _ ?_;clear hK hgd;clear K;try clear gd
   repeat refine c_r ?_
   refine zaO (t:=!few n) (vr0) ?_ ?_
   ·intro _
    repeat refine c_r ?_
    refine rg0 ?_
    repeat refine c_r ?_
    exact⟨rfl,hEA.trans hA2,.inr ⟨rfl,vq0⟩⟩
   ·intro hfn
    repeat refine c_r ?_
    refine rg2 h3 hi1' ?_
    repeat refine c_r ?_
    refine⟨m - 1,by omega,rfl,i+1,by omega,vq0,(vq1 h1),hEA.trans hA2,fun j hj hji=>?_⟩
    by_cases hj2:j=i
    ·subst hj2;rw[hn];simpa using hfn
    ·exact hlow j hj (by omega)
  ·intro hge
   simp only[decide_eq_false_iff_not]at hge
   repeat refine c_r ?_
   refine⟨rfl,hEA,.inl ⟨rfl,(vq1 h1),fun n hn=>?_⟩⟩
   obtain⟨j,hj,rfl⟩:=List.getElem_of_mem hn
   exact hlow j hj (by omega)
 clear h1
 rintro e σ4 _ A ⟨rfl,hEA,⟨rfl,h1,hall⟩| ⟨rfl,h2⟩⟩
 rotate_left
 ·repeat refine c_r ?_
  refine rt1 h2 Tryz.ntmps217 ?_
  exact⟨hE1.trans hEA,false,rfl,fun h=>by cases h⟩
 have q3:=zaa hEA p3
 repeat refine c_r ?_
 refine rg0 ?_
 repeat refine c_r ?_
 refine zax (Q:=fun e σ' ds' v'=>ds'=[]∧v'=A∧((e= .exit 2∧σ' 1= .pointer (some ⟨w.heap.size,0,Option.none⟩)∧∀l∈d.texts,l.length≤300)∨(e= .ret∧σ' 2= .bool false))) ?_ ?_
 ·refine zai (fun m σ ds B=>ds=[]∧∃(i:Nat),i+m=d.texts.length∧σ 4=vi i∧σ 1= .pointer (some ⟨w.heap.size,0,Option.none⟩)∧B=A∧∀j (h:j<d.texts.length),j<i→d.texts[j].length≤300) d.texts.length ?_ ?_
  ·exact⟨rfl,0,by omega,vr0,(vq1 h1),rfl,fun j h hj=>absurd hj (by omega)⟩
  clear h1
  rintro m σ ds B ⟨rfl,i,him,h4,h1,hB2,hlow⟩
  rw[hB2]
  clear hB2 B
  repeat refine c_r ?_
  refine rg4 h4 h1 q3 Nat.zero_add ?_
  repeat refine c_r ?_
  refine wc0 ?_ ?_
  ·intro hlt
   simp only[decide_eq_true_eq]at hlt
   have hi:i<d.texts.length:=by omega
   have hi0:(0:Int)≤(i:Int):=by omega
   have hi1:(i:Int)<(d.texts.length:Int):=by omega
   have hi1':(i:Int)+1=((i+1:Nat):Int):=by push_cast;rfl
   have hgi:=hgt i hi
   obtain⟨xT,rfl⟩:=Option.isSome_iff_exists.1 (zad hgi)
   have hgi':=zaa (hE0.trans (hE1.trans hEA)) hgi
   rw[List.getElem_map]at hgi'
   repeat refine c_r ?_
   refine rg7 h4 h1 q3 Nat.zero_add hi0 hi1 hgi' ?_
   repeat refine c_r ?_
   refine wc0 ?_ ?_
   ·intro hgt2
    repeat refine c_r ?_
    refine rg0 ?_
    repeat refine c_r ?_
    exact⟨rfl,rfl,.inr ⟨rfl,vq0⟩⟩
   ·intro hgt2
    simp only[decide_eq_false_iff_not]at hgt2
    repeat refine c_r ?_
    refine rg2 h4 hi1' ?_
    repeat refine c_r ?_
    refine⟨m - 1,by omega,rfl,i+1,by omega,vq0,(vq1 h1),rfl,fun j hj hji=>?_⟩
    by_cases hj2:j=i
    ·subst hj2;omega
    ·exact hlow j hj (by omega)
  ·intro hge
   simp only[decide_eq_false_iff_not]at hge
   repeat refine c_r ?_
   refine⟨rfl,rfl,.inl ⟨rfl,(vq1 h1),fun l hl=>?_⟩⟩
   obtain⟨j,hj,rfl⟩:=List.getElem_of_mem hl
   exact hlow j hj (by omega)
 clear h1
 rintro e σ6 _ v1 ⟨rfl,hv1,⟨rfl,h1,htl⟩| ⟨rfl,h2⟩⟩
 rotate_left
 ·rw[hv1]
  repeat refine c_r ?_
  refine rt1 h2 Tryz.ntmps217 ?_
  exact⟨hE1.trans hEA,false,rfl,fun h=>by cases h⟩
 rw[hv1]
 clear hv1 v1
 repeat (first|refine c_r ?_|refine rg0 ?_)
 refine rt0 Tryz.ntmps217 ?_
 exact⟨hE1.trans hEA,true,rfl,fun _=>⟨fun n hn=>few_f (hall n hn),by omega,by omega,by omega,fun l hl=>by have:=htl l hl;omega,by omega,by omega⟩⟩
theorem RsFew_ok{w0 w:World}(hE0:Ext w0 w){lv:Value}{R:List RecL}(hl:Rows 7 (RecAt w0) w lv R):
  Fn Tryz.prog 162 #[lv] w (fun v w'=>Ext w w'∧∃b:Bool,v= .bool b∧(b=true→R.length≤60∧∀r∈R,few r.owner=true∧DatF r.dat)):=by
 obtain⟨aR,cR,rfl,hcR,hgR⟩:=hl.open
 refine enter Tryz.func162 Tryz.ntmps162 rfl rfl ?_
 repeat refine c_r ?_
 refine rg0 ?_
 repeat refine c_r ?_
 refine rg0 ?_
 repeat refine c_r ?_
 refine wc0 ?_ ?_
 ·intro _
  repeat (first|refine c_r ?_|refine rg0 ?_)
  refine rt0 Tryz.ntmps162 ?_
  exact⟨Keep.refl _ _,false,rfl,fun h=>by cases h⟩
 intro h60
 simp only[decide_eq_false_iff_not]at h60
 repeat refine c_r ?_
 refine rg0 ?_
 repeat refine c_r ?_
 refine zai (fun m σ ds A=>ds=[]∧∃(i:Nat),i+m=R.length∧σ 3=vi i∧σ 0= .slice aR R.length cR∧Ext w A∧∀j (h:j<R.length),j<i→few R[j].owner=true∧DatF R[j].dat) R.length ?_ ?_
 ·exact⟨rfl,0,by omega,vr0,vq0,Keep.refl _ _,fun j h hj=>absurd hj (by omega)⟩
 rintro m σ ds A ⟨rfl,i,him,h3,h0,hEA,hlow⟩
 repeat refine c_r ?_
 refine rg2 h3 h0 ?_
 repeat refine c_r ?_
 refine wc0 ?_ ?_
 ·intro hlt
  simp only[decide_eq_true_eq]at hlt
  have hi:i<R.length:=by omega
  have hi0:(0:Int)≤(i:Int):=by omega
  have hi1:(i:Int)<(R.length:Int):=by omega
  have hi1':(i:Int)+1=((i+1:Nat):Int):=by push_cast;rfl
  obtain⟨cr,hcr,hRr⟩:=hgR i hi
  obtain⟨r,hr⟩:∃r,R[i]=r:=⟨_,rfl⟩
  rw[hr]at hRr
  obtain⟨ow,dsc,hcrE,o1,o2,g0,g1,g2,gd⟩:=hRr.cells
  obtain⟨xR,rfl⟩:=Option.isSome_iff_exists.1 (zan hcr)
  obtain⟨xi,hxi⟩:∃xi,adr (some xR) (i*7)=some xi:=⟨_,rfl⟩
  rw[hxi]at hcr
  obtain⟨xd,hxd⟩:∃xd,adr (some xi) 2=some xd:=⟨_,rfl⟩
  have rc:∀{x},Ext w x→zah x (some xi)=some ow∧zaw x (some xd) 5=some dsc:=fun {x} hx=>by
   have hcx:=zaf hx hcr
   have e0:=zaq hcx g0
   have e5:=zaW (m:=2) (k:=5) hcx
   rw[zar]at e0
   rw[hxd,gd]at e5
   exact⟨e0,e5⟩
  obtain⟨c0,_⟩:=rc hEA
  have hwA:=hE0.trans hEA
  repeat refine c_r ?_
  refine zax (Q:=fun e σ' ds' v'=>e= .normal∧ds'=[]∧σ' 3=vi i∧σ' 0= .slice (some xR) R.length cR∧Ext A v'∧∃bb,σ' 28= .bool bb∧(bb=false→few r.owner=true∧DatF r.dat)) ?_ ?_
  ·cases hf:few r.owner with
   |false=>
    refine rq ?_;intro gd K hgd hK
    have hg7:∀n σ b,zas gd n σ (some (7,b))=zaj (ev n σ (.tmp 20)) b:=(fun n σ b=>by rw[zab,show gd 7=some 20 from(by rw[hgd];rfl)];rfl)
    try simp (disch:=first|omega|assumption|rfl) only[go_sem,h0,h3,hi0,hi1,hxi,c0,zar]
    refine Fn.mono (zgX A ow r.owner (o1.ext hwA)) ?_
    rintro _ A2 ⟨rfl,hA2⟩
    rw[hf]
    try simp (disch:=first|omega|assumption|rfl) only[go_sem,Bool.not_false,↓hg7]
    refine hK _ _ ?_;clear hK hgd;clear K;try clear gd
    exact⟨rfl,rfl,(vq1 h3),(vq1 h0),hA2,_,vr0,fun h=>by cases h⟩
   |true=>
    refine rq ?_;intro gd K hgd hK
    have hg7:∀n σ b,zas gd n σ (some (7,b))=zaj (ev n σ (.tmp 20)) b:=(fun n σ b=>by rw[zab,show gd 7=some 20 from(by rw[hgd];rfl)];rfl)
    try simp (disch:=first|omega|assumption|rfl) only[go_sem,h0,h3,hi0,hi1,hxi,c0,zar]
    refine Fn.mono (zgX A ow r.owner (o1.ext hwA)) ?_
    rintro _ A2 ⟨rfl,hA2⟩
    rw[hf]
    obtain⟨_,c5⟩:=rc (hEA.trans hA2)
    try simp (disch:=first|omega|assumption|rfl) only[go_sem,h0,h3,hi0,hi1,hxi,hxd,c5,Bool.not_true,↓hg7]
    refine Fn.mono (DFew_ok (hwA.trans hA2) o2) ?_
    rintro _ A3 ⟨hA3,b,rfl,hb⟩
    try simp (disch:=first|omega|assumption|rfl) only[go_sem,↓hg7]
    refine hK _ _ ?_;clear hK hgd;clear K;try clear gd
    exact⟨rfl,rfl,(vq1 h3),(vq1 h0),hA2.trans hA3,_,vr0,fun h=>⟨rfl,hb (by simpa using h)⟩⟩
  clear h3 h0
  rintro _ σ1 _ A1 ⟨rfl,rfl,h3,h0,hA1,bb,h28,hbb⟩
  repeat refine c_r ?_
  refine zaO (t:=bb) ((vq1 h28)) ?_ ?_
  ·intro _
   repeat (first|refine c_r ?_|refine rg0 ?_)
   refine rt0 Tryz.ntmps162 ?_
   exact⟨hEA.trans hA1,false,rfl,fun h=>by cases h⟩
  ·intro ht
   repeat refine c_r ?_
   refine rg2 h3 hi1' ?_
   repeat refine c_r ?_
   refine⟨m - 1,by omega,rfl,i+1,by omega,vq0,(vq1 h0),hEA.trans hA1,fun j hj hji=>?_⟩
   by_cases hj2:j=i
   ·subst hj2;rw[hr];exact hbb ht
   ·exact hlow j hj (by omega)
 ·intro hge
  simp only[decide_eq_false_iff_not]at hge
  repeat (first|refine c_r ?_|refine rg0 ?_)
  refine rt0 Tryz.ntmps162 ?_
  refine⟨hEA,true,rfl,fun _=>⟨by omega,fun r hr=>?_⟩⟩
  obtain⟨j,hj,rfl⟩:=List.getElem_of_mem hr
  exact hlow j hj (by omega)
structure zfn(R:List RecL):Prop where
 len:R.length≤60
 few:∀r∈R,few r.owner=true∧DatF r.dat
 own:∀r∈R,zaH r.owner=0
 names:∀r∈R,∀n∈r.dat.names,zaH n=0
 lead:∀r∈R,zfS r.dat.ty→r.dat.names.length=1
theorem zkv{w0 w:World}(hE0:Ext w0 w){lv:Value}{R:List RecL}(hl:Rows 7 (RecAt w0) w lv R):
  Fn Tryz.prog 113 #[lv] w (fun v w'=>Ext w w'∧∃b:Bool,v= .bool b∧(b=true→zfn R)):=by
 obtain⟨aR,cR,rfl,hcR,hgR⟩:=hl.open
 refine enter Tryz.func113 Tryz.ntmps113 rfl rfl ?_
 repeat refine c_r ?_
 refine rg0 ?_
 repeat refine c_r ?_
 refine rq ?_;intro gd K hgd hK
 try simp only[go_sem]
 refine Fn.mono (RsFew_ok hE0 hl) ?_
 rintro _ w1 ⟨hE1,b,rfl,hb⟩
 try simp only[go_sem]
 refine hK _ _ ?_;clear hK hgd;clear K;try clear gd
 repeat refine c_r ?_
 refine zaO (t:=!b) (vr0) ?_ ?_
 ·intro _
  repeat (first|refine c_r ?_|refine rg0 ?_)
  refine rt0 Tryz.ntmps113 ?_
  exact⟨hE1,false,rfl,fun h=>by cases h⟩
 intro hb2
 obtain⟨hRl,hRf⟩:=hb (by simpa using hb2)
 repeat refine c_r ?_
 refine rg0 ?_
 repeat refine c_r ?_
 refine zai (fun m σ ds A=>ds=[]∧∃(i:Nat),i+m=R.length∧σ 3=vi i∧σ 0= .slice aR R.length cR∧Ext w A∧∀j (h:j<R.length),j<i→zaH R[j].owner=0∧(∀n∈R[j].dat.names,zaH n=0)∧(zfS R[j].dat.ty→R[j].dat.names.length=1)) R.length ?_ ?_
 ·exact⟨rfl,0,by omega,vr0,vq0,hE1,fun j h hj=>absurd hj (by omega)⟩
 rintro m σ ds A ⟨rfl,i,him,h3,h0,hEA,hlow⟩
 repeat refine c_r ?_
 refine rg2 h3 h0 ?_
 repeat refine c_r ?_
 refine wc0 ?_ ?_
 ·intro hlt
  simp only[decide_eq_true_eq]at hlt
  have hi:i<R.length:=by omega
  have hi0:(0:Int)≤(i:Int):=by omega
  have hi1:(i:Int)<(R.length:Int):=by omega
  have hi1':(i:Int)+1=((i+1:Nat):Int):=by push_cast;rfl
  obtain⟨cr,hcr,hRr⟩:=hgR i hi
  obtain⟨r,hr⟩:∃r,R[i]=r:=⟨_,rfl⟩
  rw[hr]at hRr
  obtain⟨f1,f2⟩:=hRf r (hr▸List.getElem_mem hi)
  obtain⟨xR,rfl⟩:=Option.isSome_iff_exists.1 (zan hcr)
  obtain⟨xi,hxi⟩:∃xi,adr (some xR) (i*7)=some xi:=⟨_,rfl⟩
  rw[hxi]at hcr
  have hcA:=zaf hEA hcr
  have hwA:=hE0.trans hEA
  repeat refine c_r ?_
  refine rq ?_;intro gd K hgd hK
  try simp (disch:=first|omega|assumption|rfl) only[go_sem,h0,h3,hi0,hi1,hxi,hcA]
  refine Fn.mono (zkx hwA hRr f2.nn) ?_
  rintro _ A2 ⟨hA2,cs',nm',rfl,hx⟩
  try simp only[go_sem]
  refine Fn.mono (zgT (Keep.refl _ A2) (hx.at (hwA.trans hA2)) f2 (few_f f1)) ?_
  rintro _ A3 ⟨hA3,e,rfl,he⟩
  try simp only[go_sem]
  refine hK _ _ ?_;clear hK hgd;clear K;try clear gd
  repeat refine c_r ?_
  by_cases h0e:e=0
  ·refine zaO (t:=!decide (e=0)) (vr0) (fun h=>by rw[decide_eq_true h0e]at h;cases h) ?_
   intro _
   repeat refine c_r ?_
   refine rg2 h3 hi1' ?_
   repeat refine c_r ?_
   refine⟨m - 1,by omega,rfl,i+1,by omega,vq0,(vq1 h0),hEA.trans (hA2.trans hA3),fun j hj hji=>?_⟩
   by_cases hj2:j=i
   ·subst hj2;rw[hr];exact he h0e
   ·exact hlow j hj (by omega)
  ·refine zaO (t:=!decide (e=0)) (vr0) ?_ (fun h=>by rw[decide_eq_false h0e]at h;cases h)
   intro _
   repeat (first|refine c_r ?_|refine rg0 ?_)
   refine rt0 Tryz.ntmps113 ?_
   exact⟨hEA.trans (hA2.trans hA3),false,rfl,fun h=>by cases h⟩
 ·intro hge
  simp only[decide_eq_false_iff_not]at hge
  repeat (first|refine c_r ?_|refine rg0 ?_)
  refine rt0 Tryz.ntmps113 ?_
  have hall:∀r∈R,zaH r.owner=0∧(∀n∈r.dat.names,zaH n=0)∧(zfS r.dat.ty→r.dat.names.length=1):=fun r hr=>by
   obtain⟨j,hj,rfl⟩:=List.getElem_of_mem hr
   exact hlow j hj (by omega)
  exact⟨hEA,true,rfl,fun _=>⟨hRl,hRf,fun r hr=>(hall r hr).1,fun r hr=>(hall r hr).2.1,fun r hr=>(hall r hr).2.2⟩⟩
theorem ZGood_ok{w0 w:World}(hE0:Ext w0 w){ov lv:Value}{o:Nm}{R:List RecL}(ho:Row w ov (o.map vs))(hl:Rows 7 (RecAt w0) w lv R):
  Fn Tryz.prog 62 #[ov,lv] w (fun v w'=>Ext w w'∧∃b:Bool,v= .bool b∧(b=true→zeW o=true∧zfn R)):=by
 refine enter Tryz.func62 Tryz.ntmps62 rfl rfl ?_
 repeat refine c_r ?_
 refine rg0 ?_
 repeat refine c_r ?_
 cases hg:zeW o with
 |false=>
  refine rq ?_;intro gd K hgd hK
  have hg2:∀n σ b,zas gd n σ (some (2,b))=zaj (ev n σ (.tmp 7)) b:=(fun n σ b=>by rw[zab,show gd 2=some 7 from(by rw[hgd];rfl)];rfl)
  try simp only[go_sem]
  refine Fn.mono (zii w ov o ho) ?_
  rintro _ w1 ⟨rfl,hE1⟩
  rw[hg]
  try simp (disch:=first|omega|assumption|rfl) only[go_sem,↓hg2]
  refine hK _ _ ?_;clear hK hgd;clear K;try clear gd
  repeat refine c_r ?_
  refine rt0 Tryz.ntmps62 ?_
  exact⟨hE1,false,rfl,fun h=>by cases h⟩
 |true=>
  refine rq ?_;intro gd K hgd hK
  have hg2:∀n σ b,zas gd n σ (some (2,b))=zaj (ev n σ (.tmp 7)) b:=(fun n σ b=>by rw[zab,show gd 2=some 7 from(by rw[hgd];rfl)];rfl)
  try simp only[go_sem]
  refine Fn.mono (zii w ov o ho) ?_
  rintro _ w1 ⟨rfl,hE1⟩
  rw[hg]
  try simp (disch:=first|omega|assumption|rfl) only[go_sem,↓hg2]
  refine Fn.mono (zkv (hE0.trans hE1) (hl.ext hE1)) ?_
  rintro _ w2 ⟨hE2,b,rfl,hb⟩
  try simp (disch:=first|omega|assumption|rfl) only[go_sem,↓hg2]
  refine hK _ _ ?_;clear hK hgd;clear K;try clear gd
  repeat refine c_r ?_
  refine rt0 Tryz.ntmps62 ?_
  exact⟨hE1.trans hE2,b,rfl,fun h=>⟨rfl,hb h⟩⟩
section
variable {A B C D E F G H I : Prop}
theorem an2(a:A)(b:B):A∧B:=⟨a,b⟩
theorem an3(a:A)(b:B)(c:C):A∧B∧C:=⟨a,b,c⟩
theorem an4(a:A)(b:B)(c:C)(d:D):A∧B∧C∧D:=⟨a,b,c,d⟩
theorem an5(a:A)(b:B)(c:C)(d:D)(e:E):A∧B∧C∧D∧E:=⟨a,b,c,d,e⟩
theorem an6(a:A)(b:B)(c:C)(d:D)(e:E)(f:F):A∧B∧C∧D∧E∧F:=⟨a,b,c,d,e,f⟩
theorem an7(a:A)(b:B)(c:C)(d:D)(e:E)(f:F)(g:G):A∧B∧C∧D∧E∧F∧G:=⟨a,b,c,d,e,f,g⟩
theorem an8(a:A)(b:B)(c:C)(d:D)(e:E)(f:F)(g:G)(h:H):A∧B∧C∧D∧E∧F∧G∧H:=⟨a,b,c,d,e,f,g,h⟩
theorem an9(a:A)(b:B)(c:C)(d:D)(e:E)(f:F)(g:G)(h:H)(i:I):A∧B∧C∧D∧E∧F∧G∧H∧I:=⟨a,b,c,d,e,f,g,h,i⟩
end
def gdOk:List (Nat×Nat)→(Nat→Option Tmp)→Prop
 | [],_=>True
 |p::l,gd=>gd p.1=some p.2∧gdOk l gd
theorem zhj{L:List Oper}:∀{gs:List (Nat×Nat)},(gs.all fun p=>dstL L p.1==some p.2)=true→gdOk gs (dstL L)
 | [],_=>trivial
 |p::l,h=>by
  simp only[List.all_cons,Bool.and_eq_true,beq_iff_eq]at h
  exact⟨h.1,zhj h.2⟩
theorem zbX(b:Bool):zaj undef b=false:=nr rfl
def Rest(P:Program)(Q:Post)(ds:List Deferred)(L:List Oper)(F:(Nat→Option Tmp)→(Sto→World→Prop)→Prop):Prop:=
 ∀(gd:Nat→Option Tmp) (K:Sto→World→Prop),gd=dstL L→(∀σ' w',Q .normal σ' ds w'→K σ' w')→F gd K
section
variable {P : Program} {r : Option Nat} {n : Nat} {Q : Post} {σ : Sto} {ds : List Deferred} {w : World} {p : Prop} {L : List Oper} {F : (Nat → Option Tmp) → (Sto → World → Prop) → Prop}
theorem wt{c:Operand}{x y:Code}(h:p)(ht:W P r n x Q σ ds w)(hc:p→ev n σ c= .bool true:=by intro h1;first| (simp only[go_sem,h1];done)| (simp only[go_sem,h1];rfl)):W P r n (.cond c x y) Q σ ds w:=zaO (hc h) (fun _=>ht) (fun h=>by cases h)
theorem wf{c:Operand}{x y:Code}(h:p)(ht:W P r n y Q σ ds w)(hc:p→ev n σ c= .bool false:=by intro h1;first| (simp only[go_sem,h1];done)| (simp only[go_sem,h1];rfl)):W P r n (.cond c x y) Q σ ds w:=zaO (hc h) (fun h=>by cases h) (fun _=>ht)
theorem ro{id:Nat}{ops:Array Oper}(h:Rest P Q ds ops.toList (fun gd K=>opsV P gd n ops.toList σ w K))(hd:zaY ops=true:=by rfl):W P r n (.region id ops false) Q σ ds w:=zcv hd fun gd K hgd hK=>h gd K hgd hK
theorem rd{f:FuncId}{args:Array Value}{w1:World}{R:Value→World→Prop}{C:(Nat→Option Tmp)→(Sto→World→Prop)→Value→World→Prop}(h:p)(hF:Fn P f args w1 R)(hr:∀v w',R v w'→Rest P Q ds L (fun gd K=>C gd K v w'))
  (hs:p→∀(gd:Nat→Option Tmp) (K:Sto→World→Prop),F gd K=Fn P f args w1 (fun v w'=>C gd K v w'):=by intro h1 gd K;(simp (disch:=first|omega|assumption|rfl) only[go_sem,h1])<;>exact rfl):Rest P Q ds L F:=
 fun gd K hgd hK=>(hs h gd K).mpr (Fn.mono hF fun v w' hR=>hr v w' hR gd K hgd hK)
theorem rc{id:Nat}{ops:Array Oper}{f:FuncId}{args:Array Value}{w1:World}{R:Value→World→Prop}{C:(Nat→Option Tmp)→(Sto→World→Prop)→Value→World→Prop}(h:p)(hF:Fn P f args w1 R)(hr:∀v w',R v w'→Rest P Q ds ops.toList (fun gd K=>C gd K v w'))
  (hs:p→∀(gd:Nat→Option Tmp) (K:Sto→World→Prop),opsV P gd n ops.toList σ w K=Fn P f args w1 (fun v w'=>C gd K v w'):=by intro h1 gd K;(simp (disch:=first|omega|assumption|rfl) only[go_sem,h1])<;>exact rfl)
  (hd:zaY ops=true:=by rfl):W P r n (.region id ops false) Q σ ds w:=ro (rd h hF hr hs) hd
theorem re{σ1:Sto}{w1:World}(h:p)(hq:Q .normal σ1 ds w1)
  (hs:p→∀(gd:Nat→Option Tmp) (K:Sto→World→Prop),F gd K=K σ1 w1:=by intro h1 gd K;(first| (simp (disch:=first|omega|assumption|rfl) only[go_sem,h1])|skip)<;>exact rfl):Rest P Q ds L F:=
 fun gd K _ hK=>(hs h gd K).mpr (hK _ _ hq)
theorem rdg(gs:List (Nat×Nat)){f:FuncId}{args:Array Value}{w1:World}{R:Value→World→Prop}{C:(Nat→Option Tmp)→(Sto→World→Prop)→Value→World→Prop}(h:p)(hF:Fn P f args w1 R)(hr:∀v w',R v w'→Rest P Q ds L (fun gd K=>C gd K v w'))
  (hs:p→∀(gd:Nat→Option Tmp) (K:Sto→World→Prop),gdOk gs gd→F gd K=Fn P f args w1 (fun v w'=>C gd K v w'):=by intro h1 gd K hg;simp only[gdOk]at hg;(simp (disch:=first|omega|assumption|rfl) only[go_sem,zab,zbZ,zbX,hg,h1])<;>exact rfl)
  (hg:(gs.all fun p=>dstL L p.1==some p.2)=true:=by exact rfl):Rest P Q ds L F:=
 fun gd K hgd hK=>(hs h gd K (hgd▸zhj hg)).mpr (Fn.mono hF fun v w' hR=>hr v w' hR gd K hgd hK)
theorem rcg(gs:List (Nat×Nat)){id:Nat}{ops:Array Oper}{f:FuncId}{args:Array Value}{w1:World}{R:Value→World→Prop}{C:(Nat→Option Tmp)→(Sto→World→Prop)→Value→World→Prop}(h:p)(hF:Fn P f args w1 R)(hr:∀v w',R v w'→Rest P Q ds ops.toList (fun gd K=>C gd K v w'))
  (hs:p→∀(gd:Nat→Option Tmp) (K:Sto→World→Prop),gdOk gs gd→opsV P gd n ops.toList σ w K=Fn P f args w1 (fun v w'=>C gd K v w'):=by intro h1 gd K hg;simp only[gdOk]at hg;(simp (disch:=first|omega|assumption|rfl) only[go_sem,zab,zbZ,zbX,hg,h1])<;>exact rfl)
  (hg:(gs.all fun p=>dstL ops.toList p.1==some p.2)=true:=by exact rfl) (hd:zaY ops=true:=by rfl):W P r n (.region id ops false) Q σ ds w:=ro (rdg gs h hF hr hs hg) hd
theorem reg(gs:List (Nat×Nat)){σ1:Sto}{w1:World}(h:p)(hq:Q .normal σ1 ds w1)
  (hs:p→∀(gd:Nat→Option Tmp) (K:Sto→World→Prop),gdOk gs gd→F gd K=K σ1 w1:=by intro h1 gd K hg;simp only[gdOk]at hg;(first| (simp (disch:=first|omega|assumption|rfl) only[go_sem,zab,zbZ,zbX,hg,h1])|skip)<;>exact rfl)
  (hg:(gs.all fun p=>dstL L p.1==some p.2)=true:=by exact rfl):Rest P Q ds L F:=
 fun gd K hgd hK=>(hs h gd K (hgd▸zhj hg)).mpr (hK _ _ hq)
theorem rgg(gs:List (Nat×Nat)){id:Nat}{ops:Array Oper}{σ1:Sto}{w1:World}(h:p)(hq:Q .normal σ1 ds w1)
  (hs:p→∀(gd:Nat→Option Tmp) (K:Sto→World→Prop),gdOk gs gd→opsV P gd n ops.toList σ w K=K σ1 w1:=by intro h1 gd K hg;simp only[gdOk]at hg;(simp (disch:=first|omega|assumption|rfl) only[go_sem,zab,zbZ,zbX,hg,h1])<;>exact rfl)
  (hg:(gs.all fun p=>dstL ops.toList p.1==some p.2)=true:=by exact rfl) (hd:zaY ops=true:=by rfl):W P r n (.region id ops false) Q σ ds w:=ro (reg gs h hq hs hg) hd
end
theorem zdM{α:Type}{xs ys:List α}{i:Nat}(h1:i<xs.length)(h2:i<ys.length)(ht:xs.take i=ys.take i)(he:xs[i]=ys[i]):xs.take (i+1)=ys.take (i+1):=by
 rw[zak h1,zak h2,ht,he]
theorem zkI(w:World){a b:Value}{xs ys:List Lab}(ha:Row w a (xs.map vs))(hb:Row w b (ys.map vs))(hl:xs.length≤1000000000000000):
  Fn Tryz.prog 114 #[a,b] w (fun v w'=>Ext w w'∧∃t,v= .bool t∧(t=true→xs=ys)):=by
 obtain⟨a1,c1,rfl,_,h1⟩:=ha
 obtain⟨a2,c2,rfl,_,h2⟩:=hb
 simp only[List.length_map,List.getElem_map]at h1 h2 ⊢
 refine enter Tryz.func114 Tryz.ntmps114 rfl rfl ?_
 repeat refine c_r ?_
 refine rg0 ?_
 repeat refine c_r ?_
 by_cases hn:(xs.length:Int)=(ys.length:Int)
 rotate_left
 ·refine rg1 (decide_eq_false hn) ?_
  repeat refine c_r ?_
  refine wt Bool.not_false ?_
  repeat (first|refine c_r ?_|refine rg0 ?_)
  refine rt0 Tryz.ntmps114 ?_
  exact⟨Keep.refl _ _,_,rfl,fun h=>by cases h⟩
 refine rg1 (decide_eq_true hn) ?_
 repeat refine c_r ?_
 refine wf Bool.not_true ?_
 have hn':xs.length=ys.length:=by omega
 repeat refine c_r ?_
 refine rg0 ?_
 repeat refine c_r ?_
 refine zai (fun m σ ds A=>ds=[]∧∃(i:Nat),i+m=xs.length∧σ 5=vi i∧σ 0= .slice a1 xs.length c1∧σ 1= .slice a2 ys.length c2∧Ext w A∧xs.take i=ys.take i) xs.length ?_ ?_
 ·exact⟨rfl,0,by omega,vr0,vq0,vq0,Keep.refl _ _,rfl⟩
 rintro m σ ds A ⟨rfl,i,him,s5,s0,s1,hEA,ht⟩
 repeat refine c_r ?_
 refine rg2 s5 s0 ?_
 repeat refine c_r ?_
 refine wc0 ?_ ?_
 ·intro hlt
  simp only[decide_eq_true_eq]at hlt
  have hi:i<xs.length:=by omega
  have hi2:i<ys.length:=by omega
  have hi0:(0:Int)≤(i:Int):=by omega
  have hi1:(i:Int)<(ys.length:Int):=by omega
  have hi1':(i:Int)+1=((i+1:Nat):Int):=by push_cast;rfl
  have g1:=h1 i hi
  have g2:=h2 i hi2
  obtain⟨x1,rfl⟩:=Option.isSome_iff_exists.1 (zad g1)
  obtain⟨x2,rfl⟩:=Option.isSome_iff_exists.1 (zad g2)
  repeat refine c_r ?_
  refine zaL (fun _=>false) [(0,true),(1,true),(2,true),(3,true),(4,true),(5,true),(6,true),(7,true),(8,true)] NoS mixed (by kernel_rfl) ?_;intro gd K x hgd hx hxe hK;clear hxe
  have g1x:=zaa (hEA.trans hx) g1
  have g2x:=zaa (hEA.trans hx) g2
  simp (disch:=first|omega|assumption|rfl) only[go_sem,s5,s0,s1,hi0,hlt,hi1,g1x,g2x,Nat.mul_one]
  refine hK _ _ ?_;clear hK hgd;clear K;try clear gd
  by_cases he:xs[i]=ys[i]
  ·repeat refine c_r ?_
   refine wf (an2 (decide_eq_true he) Bool.not_true) ?_
   repeat refine c_r ?_
   refine rg2 s5 hi1' ?_
   repeat refine c_r ?_
   exact⟨m - 1,by omega,rfl,i+1,by omega,vq0,(vq1 s0),(vq1 s1),hEA.trans hx,zdM hi hi2 ht he⟩
  ·repeat refine c_r ?_
   refine wt (an2 (decide_eq_false he) Bool.not_false) ?_
   repeat (first|refine c_r ?_|refine rg0 ?_)
   refine rt0 Tryz.ntmps114 ?_
   exact⟨hEA.trans hx,_,rfl,fun h=>by cases h⟩
 ·intro hge
  simp only[decide_eq_false_iff_not]at hge
  repeat (first|refine c_r ?_|refine rg0 ?_)
  refine rt0 Tryz.ntmps114 ?_
  refine⟨hEA,_,rfl,fun _=>?_⟩
  rwa [List.take_of_length_le (by omega),List.take_of_length_le (by omega)]at ht
structure DatN(d:DatL):Prop where
 nn:d.names.length≤1000000000000000
 ns:∀n∈d.names,n.length≤1000000000000000
 nu:d.nums.length≤1000000000000000
 nt:d.texts.length≤1000000000000000
theorem DatOk.n{d:DatL}(h:DatOk d):DatN d:=⟨h.nn,fun n hn=>(h.names n hn).2,h.nu,h.nt⟩
theorem Is4_ok(w:World){ca cb:List Value}{a b:DatL}(ha:DatAt w ca a)(hb:DatAt w cb b)(ka:DatN a):
  Fn Tryz.prog 115 #[.agg ca.toArray,.agg cb.toArray] w (fun v w'=>Ext w w'∧∃t,v= .bool t∧(t=true→a=b)):=by
 obtain⟨nm,nu,tx,rw1,rfl,hnm,hnu,htx,hrw⟩:=ha.ex
 obtain⟨mm,mu,ux,rw2,rfl,hmm,hmu,hux,hrx⟩:=hb.ex
 obtain⟨V1,⟨a1,c1,rfl,_,ga⟩,lV1,hV1⟩:=hnm
 obtain⟨V2,⟨a2,c2,rfl,_,gb⟩,lV2,hV2⟩:=hmm
 obtain⟨a3,c3,rfl,_,gc⟩:=hnu
 obtain⟨a4,c4,rfl,_,gd4⟩:=hmu
 obtain⟨a5,c5,htxe,_⟩:=id htx
 obtain⟨a6,c6,huxe,_⟩:=id hux
 obtain⟨a7,c7,rfl,_,gr⟩:=hrw
 obtain⟨a8,c8,rfl,_,gs⟩:=hrx
 simp only[List.length_map,List.getElem_map]at gc gd4 gr gs htxe huxe ⊢
 refine enter Tryz.func115 Tryz.ntmps115 rfl rfl ?_
 repeat refine c_r ?_
 rw[htxe,huxe]
 refine rg0 ?_
 repeat refine c_r ?_
 rw[zap]
 refine zbP ?_
 intro w1 hE1 hs1 hA hB
 have p0:zah w1 (some ⟨w.heap.size,0,Option.none⟩)=some (vi a.ty):=zac hA rfl
 have p1:zah w1 (some ⟨w.heap.size,1,Option.none⟩)=some (.slice a1 V1.length c1):=zac hA rfl
 have p2:zah w1 (some ⟨w.heap.size,2,Option.none⟩)=some (.slice a3 a.nums.length c3):=zac hA rfl
 have p3:zah w1 (some ⟨w.heap.size,3,Option.none⟩)=some (.slice a5 a.texts.length c5):=zac hA rfl
 have p4:zah w1 (some ⟨w.heap.size,4,Option.none⟩)=some (.slice a7 a.raw.length c7):=zac hA rfl
 have q0:zah w1 (some ⟨w.heap.size+1,0,Option.none⟩)=some (vi b.ty):=zac hB rfl
 have q1:zah w1 (some ⟨w.heap.size+1,1,Option.none⟩)=some (.slice a2 V2.length c2):=zac hB rfl
 have q2:zah w1 (some ⟨w.heap.size+1,2,Option.none⟩)=some (.slice a4 b.nums.length c4):=zac hB rfl
 have q3:zah w1 (some ⟨w.heap.size+1,3,Option.none⟩)=some (.slice a6 b.texts.length c6):=zac hB rfl
 have q4:zah w1 (some ⟨w.heap.size+1,4,Option.none⟩)=some (.slice a8 b.raw.length c8):=zac hB rfl
 repeat refine c_r ?_
 refine zax (Q:=fun e σ' ds' v'=>e= .normal∧ds'=[]∧v'=w1∧σ' 2= .pointer (some ⟨w.heap.size,0,Option.none⟩)∧σ' 3= .pointer (some ⟨w.heap.size+1,0,Option.none⟩)∧∃t,σ' 47= .bool t∧(t=false→a.ty=b.ty∧V1.length=V2.length∧a.nums.length=b.nums.length∧a.texts.length=b.texts.length∧a.raw=b.raw)) ?_ ?_
 ·by_cases e0:a.ty=b.ty
  rotate_left
  ·refine rgg [(5,12),(14,21),(23,30),(32,39)] (an5 p0 q0 Nat.add_zero (decide_eq_false e0) Bool.not_false) ?_
   exact⟨rfl,rfl,rfl,vq0,vq0,_,vr0,fun h=>by cases h⟩
  by_cases e1:(V1.length:Int)=(V2.length:Int)
  rotate_left
  ·refine rgg [(5,12),(14,21),(23,30),(32,39)] (an9 p0 q0 Nat.add_zero (decide_eq_true e0) Bool.not_true p1 q1 Nat.zero_add (decide_eq_false e1)) ?_
   exact⟨rfl,rfl,rfl,vq0,vq0,_,vr0,fun h=>by cases h⟩
  by_cases e2:(a.nums.length:Int)=(b.nums.length:Int)
  rotate_left
  ·refine rgg [(5,12),(14,21),(23,30),(32,39)] (an4 (an9 p0 q0 Nat.add_zero (decide_eq_true e0) Bool.not_true p1 q1 Nat.zero_add (decide_eq_true e1)) p2 q2 (decide_eq_false e2)) ?_
   exact⟨rfl,rfl,rfl,vq0,vq0,_,vr0,fun h=>by cases h⟩
  by_cases e3:(a.texts.length:Int)=(b.texts.length:Int)
  rotate_left
  ·refine rgg [(5,12),(14,21),(23,30),(32,39)] (an7 (an9 p0 q0 Nat.add_zero (decide_eq_true e0) Bool.not_true p1 q1 Nat.zero_add (decide_eq_true e1)) p2 q2 (decide_eq_true e2) p3 q3 (decide_eq_false e3)) ?_
   exact⟨rfl,rfl,rfl,vq0,vq0,_,vr0,fun h=>by cases h⟩
  refine rq ?_;intro gd K hgd hK
  have hg5:∀n σ b,zas gd n σ (some (5,b))=zaj (ev n σ (.tmp 12)) b:=(fun n σ b=>by rw[zab,show gd 5=some 12 from(by rw[hgd];rfl)];rfl);have hg14:∀n σ b,zas gd n σ (some (14,b))=zaj (ev n σ (.tmp 21)) b:=(fun n σ b=>by rw[zab,show gd 14=some 21 from(by rw[hgd];rfl)];rfl);have hg23:∀n σ b,zas gd n σ (some (23,b))=zaj (ev n σ (.tmp 30)) b:=(fun n σ b=>by rw[zab,show gd 23=some 30 from(by rw[hgd];rfl)];rfl);have hg32:∀n σ b,zas gd n σ (some (32,b))=zaj (ev n σ (.tmp 39)) b:=(fun n σ b=>by rw[zab,show gd 32=some 39 from(by rw[hgd];rfl)];rfl)
  try simp (disch:=first|omega|assumption|rfl) only[go_sem,p0,q0,Nat.add_zero,decide_eq_true e0,Bool.not_true,p1,q1,Nat.zero_add,decide_eq_true e1,p2,q2,decide_eq_true e2,p3,q3,decide_eq_true e3,p4,↓hg5,↓hg14,↓hg23,↓hg32]
  refine zde (l:=a.raw) rfl rfl rfl (vq0) (fun j hj=>zaa hE1 (gr j hj)) ?_
  try simp (disch:=first|omega|assumption|rfl) only[go_sem,q4,Nat.zero_add,↓hg5,↓hg14,↓hg23,↓hg32]
  refine zde (l:=b.raw) rfl rfl rfl (vq0) (fun j hj=>zaa hE1 (gs j hj)) ?_
  try simp (disch:=first|omega|assumption|rfl) only[go_sem,↓hg5,↓hg14,↓hg23,↓hg32]
  refine hK _ _ ?_;clear hK hgd;clear K;try clear gd
  exact⟨rfl,rfl,rfl,vq0,vq0,_,vr0,fun h=>⟨e0,by omega,by omega,by omega,by simpa using h⟩⟩
 rintro _ σ1 _ w2 ⟨rfl,rfl,rfl,s2,s3,t,s47,ht⟩
 repeat refine c_r ?_
 cases t with
 |true=>
  refine wt s47 ?_
  repeat (first|refine c_r ?_|refine rg0 ?_)
  refine rt0 Tryz.ntmps115 ?_
  exact⟨hE1,_,rfl,fun h=>by cases h⟩
 |false=>
 refine wf s47 ?_
 obtain⟨e0,e1,e2,e3,e4⟩:=ht rfl
 clear s47 ht
 have kn:=ka.nn
 have ku:=ka.nu
 have kt:=ka.nt
 repeat refine c_r ?_
 refine rg0 ?_
 repeat refine c_r ?_
 refine zai (fun m σ ds A=>ds=[]∧∃(i:Nat),i+m=V1.length∧σ 5=vi i∧σ 2= .pointer (some ⟨w.heap.size,0,Option.none⟩)∧σ 3= .pointer (some ⟨w.heap.size+1,0,Option.none⟩)∧Ext w2 A∧a.names.take i=b.names.take i) V1.length ?_ ?_
 ·exact⟨rfl,0,by omega,vr0,(vq1 s2),(vq1 s3),Keep.refl _ _,rfl⟩
 clear s2 s3
 rintro m σ ds A ⟨rfl,i,him,s5,s2,s3,hEA,ht⟩
 have p1A:=zaa hEA p1
 have q1A:=zaa hEA q1
 repeat refine c_r ?_
 refine rg4 s5 s2 p1A Nat.zero_add ?_
 repeat refine c_r ?_
 refine wc0 ?_ ?_
 ·intro hlt
  simp only[decide_eq_true_eq]at hlt
  have hi:i<V1.length:=by omega
  have hi2:i<V2.length:=by omega
  have hi0:(0:Int)≤(i:Int):=by omega
  have hi1:(i:Int)<(V2.length:Int):=by omega
  have hi1':(i:Int)+1=((i+1:Nat):Int):=by push_cast;rfl
  have g1:=ga i hi
  have g2:=gb i hi2
  have r1:=hV1 i hi (by omega)
  have r2:=hV2 i hi2 (by omega)
  have kl:=ka.ns _ (List.getElem_mem (show i<a.names.length by omega))
  obtain⟨x1,rfl⟩:=Option.isSome_iff_exists.1 (zad g1)
  obtain⟨x2,rfl⟩:=Option.isSome_iff_exists.1 (zad g2)
  repeat refine c_r ?_
  refine zaL (fun _=>false) [(0,true),(1,true),(2,true),(3,true),(4,true),(5,true),(6,true),(7,true),(8,true),(9,true),(10,false),(11,true)] NoS mixed (by kernel_rfl) ?_;intro gd K x hgd hx hxe hK;clear hxe
  have g1x:=zaa (hE1.trans (hEA.trans hx)) g1
  have g2x:=zaa (hE1.trans (hEA.trans hx)) g2
  have p1x:=zaa hx p1A
  have q1x:=zaa hx q1A
  simp (disch:=first|omega|assumption|rfl) only[go_sem,s5,s2,s3,hi0,hlt,hi1,g1x,g2x,p1x,q1x,Nat.mul_one,Nat.zero_add]
  refine Fn.mono (zkI x (r1.ext (hE1.trans (hEA.trans hx))) (r2.ext (hE1.trans (hEA.trans hx))) kl) ?_
  rintro _ y ⟨hy,t,rfl,ht2⟩
  refine⟨.inr hy,?_⟩
  simp (disch:=first|omega|assumption|rfl) only[go_sem]
  refine hK _ _ ?_;clear hK hgd;clear K;try clear gd
  cases t with
  |true=>
   repeat refine c_r ?_
   refine wf Bool.not_true ?_
   repeat refine c_r ?_
   refine rg2 s5 hi1' ?_
   repeat refine c_r ?_
   exact⟨m - 1,by omega,rfl,i+1,by omega,vq0,(vq1 s2),(vq1 s3),(hEA.trans hx).trans hy,zdM _ _ ht (ht2 rfl)⟩
  |false=>
   repeat refine c_r ?_
   refine wt Bool.not_false ?_
   repeat (first|refine c_r ?_|refine rg0 ?_)
   refine rt0 Tryz.ntmps115 ?_
   exact⟨hE1.trans ((hEA.trans hx).trans hy),_,rfl,fun h=>by cases h⟩
 intro hge
 simp only[decide_eq_false_iff_not]at hge
 have hnames:a.names=b.names:=by rwa [List.take_of_length_le (by omega),List.take_of_length_le (by omega)]at ht
 clear him hge s5 ht p1A q1A
 repeat refine c_r ?_
 refine rg0 ?_
 repeat refine c_r ?_
 refine zai (fun m σ ds B=>ds=[]∧∃(i:Nat),i+m=a.nums.length∧σ 6=vi i∧σ 2= .pointer (some ⟨w.heap.size,0,Option.none⟩)∧σ 3= .pointer (some ⟨w.heap.size+1,0,Option.none⟩)∧Ext w2 B∧a.nums.take i=b.nums.take i) a.nums.length ?_ ?_
 ·exact⟨rfl,0,by omega,vr0,(vq1 s2),(vq1 s3),hEA,rfl⟩
 clear s2 s3 hEA
 rintro m2 σ3 ds3 B ⟨rfl,i,him,s6,s2,s3,hEB,ht⟩
 have p2B:=zaa hEB p2
 have q2B:=zaa hEB q2
 repeat refine c_r ?_
 refine rg4 s6 s2 p2B Nat.zero_add ?_
 repeat refine c_r ?_
 refine wc0 ?_ ?_
 ·intro hlt
  simp only[decide_eq_true_eq]at hlt
  have hi:i<a.nums.length:=by omega
  have hi2:i<b.nums.length:=by omega
  have hi0:(0:Int)≤(i:Int):=by omega
  have hi1:(i:Int)<(b.nums.length:Int):=by omega
  have hi1':(i:Int)+1=((i+1:Nat):Int):=by push_cast;rfl
  have g1:=gc i hi
  have g2:=gd4 i hi2
  obtain⟨x1,rfl⟩:=Option.isSome_iff_exists.1 (zad g1)
  obtain⟨x2,rfl⟩:=Option.isSome_iff_exists.1 (zad g2)
  repeat refine c_r ?_
  refine zaL (fun _=>false) [(0,true),(1,true),(2,true),(3,true),(4,true),(5,true),(6,true),(7,true),(8,true),(9,true),(10,true)] NoS mixed (by kernel_rfl) ?_;intro gd K x hgd hx hxe hK;clear hxe
  have g1x:=zaa (hE1.trans (hEB.trans hx)) g1
  have g2x:=zaa (hE1.trans (hEB.trans hx)) g2
  have p2x:=zaa hx p2B
  have q2x:=zaa hx q2B
  simp (disch:=first|omega|assumption|rfl) only[go_sem,s6,s2,s3,hi0,hlt,hi1,g1x,g2x,p2x,q2x,Nat.mul_one,Nat.zero_add]
  refine hK _ _ ?_;clear hK hgd;clear K;try clear gd
  by_cases he:a.nums[i]=b.nums[i]
  ·repeat refine c_r ?_
   refine wf (an2 (decide_eq_true he) Bool.not_true) ?_
   repeat refine c_r ?_
   refine rg2 s6 hi1' ?_
   repeat refine c_r ?_
   exact⟨m2 - 1,by omega,rfl,i+1,by omega,vq0,(vq1 s2),(vq1 s3),hEB.trans hx,zdM hi hi2 ht he⟩
  ·repeat refine c_r ?_
   refine wt (an2 (decide_eq_false he) Bool.not_false) ?_
   repeat (first|refine c_r ?_|refine rg0 ?_)
   refine rt0 Tryz.ntmps115 ?_
   exact⟨hE1.trans (hEB.trans hx),_,rfl,fun h=>by cases h⟩
 intro hge
 simp only[decide_eq_false_iff_not]at hge
 have hnums:a.nums=b.nums:=by rwa [List.take_of_length_le (by omega),List.take_of_length_le (by omega)]at ht
 have p3B:=zaa hEB p3
 have q3B:=zaa hEB q3
 rw[←htxe]at p3B
 rw[←huxe]at q3B
 repeat refine c_r ?_
 refine rc (an5 s2 s3 p3B q3B Nat.zero_add) (zkI B (htx.ext (hE1.trans hEB)) (hux.ext (hE1.trans hEB)) kt) ?_
 rintro _ y ⟨hy,t,rfl,ht2⟩
 refine re trivial ?_
 repeat refine c_r ?_
 refine rt0 Tryz.ntmps115 ?_
 refine⟨hE1.trans (hEB.trans hy),_,rfl,fun h=>?_⟩
 obtain⟨t1,n1,u1,x1,r1⟩:=a
 obtain⟨t2,n2,u2,x2,r2⟩:=b
 dsimp only at e0 hnames hnums ht2 e4
 rw[e0,hnames,hnums,ht2 h,e4]
theorem Is5_ok(w:World){av bv:Value}{xs ys:List RecL}(ha:Rows 7 (RecAt w) w av xs)(hb:Rows 7 (RecAt w) w bv ys)(ko:∀r∈xs,r.owner.length≤1000000000000000∧DatN r.dat)(hl:xs.length≤1000000000):
  Fn Tryz.prog 63 #[av,bv] w (fun v w'=>Ext w w'∧∃t,v= .bool t∧(t=true→xs=ys)):=by
 obtain⟨a1,c1,rfl,_,h1⟩:=ha.open
 obtain⟨a2,c2,rfl,_,h2⟩:=hb.open
 refine enter Tryz.func63 Tryz.ntmps63 rfl rfl ?_
 repeat refine c_r ?_
 refine rg0 ?_
 repeat refine c_r ?_
 by_cases hn:(xs.length:Int)=(ys.length:Int)
 rotate_left
 ·refine rg1 (decide_eq_false hn) ?_
  repeat refine c_r ?_
  refine wt Bool.not_false ?_
  repeat (first|refine c_r ?_|refine rg0 ?_)
  refine rt0 Tryz.ntmps63 ?_
  exact⟨Keep.refl _ _,_,rfl,fun h=>by cases h⟩
 refine rg1 (decide_eq_true hn) ?_
 repeat refine c_r ?_
 refine wf Bool.not_true ?_
 repeat refine c_r ?_
 refine rg0 ?_
 repeat refine c_r ?_
 refine zai (fun m σ ds A=>ds=[]∧∃(i:Nat),i+m=xs.length∧σ 5=vi i∧σ 0= .slice a1 xs.length c1∧σ 1= .slice a2 ys.length c2∧Ext w A∧xs.take i=ys.take i) xs.length ?_ ?_
 ·exact⟨rfl,0,by omega,vr0,vq0,vq0,Keep.refl _ _,rfl⟩
 rintro m σ ds A ⟨rfl,i,him,s5,s0,s1,hEA,ht⟩
 repeat refine c_r ?_
 refine rg2 s5 s0 ?_
 repeat refine c_r ?_
 refine wc0 ?_ ?_
 ·intro hlt
  simp only[decide_eq_true_eq]at hlt
  have hi:i<xs.length:=by omega
  have hi2:i<ys.length:=by omega
  have hi0:(0:Int)≤(i:Int):=by omega
  have hi1:(i:Int)<(ys.length:Int):=by omega
  have hi1':(i:Int)+1=((i+1:Nat):Int):=by push_cast;rfl
  obtain⟨ca,hca,hRa⟩:=h1 i hi
  obtain⟨cb,hcb,hRb⟩:=h2 i hi2
  obtain⟨ko1,ko2⟩:=ko _ (List.getElem_mem hi)
  obtain⟨ra,hra⟩:∃r,xs[i]=r:=⟨_,rfl⟩
  obtain⟨rb,hrb⟩:∃r,ys[i]=r:=⟨_,rfl⟩
  rw[hra]at hRa ko1 ko2
  rw[hrb]at hRb
  obtain⟨oa,da,rfl,o1,e1⟩:=hRa.ex
  obtain⟨ob,db,rfl,o2,e2⟩:=hRb.ex
  have e1':=e1
  have e2':=e2
  obtain⟨na1,na2,na3,na4,rfl,_⟩:=e1.ex
  obtain⟨nb1,nb2,nb3,nb4,rfl,_⟩:=e2.ex
  obtain⟨x1,rfl⟩:=Option.isSome_iff_exists.1 (zan hca)
  obtain⟨x2,rfl⟩:=Option.isSome_iff_exists.1 (zan hcb)
  obtain⟨y1,hy1⟩:∃y,adr (some x1) (i*7)=some y:=⟨_,rfl⟩
  obtain⟨y2,hy2⟩:∃y,adr (some x2) (i*7)=some y:=⟨_,rfl⟩
  rw[hy1]at hca
  rw[hy2]at hcb
  obtain⟨u1,hu1⟩:∃y,adr (some y1) 1=some y:=⟨_,rfl⟩
  obtain⟨u2,hu2⟩:∃y,adr (some y2) 1=some y:=⟨_,rfl⟩
  obtain⟨z1,hz1⟩:∃y,adr (some y1) 2=some y:=⟨_,rfl⟩
  obtain⟨z2,hz2⟩:∃y,adr (some y2) 2=some y:=⟨_,rfl⟩
  repeat refine c_r ?_
  refine zaL (fun _=>false) [(0,true),(1,true),(2,true),(3,true),(4,true),(5,true),(6,true),(7,true),(8,true),(9,true),(10,false),(11,true),(12,true),(13,true),(14,true),(15,true),(16,true),(17,true),(18,true),(19,true),(20,true),(21,true),(22,true),(23,true),(24,true),(25,true),(26,true),(27,true),(28,true),(29,true),(30,true),(31,true),(32,true),(33,true),(34,true),(35,true),(36,false),(37,true),(38,true)] NoS mixed (by kernel_rfl) ?_;intro gd K x hgd hx hxe hK;clear hxe
  have hg12:∀n σ b,zas gd n σ (some (12,b))=zaj (ev n σ (.tmp 29)) b:=(fun n σ b=>by rw[zab,show gd 12=some 29 from(by rw[hgd];rfl)];rfl);have hg25:∀n σ b,zas gd n σ (some (25,b))=zaj (ev n σ (.tmp 42)) b:=(fun n σ b=>by rw[zab,show gd 25=some 42 from(by rw[hgd];rfl)];rfl)
  have hW:=hEA.trans hx
  have f0:zah x (adr (some y1) 0)=some oa:=zaq (zaf hW hca) rfl
  have f1:zah x (adr (some y1) 1)=some (v32 ra.ttl):=zaq (zaf hW hca) rfl
  have f2:zaw x (adr (some y1) 2) 5=some [vi ra.dat.ty,na1,na2,na3,na4]:=zaW (m:=2) (k:=5) (zaf hW hca)
  have g0:zah x (adr (some y2) 0)=some ob:=zaq (zaf hW hcb) rfl
  have g1:zah x (adr (some y2) 1)=some (v32 rb.ttl):=zaq (zaf hW hcb) rfl
  have g2:zaw x (adr (some y2) 2) 5=some [vi rb.dat.ty,nb1,nb2,nb3,nb4]:=zaW (m:=2) (k:=5) (zaf hW hcb)
  rw[zar]at f0 g0
  rw[hu1]at f1
  rw[hu2]at g1
  rw[hz1]at f2
  rw[hz2]at g2
  simp (disch:=first|omega|assumption|rfl) only[go_sem,s5,s0,s1,hi0,hlt,hi1,hy1,hy2,hu1,hu2,hz1,hz2,zar,f0,f1,f2,g0,g1,g2]
  refine Fn.mono (zkI x (o1.ext hW) (o2.ext hW) ko1) ?_
  rintro _ y ⟨hy,t,rfl,ht2⟩
  refine⟨.inr hy,?_⟩
  cases t with
  |false=>
   simp (disch:=first|omega|assumption|rfl) only[go_sem,Bool.not_false,zbX,↓hg12,↓hg25]
   refine hK _ _ ?_;clear hK hgd;clear K;try clear gd
   repeat refine c_r ?_
   refine wt trivial ?_
   repeat (first|refine c_r ?_|refine rg0 ?_)
   refine rt0 Tryz.ntmps63 ?_
   exact⟨hW.trans hy,_,rfl,fun h=>by cases h⟩
  |true=>
  have f1y:=zaa hy f1
  have f2y:=zaf hy f2
  have g1y:=zaa hy g1
  have g2y:=zaf hy g2
  by_cases htt:ra.ttl=rb.ttl
  rotate_left
  ·simp (disch:=first|omega|assumption|rfl) only[go_sem,Bool.not_true,zbX,s5,s0,s1,hi0,hlt,hi1,hy1,hy2,hu1,hu2,f1y,g1y,decide_eq_false htt,Bool.not_false,↓hg12,↓hg25]
   refine hK _ _ ?_;clear hK hgd;clear K;try clear gd
   repeat refine c_r ?_
   refine wt trivial ?_
   repeat (first|refine c_r ?_|refine rg0 ?_)
   refine rt0 Tryz.ntmps63 ?_
   exact⟨hW.trans hy,_,rfl,fun h=>by cases h⟩
  simp (disch:=first|omega|assumption|rfl) only[go_sem,Bool.not_true,zbX,s5,s0,s1,hi0,hlt,hi1,hy1,hy2,hu1,hu2,f1y,g1y,decide_eq_true htt,hz1,hz2,f2y,g2y,↓hg12,↓hg25]
  refine Fn.mono (Is4_ok y (e1'.ext (hW.trans hy)) (e2'.ext (hW.trans hy)) ko2) ?_
  rintro _ z ⟨hz,t,rfl,ht4⟩
  refine⟨.inr hz,?_⟩
  simp (disch:=first|omega|assumption|rfl) only[go_sem,zbX,↓hg12,↓hg25]
  refine hK _ _ ?_;clear hK hgd;clear K;try clear gd
  have hWz:=(hW.trans hy).trans hz
  cases t with
  |false=>
   repeat refine c_r ?_
   refine wt Bool.not_false ?_
   repeat (first|refine c_r ?_|refine rg0 ?_)
   refine rt0 Tryz.ntmps63 ?_
   exact⟨hWz,_,rfl,fun h=>by cases h⟩
  |true=>
   have hrr:xs[i]=ys[i]:=by
    rw[hra,hrb]
    obtain⟨r1,r2,r3⟩:=ra
    obtain⟨r4,r5,r6⟩:=rb
    dsimp only at ht2 htt ht4
    rw[ht2 rfl,htt,ht4 rfl]
   repeat refine c_r ?_
   refine wf Bool.not_true ?_
   repeat refine c_r ?_
   refine rg2 s5 hi1' ?_
   repeat refine c_r ?_
   exact⟨m - 1,by omega,rfl,i+1,by omega,vq0,(vq1 s0),(vq1 s1),hWz,zdM hi hi2 ht hrr⟩
 ·intro hge
  simp only[decide_eq_false_iff_not]at hge
  repeat (first|refine c_r ?_|refine rg0 ?_)
  refine rt0 Tryz.ntmps63 ?_
  refine⟨hEA,_,rfl,fun _=>?_⟩
  rwa [List.take_of_length_le (by omega),List.take_of_length_le (by omega)]at ht
theorem DatX.cells{w0 A:World}{B:Nat}{nm:Value}{cs:List Value}{d:DatL}(h:DatX w0 B A nm cs d):cs.length=5∧∀q∈cs,one q=true:=by
 obtain⟨b1,m1,e1,b2,m2,e2,b3,m3,e3,b4,m4,e4,hds⟩:=h.open
 rw[hds]
 refine⟨rfl,fun q hq=>?_⟩
 simp at hq
 rcases hq with rfl|rfl|rfl|rfl|rfl<;>rfl
def NumR(R:List RecL):Prop:=∀r∈R,∀n∈r.dat.nums,0≤n∧n≤4294967295
theorem zgH{n:Nm}(h:zaH n=0):LB n:=fun l hl=>by have:=(zbA h l hl).2;omega
theorem good_dat{R:List RecL}(h:zfn R)(hv:NumR R):∀r∈R,DatOk r.dat:=fun r hr=>by
 have hf:=(h.few r hr).2
 exact⟨fun n hn=>⟨zgH (h.names r hr n hn),by have:=(hf.names n hn).2;omega⟩,by have:=hf.nn;omega,by have:=hf.nu;omega,by have:=hf.nt;omega,hv r hr,by have:=hf.nr;omega⟩
theorem zhh{R:List RecL}(h:zfn R)(hv:NumR R):∀r∈R,zcw r:=fun r hr=>
 ⟨zgH (h.own r hr),by have:=zd9 (h.own r hr);omega,good_dat h hv r hr⟩
section
variable {P : DatL → Prop} {R : List RecL} {o : Nm}
end
structure zdT where
 o:Nm
 recs:List RecL
structure zfm where
 name:Nm
 addr:List UInt8
 zones:List zdT
structure NetL where
 hosts:List zfm
 roots:List Int
 rw:Int
 rf:Int
structure ZoneC(w:World)(cs:List Value)(z:zdT):Prop where
 ex:∃ov lv,cs=[ov,lv]∧Row w ov (z.o.map vs)∧Rows 7 (RecAt w) w lv z.recs
structure HostC(w:World)(cs:List Value)(h:zfm):Prop where
 ex:∃nv a b c d zv,cs=[nv,zae a,zae b,zae c,zae d,zv]∧h.addr=[a,b,c,d]∧Row w nv (h.name.map vs)∧Rows 2 (ZoneC w) w zv h.zones
structure NetAt(w:World)(cs:List Value)(N:NetL):Prop where
 ex:∃hv rv,cs=[hv,rv,vi N.rw,vi N.rf]∧Rows 6 (HostC w) w hv N.hosts∧Row w rv (N.roots.map vi)
theorem Rows.extC{α:Type}{k:Nat}{C:World→List Value→α→Prop}{w x:World}{v:Value}{l:List α}(hC:∀cs a,C w cs a→C x cs a)(h:Rows k (C w) w v l)(hE:Ext w x):Rows k (C x) x v l:=(h.ext hE).to hC
theorem ZoneC.ext{w x:World}{cs:List Value}{z:zdT}(h:ZoneC w cs z)(hE:Ext w x):ZoneC x cs z:=by
 obtain⟨ov,lv,e,h1,h2⟩:=h.ex
 exact⟨ov,lv,e,h1.ext hE,Rows.extC (fun _ _ h=>RecAt.ext h hE) h2 hE⟩
theorem HostC.ext{w x:World}{cs:List Value}{z:zfm}(h:HostC w cs z)(hE:Ext w x):HostC x cs z:=by
 obtain⟨nv,a,b,c,d,zv,e,ha,h1,h2⟩:=h.ex
 exact⟨nv,a,b,c,d,zv,e,ha,h1.ext hE,Rows.extC (fun _ _ h=>ZoneC.ext h hE) h2 hE⟩
theorem NetAt.ext{w x:World}{cs:List Value}{z:NetL}(h:NetAt w cs z)(hE:Ext w x):NetAt x cs z:=by
 obtain⟨hv,rv,e,h1,h2⟩:=h.ex
 exact⟨hv,rv,e,Rows.extC (fun _ _ h=>HostC.ext h hE) h1 hE,h2.ext hE⟩
structure GoodZ(z:zdT):Prop where
 o:zeW z.o=true
 gd:zfn z.recs
 nv:NumR z.recs
 can:zbB z.recs=z.recs
theorem GoodZ.m{z:zdT}(h:GoodZ z):NmM z.o:=(zhi h.o).m
structure NetZ(N:NetL):Prop where
 hl:N.hosts.length≤1000
 nm:∀h∈N.hosts,NmM h.name
 zl:∀h∈N.hosts,h.zones.length≤1000
 z:∀h∈N.hosts,∀z∈h.zones,GoodZ z
 rl:N.roots.length≤1000
def NetL.zones(N:NetL)(s:Int):List zdT:=if s<0 then [] else match N.hosts[s.toNat]? with
 |some h=>h.zones
 |Option.none=>[]
section
variable {P : Program} {x : World} {e : TypeId} {K : Value → World → Prop}
theorem za3{t:TypeId}{cur:Array Value}{l:List Value}(hl:l.length=cur.size)(h1:∀v∈l,one v=true)(hs:tyS P t=l.length)(hi:(P.info? t).isSome=true)
  (hK:∀w',Ext x w'→w'.heap.size=x.heap.size+1→w'.heap[x.heap.size]? =some (.cells l.toArray e (0,0))→K undef w'):stK P t (.pointer (some ⟨x.heap.size,0,Option.none⟩)) (.agg l.toArray) (x.alloc (.cells cur e (0,0))) K:=by
 have hB3:=zam x (.cells cur e (0,0))
 have hE4:=Ext.alloc x (.cells cur e (0,0))
 have hs4:=zap x (.cells cur e (0,0))
 refine zbQ (P:=P) (t:=t) (l:=l) hB3 hl h1 hs hi ?_
 intro w5 hs5 hB5 hk5
 exact hK w5 (Keep.to_ext hE4 rfl (fun b hb=>by omega) hk5) (by omega) hB5
theorem Row.isOne{w:World}{v:Value}{l:List Value}(h:Row w v l):one v=true:=by
 obtain⟨a,c,rfl,_⟩:=h;rfl
theorem Rows.isOne{α:Type}{k:Nat}{C:List Value→α→Prop}{w:World}{v:Value}{l:List α}(h:Rows k C w v l):one v=true:=by
 obtain⟨a,c,rfl,_⟩:=h.open;rfl
theorem zaX{a b:Value}(ha:one a=true)(hb:one b=true):∀v∈ [a,b],one v=true:=fun v h=>by
 simp at h
 rcases h with rfl|rfl<;>assumption
end
theorem ext_toB{n0:Nat}{C:Nat→Prop}{a b:World}(h:Ext a b)(hn:n0≤a.heap.size):KeepB n0 C a b:=Keep.toB h hn (fun _ _ h=>h.elim)
theorem ze8{w:World}{a:Addr}:∀(i m k:Nat) {l:List Value},zaN w a i (m+k)=some l→zaN w a i m=some (l.take m)
 |i,0,k,l,h=>by simp[zaN]
 |i,m+1,k,l,h=>by
  rw[show m+1+k=(m+k)+1 from by omega]at h
  unfold zaN at h ⊢
  split at h
  ·rename_i v l' h1 h2
   cases h
   rw[h1,ze8 (i+1) m k h2];rfl
  ·cases h
theorem zcq{w:World}{p:Option Addr}{m k:Nat}{l:List Value}(h:zaw w p (m+k)=some l):zaw w p m=some (l.take m):=by
 cases p with
 |none=>cases h
 |some a=>exact ze8 0 m k h
section
variable {P : Program} {w : World} {K : Value → World → Prop} {t : TypeId} {p v : Value} {A B : Obj}
theorem st_al1(h:∀z,Ext w z→z.heap.size=w.heap.size+1→z.heap[w.heap.size]? =some A→stK P t p v z K):stK P t p v (w.alloc A) K:=
 h _ (Ext.alloc w A) (zap w A) (World.alloc_heap_new w A)
theorem st_al2(h:∀z,Ext w z→z.heap.size=w.heap.size+2→z.heap[w.heap.size]? =some A→z.heap[w.heap.size+1]? =some B→stK P t p v z K):stK P t p v ((w.alloc A).alloc B) K:=by
 obtain⟨h1,h2,h3,h4⟩:=zc2 w A B
 exact h _ h1 h2 h3 h4
end
section
variable {P : Program} {d : Option Tmp} {ty : TypeId} {ps : String} {af : Array Edge} {g : Option (Nat × Bool)} {ρ : Operand → Value} {w : World} {K : Value → World → Prop}
end
theorem NetAt.one{w:World}{cs:List Value}{N:NetL}(h:NetAt w cs N):cs.length=4∧∀v∈cs,one v=true:=by
 obtain⟨hv,rv,rfl,h1,h2⟩:=h.ex
 refine⟨rfl,fun v hv=>?_⟩
 simp at hv
 rcases hv with rfl|rfl|rfl|rfl
 ·exact h1.isOne
 ·exact h2.isOne
 ·rfl
 ·rfl
end Go.Proofs.YtahbdamijngmmaaGreat
namespace Go.Proofs.YtahbdamijngmmaaGreat.P_ci
open Go Go.Proofs.YtahbdamijngmmaaGreat
set_option maxRecDepth 10000
theorem Clip_ok{w:World}{a:Option Addr}{n c:Nat}(hc:n≤c):Fn Tryz.prog 90 #[.slice a n c] w (fun u w'=>u= .slice a n n∧w'=w):=by
 refine enter Tryz.func90 Tryz.ntmps90 rfl rfl ?_
 repeat refine c_r ?_
 refine rg0 ?_
 repeat refine c_r ?_
 refine rq ?_;intro gd K hgd hK
 try simp only[go_sem]
 have hcl:slD Tryz.prog (some (TypeDesc.slice 3)) (Value.slice a n c) Option.none (some (Value.int IntKind.i64 ↑n)) (some (Value.int IntKind.i64 ↑n))=some (.slice a n n):=zds hc (by rfl)
 rw[hcl]
 try simp only[go_sem]
 refine hK _ _ ?_;clear hK hgd;clear K;try clear gd
 repeat refine c_r ?_
 refine rt0 Tryz.ntmps90 ?_
 exact⟨rfl,rfl⟩
end Go.Proofs.YtahbdamijngmmaaGreat.P_ci
namespace Go.Proofs.YtahbdamijngmmaaGreat
open Go
set_option maxRecDepth 10000
theorem HostC.one{w:World}{cs:List Value}{h:zfm}(hc:HostC w cs h):cs.length=6∧∀v∈cs,one v=true:=by
 obtain⟨nv,a,b,c,d,zv,rfl,_,h1,h2⟩:=hc.ex
 refine⟨rfl,fun v hv=>?_⟩
 simp at hv
 rcases hv with rfl|rfl|rfl|rfl|rfl|rfl<;>first|exact h1.isOne|exact h2.isOne|rfl
end Go.Proofs.YtahbdamijngmmaaGreat
namespace Go.Proofs.YtahbdamijngmmaaGreat.P_st
open Go Go.Proofs.YtahbdamijngmmaaGreat
set_option maxRecDepth 10000
theorem Clip_ok{w:World}{a:Option Addr}{n c:Nat}(hc:n≤c):Fn Tryz.prog 147 #[.slice a n c] w (fun u w'=>u= .slice a n n∧w'=w):=by
 refine enter Tryz.func147 Tryz.ntmps147 rfl rfl ?_
 repeat refine c_r ?_
 refine rg0 ?_
 repeat refine c_r ?_
 refine rq ?_;intro gd K hgd hK
 try simp only[go_sem]
 have hcl:slD Tryz.prog (some (TypeDesc.slice 80)) (Value.slice a n c) Option.none (some (Value.int IntKind.i64 ↑n)) (some (Value.int IntKind.i64 ↑n))=some (.slice a n n):=zds hc (by rfl)
 rw[hcl]
 try simp only[go_sem]
 refine hK _ _ ?_;clear hK hgd;clear K;try clear gd
 repeat refine c_r ?_
 refine rt0 Tryz.ntmps147 ?_
 exact⟨rfl,rfl⟩
end Go.Proofs.YtahbdamijngmmaaGreat.P_st
namespace Go.Proofs.YtahbdamijngmmaaGreat
open Go
theorem zj8(c:UInt8):zdw (zdw c)=zdw c:=by
 by_cases h:65≤c∧c≤90
 ·rw[zfT h]
  refine zew (fun h2=>?_)
  have a:=UInt8.le_iff_toNat_le.1 h.1
  have b:=UInt8.le_iff_toNat_le.1 h.2
  have d:=UInt8.le_iff_toNat_le.1 h2.2
  simp at a b d
  have:(c+32).toNat=c.toNat+32:=by rw[UInt8.toNat_add];simp;omega
  omega
 ·rw[zew h,zew h]
theorem zj7(l:List UInt8):zaF (zaF l)=zaF l:=by
 unfold zaF
 rw[List.map_map]
 exact List.map_congr_left fun c _=>zj8 c
theorem zj6(n:Nm):zag (zag n)=zag n:=by
 unfold zag
 rw[List.map_map]
 exact List.map_congr_left fun c _=>zj7 c
section
variable {R : List RecL} {o q n : Nm} {t : Int}
theorem zga:za0 q (zag o)=za0 q o:=by
 unfold za0
 rw[zau,zj6]
end
/-! types -/
section
variable {R : List RecL} {o q n : Nm} {t u : Int}
end
/-! cuts -/
section
variable {R : List RecL} {o q : Nm} {t u : Int}
theorem zio(q:Nm):za0 q q=true:=by unfold za0;simp
end
section
variable {R : List RecL} {o q n : Nm} {t u : Int}
end
end Go.Proofs.YtahbdamijngmmaaGreat
