/-
  Texts of a proof, joined: E12, E13, F6, F7, F8, F9, G0, G1, G2, G3, G4, G5, Y3, M6ed, M6eg, F0, F1, G6.
  Conditions: none.
-/
import Derived.Test.YtahbdamijngmmaaGreatJRF07
import Derived.Test.YtahbdamijngmmaaGreatJRF03
import Derived.Test.YtahbdamijngmmaaGreatJRF01
import Derived.Test.YtahbdamijngmmaaGreatJRF02
import Derived.Test.YtahbdamijngmmaaGreatJRF05
set_option linter.unusedVariables false
set_option linter.unusedSimpArgs false
set_option linter.defProp false
set_option linter.unnecessarySimpa false
set_option maxHeartbeats 8000000
namespace Go.Proofs.YtahbdamijngmmaaGreat
open Go
set_option maxRecDepth 10000
def zeroRes:ResL:=⟨0,[],[],false,[]⟩
def zaK(R:List RecL)(q n:Nm):Option ResL:=
 if datC R n 39=[] then Option.none
 else if zaD (zbI q n (toN 39 ((datC R n 39).take 1)))=0 then some ⟨5,(datC R n 39).take 1,zbI q n (toN 39 ((datC R n 39).take 1)),false,[]⟩
 else some ⟨6,[],[],false,[]⟩
def atL(R:List RecL)(n:Nm)(t:Int)(wild:Bool):ResL:=
 if datC R n t≠ [] then⟨1,datC R n t,[],wild,[]⟩
 else if datC R n 5≠ [] then⟨5,(datC R n 5).take 1,toN 5 ((datC R n 5).take 1),wild,[]⟩
 else⟨2,[],[],wild,[]⟩
theorem toN_m{R:List RecL}(hR:zeB R){n:Nm}{t u:Int}:NmM (toN u ((datC R n t).take 1)):=by
 unfold toN
 cases hq:(zbH u ((datC R n t).take 1)).getLast? with
 |none=>exact⟨fun l h=>(by cases h),by simp⟩
 |some x=>
  have h1:=List.mem_of_getLast? hq
  exact(zbR hR (t:=t) (n:=n) (fun d hd=>List.mem_of_mem_take hd) x (zb5 _ _ x h1)).m
theorem zbd(w:World):Row w (.slice Option.none 0 0) (([]:Nm).map vs):=⟨Option.none,0,rfl,Nat.le_refl _,fun j h=>absurd h (by simp)⟩
abbrev zR:List Value:=[vi 0,.slice Option.none 0 0,.slice Option.none 0 0,.bool false,.slice Option.none 0 0]
theorem zki{w0 w:World}{ov lv qv nv:Value}{o q n:Nm}{R:List RecL}(hz:ZnAt w0 w ov lv o R)(hR:zeB R)(hq:Row w qv (q.map vs))(hn:Row w nv (n.map vs))(mq:NmM q)(mn:NmM n)(hu:zaR q n=true):
  Fn Tryz.prog 199 #[.agg #[ov,lv],qv,nv] w (fun v w'=>Ext w w'∧∃cs,v= .tuple #[.agg cs.toArray,.bool (zaK R q n).isSome]∧ResB w0 w.heap.size w' cs ((zaK R q n).getD zeroRes)):=by
 obtain⟨ao,co,hov,_⟩:=id hz.org
 obtain⟨al,cl,hlv,_⟩:=hz.recs.open
 rw[hov,hlv]
 refine enter Tryz.func199 Tryz.ntmps199 rfl rfl ?_
 repeat refine c_r ?_
 refine rg0 ?_
 repeat refine c_r ?_
 rw[←hov,←hlv]
 rw[zaj]
 refine zaO ?_
 intro w1 hE1 hs1 hA hC
 have d2:=zah (n:=2) (l:=[ov,lv]) hA rfl
 have hz1:=hz.ext hE1
 refine rq ?_;intro gd K hgd hK
 try simp (disch:=first|omega|assumption|rfl) only[go_sem,d2]
 refine Fn.mono (zjy hz1 hR (hn.ext hE1) mn.s) ?_
 rintro _ w2 ⟨hE2,dv,tv,rfl,hdv,hdb,htv⟩
 obtain⟨bb,hbb⟩:∃bb:Bool,decide (datC R n 39≠ [])=bb:=⟨_,rfl⟩
 rw[hbb]
 try simp only[go_sem]
 refine hK _ _ ?_;clear hK hgd;clear K;try clear gd
 have hC2:=hE2.at hC
 have s2:=hE2.size
 have hEw2:=hE1.trans hE2
 repeat refine c_r ?_
 refine rg0 ?_
 repeat refine c_r ?_
 by_cases hne:datC R n 39≠ []
 ·rw[decide_eq_true hne]at hbb
  subst hbb
  refine zaH (t:=false) (vq0) (fun h=>by cases h) ?_
  intro _
  repeat refine c_r ?_
  refine rq ?_;intro gd K hgd hK
  try simp only[go_sem]
  refine Fn.mono (NSwap_ok w2 qv nv tv q n (toN 39 ((datC R n 39).take 1)) (hq.ext hEw2) (hn.ext hEw2) (htv.ext (hz.e0.trans hEw2)) mq mn (toN_m hR) hu) ?_
  rintro v w3 ⟨hE3,hgood,hbad⟩
  have hC3:=hE3.at hC2
  have s3:=hE3.size
  by_cases hck:zaD (zbI q n (toN 39 ((datC R n 39).take 1)))=0
  ·obtain⟨sv,rfl,hsv,hsvb⟩:=hgood hck
   obtain⟨as1,cs1,hsv',_⟩:=id hsv
   obtain⟨ad,cd,hdv',_⟩:=hdv.open
   have hren:zaK R q n=some ⟨5,(datC R n 39).take 1,zbI q n (toN 39 ((datC R n 39).take 1)),false,[]⟩:=by unfold zaK;rw[if_neg hne,if_pos hck]
   try simp only[go_sem]
   refine hK _ _ ?_;clear hK hgd;clear K;try clear gd
   repeat refine c_r ?_
   refine rg0 ?_
   repeat refine c_r ?_
   refine wc0 ?_ ?_
   ·intro h;simp at h
   intro _
   repeat refine c_r ?_
   refine rq ?_;intro gd K hgd hK
   try simp only[go_sem]
   rw[hsv',hdv']
   refine⟨by kernel_rfl,?_⟩
   rw[show bdV Tryz.prog 184 [(0,vi 5),(2,.slice as1 ((zbI q n (toN 39 ((datC R n 39).take 1))).map vs).length cs1),(1,.slice ad ((datC R n 39).take 1).length cd)]=some (.agg #[vi 5,.slice ad ((datC R n 39).take 1).length cd,.slice as1 ((zbI q n (toN 39 ((datC R n 39).take 1))).map vs).length cs1,.bool false,.slice Option.none 0 0]) from by kernel_rfl]
   try simp only[go_sem]
   refine zaM (P:=Tryz.prog) (t:=184) (l:=[vi 5,.slice ad ((datC R n 39).take 1).length cd,.slice as1 ((zbI q n (toN 39 ((datC R n 39).take 1))).map vs).length cs1,.bool false,.slice Option.none 0 0]) hC3 rfl (fun v h=>by simp at h;rcases h with rfl|rfl|rfl|rfl|rfl<;>rfl) rfl rfl ?_
   intro z hz' hbz hkz
   try simp only[go_sem]
   refine hK _ _ ?_;clear hK hgd;clear K;try clear gd
   repeat refine c_r ?_
   refine zaE (.inr rfl) Tryz.ntmps199 rfl (zaZ (x:=⟨w.heap.size+1,0,Option.none⟩) (k:=5) (vq0) rfl rfl (zah hbz rfl) (zar (v:= .bool true) (vr0) zaz)) ?_
   refine⟨Keep.to_ext (hEw2.trans hE3) rfl (fun b hb=>by omega) hkz,_,by rw[hren];rfl,?_⟩
   rw[hren]
   refine⟨_,_,_,rfl,?_,?_,.inl ⟨?_,?_⟩,Rows.nil _ _ _,BlkB.nil⟩
   ·rw[←hdv']
    exact(hdv.ext hE3).keep hkz (hdb.ext hE3.size) (fun b hb _=>by omega)
   ·rw[←hdv']
    exact(hdb.ext (by omega)).mono (by omega)
   ·rw[←hsv']
    exact hsv.keepB hkz hsvb (fun b hb _=>by omega)
   ·rw[←hsv']
    exact(hsvb.ext (by omega)).mono (by omega)
  ·have hv:=hbad hck
   subst hv
   have hren:zaK R q n=some ⟨6,[],[],false,[]⟩:=by unfold zaK;rw[if_neg hne,if_neg hck]
   try simp only[go_sem]
   refine hK _ _ ?_;clear hK hgd;clear K;try clear gd
   repeat refine c_r ?_
   refine rg0 ?_
   repeat refine c_r ?_
   refine wc0 ?_ ?_
   ·intro _
    repeat refine c_r ?_
    refine rq ?_;intro gd K hgd hK
    try simp only[go_sem]
    refine⟨by kernel_rfl,?_⟩
    rw[show bdV Tryz.prog 184 [(0,vi 6)]=some (.agg #[vi 6,.slice Option.none 0 0,.slice Option.none 0 0,.bool false,.slice Option.none 0 0]) from by kernel_rfl]
    try simp only[go_sem]
    refine zaM (P:=Tryz.prog) (t:=184) (l:=[vi 6,.slice Option.none 0 0,.slice Option.none 0 0,.bool false,.slice Option.none 0 0]) hC3 rfl (fun v h=>by simp at h;rcases h with rfl|rfl|rfl|rfl|rfl<;>rfl) rfl rfl ?_
    intro z hz' hbz hkz
    try simp only[go_sem]
    refine hK _ _ ?_;clear hK hgd;clear K;try clear gd
    repeat refine c_r ?_
    refine zaE (.inr rfl) Tryz.ntmps199 rfl (zaZ (x:=⟨w.heap.size+1,0,Option.none⟩) (k:=5) (vq0) rfl rfl (zah hbz rfl) (zar (v:= .bool true) (vr0) zaz)) ?_
    exact⟨Keep.to_ext (hEw2.trans hE3) rfl (fun b hb=>by omega) hkz,_,by rw[hren];rfl,by rw[hren];exact⟨_,_,_,rfl,Rows.nil _ _ _,BlkB.nil,.inr (zbd _),Rows.nil _ _ _,BlkB.nil⟩⟩
   ·intro h;simp at h
 ·have hnil:datC R n 39=[]:=by simpa using hne
  have hren:zaK R q n=Option.none:=by unfold zaK;rw[if_pos hnil]
  rw[decide_eq_false hne]at hbb
  subst hbb
  refine zaH (t:=true) (vq0) ?_ (fun h=>by cases h)
  intro _
  repeat refine c_r ?_
  refine rq ?_;intro gd K hgd hK
  try simp only[go_sem]
  refine⟨by kernel_rfl,?_⟩
  rw[show bdV Tryz.prog 184 []=some (.agg #[vi 0,.slice Option.none 0 0,.slice Option.none 0 0,.bool false,.slice Option.none 0 0]) from by kernel_rfl]
  try simp only[go_sem]
  refine zaM (P:=Tryz.prog) (t:=184) (l:=zR) hC2 rfl (fun v h=>by simp at h;rcases h with rfl|rfl|rfl|rfl|rfl<;>rfl) rfl rfl ?_
  intro z hz' hbz hkz
  try simp only[go_sem]
  refine hK _ _ ?_;clear hK hgd;clear K;try clear gd
  repeat refine c_r ?_
  refine zaE (.inr rfl) Tryz.ntmps199 rfl (zaZ (x:=⟨w.heap.size+1,0,Option.none⟩) (k:=5) (vq0) rfl rfl (zah hbz rfl) (zar (v:= .bool false) (vr0) zaz)) ?_
  exact⟨Keep.to_ext hEw2 rfl (fun b hb=>by omega) hkz,_,by rw[hren];rfl,by rw[hren];exact⟨_,_,_,rfl,Rows.nil _ _ _,BlkB.nil,.inr (zbd _),Rows.nil _ _ _,BlkB.nil⟩⟩
theorem At_ok{w0 w:World}{ov lv nv:Value}{o n:Nm}{R:List RecL}{t:Int}{wild:Bool}(hz:ZnAt w0 w ov lv o R)(hR:zeB R)(hn:Row w nv (n.map vs))(mn:NmS n):
  Fn Tryz.prog 201 #[.agg #[ov,lv],nv,vi t,.bool wild] w (fun v w'=>Ext w w'∧∃cs,v= .agg cs.toArray∧ResB w0 w.heap.size w' cs (atL R n t wild)):=by
 obtain⟨ao,co,hov,_⟩:=id hz.org
 obtain⟨al,cl,hlv,_⟩:=hz.recs.open
 rw[hov,hlv]
 refine enter Tryz.func201 Tryz.ntmps201 rfl rfl ?_
 repeat refine c_r ?_
 refine rg0 ?_
 repeat refine c_r ?_
 rw[←hov,←hlv]
 rw[zaj]
 refine zaO ?_
 intro w1 hE1 hs1 hA hC
 have p1:zae w1 (some ⟨w.heap.size,1,Option.none⟩)=some lv:=zab hA rfl
 have hz1:=hz.ext hE1
 refine rq ?_;intro gd K hgd hK
 try simp (disch:=first|omega|assumption|rfl) only[go_sem,p1,Nat.zero_add]
 refine Fn.mono (Of_ok hz1.e0 hz1.recs (hn.ext hE1) mn.lb (by have:=mn.len;omega) hz.ok hz.rl) ?_
 rintro _ w2 ⟨hE2,ow,ty,tl,dv,rfl,how,hty,hdv,hdb⟩
 have hdd:(ofC R n t).map RecL.dat=datC R n t:=rfl
 rw[hdd]at hdv
 obtain⟨bb,hbb⟩:∃bb:Bool,decide (datC R n t≠ [])=bb:=⟨_,rfl⟩
 rw[show decide (ofC R n t≠ [])=bb from by rw[←hbb];exact decide_eq_decide.2 (ziE (R:=R) (n:=n) (t:=t))]
 try simp only[go_sem]
 have hB3:=zap w2 (.cells #[.slice Option.none 0 0,vi 0,v32 0,.slice Option.none 0 0] 340 (0,0))
 have hE4:=Ext.alloc w2 (.cells #[.slice Option.none 0 0,vi 0,v32 0,.slice Option.none 0 0] 340 (0,0))
 have hs4:=zaj w2 (.cells #[.slice Option.none 0 0,vi 0,v32 0,.slice Option.none 0 0] 340 (0,0))
 revert hB3 hE4 hs4
 generalize w2.alloc (.cells #[.slice Option.none 0 0,vi 0,v32 0,.slice Option.none 0 0] 340 (0,0))=w3
 intro hB3 hE4 hs4
 obtain⟨ad,cd,hdv',hcd,_⟩:=hdv.open
 refine zaM (P:=Tryz.prog) (t:=340) (l:=[ow,vi ty,v32 tl,dv]) hB3 rfl (fun v h=>by
  simp at h
  rcases h with rfl|rfl|rfl|rfl
  ·exact how
  ·rfl
  ·rfl
  ·rw[hdv'];rfl) rfl rfl ?_
 intro w4 hs5 hB5 hk5
 try simp only[go_sem]
 refine hK _ _ ?_;clear hK hgd;clear K;try clear gd
 have hE5:Ext w2 w4:=Keep.to_ext hE4 rfl (fun b hb=>by omega) hk5
 have hE14:=hE2.trans hE5
 have hEw4:=hE1.trans hE14
 have q3:zae w4 (some ⟨w2.heap.size,3,Option.none⟩)=some dv:=zcq hB5 rfl
 have hdv4:=hdv.ext hE5
 have hdb4:BlkB w1.heap.size w4 dv:=hdb.ext hE5.size
 have hA4:=Ext.at hE14 hA
 have hC4:=Ext.at hE14 hC
 have e2:=hE14.size
 clear hB3 hE4 hs4 hk5 hs5
 repeat refine c_r ?_
 refine rg0 ?_
 repeat refine c_r ?_
 by_cases hne:datC R n t≠ []
 ·rw[decide_eq_true hne]at hbb
  subst hbb
  have hat:atL R n t wild=⟨1,datC R n t,[],wild,[]⟩:=by unfold atL;rw[if_pos hne]
  refine zaH (t:=true) (vq0) ?_ (fun h=>by cases h)
  intro _
  repeat refine c_r ?_
  refine rq ?_;intro gd K hgd hK
  try simp (disch:=first|omega|assumption|rfl) only[go_sem,q3,Nat.zero_add]
  rw[hdv']
  refine⟨by kernel_rfl,?_⟩
  rw[show bdV Tryz.prog 184 [(0,vi 1),(1,.slice ad (datC R n t).length cd),(3,.bool wild)]=some (.agg #[vi 1,.slice ad (datC R n t).length cd,.slice Option.none 0 0,.bool wild,.slice Option.none 0 0]) from by kernel_rfl]
  try simp only[go_sem]
  refine zaM (P:=Tryz.prog) (t:=184) (l:=[vi 1,.slice ad (datC R n t).length cd,.slice Option.none 0 0,.bool wild,.slice Option.none 0 0]) hC4 rfl (fun v h=>by simp at h;rcases h with rfl|rfl|rfl|rfl|rfl<;>rfl) rfl rfl ?_
  intro z hz' hbz hkz
  try simp only[go_sem]
  refine hK _ _ ?_;clear hK hgd;clear K;try clear gd
  repeat refine c_r ?_
  refine zaE (.inr rfl) Tryz.ntmps201 rfl (zaZ (x:=⟨w.heap.size+1,0,Option.none⟩) (k:=5) (vq0) rfl rfl (zah hbz rfl) zaz) ?_
  refine⟨Keep.to_ext hEw4 rfl (fun b hb=>by omega) hkz,_,rfl,?_⟩
  rw[hat]
  refine⟨_,_,_,rfl,?_,?_,.inr (zbd _),Rows.nil _ _ _,BlkB.nil⟩
  ·rw[←hdv']
   exact hdv4.keep hkz hdb4 (fun b hb _=>by omega)
  ·rw[←hdv']
   exact(hdb4.ext (by omega)).mono (by omega)
 ·have hnil:datC R n t=[]:=by simpa using hne
  rw[decide_eq_false hne]at hbb
  subst hbb
  refine zaH (t:=false) (vq0) (fun h=>by cases h) ?_
  intro _
  have d2:=zah (n:=2) (l:=[ov,lv]) hA4 rfl
  have hz4:=hz.ext hEw4
  repeat refine c_r ?_
  refine rq ?_;intro gd K hgd hK
  try simp (disch:=first|omega|assumption|rfl) only[go_sem,d2]
  refine Fn.mono (zjy hz4 hR (hn.ext hEw4) mn) ?_
  rintro _ w5 ⟨hE6,fv,tv,rfl,hfv,hfb,htv⟩
  obtain⟨b5,hb5⟩:∃bb:Bool,decide (datC R n 5≠ [])=bb:=⟨_,rfl⟩
  rw[hb5]
  try simp only[go_sem]
  refine hK _ _ ?_;clear hK hgd;clear K;try clear gd
  have hC5:=Ext.at hE6 hC4
  have e6:=hE6.size
  have hEw5:=hEw4.trans hE6
  repeat refine c_r ?_
  refine rg0 ?_
  repeat refine c_r ?_
  by_cases hne5:datC R n 5≠ []
  ·rw[decide_eq_true hne5]at hb5
   subst hb5
   obtain⟨af,cf,hfv',_⟩:=hfv.open
   obtain⟨at1,ct1,htv',_⟩:=id htv
   have hat:atL R n t wild=⟨5,(datC R n 5).take 1,toN 5 ((datC R n 5).take 1),wild,[]⟩:=by unfold atL;rw[if_neg hne,if_pos hne5]
   refine zaH (t:=true) (vq0) ?_ (fun h=>by cases h)
   intro _
   repeat refine c_r ?_
   refine rq ?_;intro gd K hgd hK
   try simp only[go_sem]
   rw[hfv',htv']
   refine⟨by kernel_rfl,?_⟩
   rw[show bdV Tryz.prog 184 [(0,vi 5),(2,.slice at1 ((toN 5 ((datC R n 5).take 1)).map vs).length ct1),(1,.slice af ((datC R n 5).take 1).length cf),(3,.bool wild)]=some (.agg #[vi 5,.slice af ((datC R n 5).take 1).length cf,.slice at1 ((toN 5 ((datC R n 5).take 1)).map vs).length ct1,.bool wild,.slice Option.none 0 0]) from by kernel_rfl]
   try simp only[go_sem]
   refine zaM (P:=Tryz.prog) (t:=184) (l:=[vi 5,.slice af ((datC R n 5).take 1).length cf,.slice at1 ((toN 5 ((datC R n 5).take 1)).map vs).length ct1,.bool wild,.slice Option.none 0 0]) hC5 rfl (fun v h=>by simp at h;rcases h with rfl|rfl|rfl|rfl|rfl<;>rfl) rfl rfl ?_
   intro z hz' hbz hkz
   try simp only[go_sem]
   refine hK _ _ ?_;clear hK hgd;clear K;try clear gd
   repeat refine c_r ?_
   refine zaE (.inr rfl) Tryz.ntmps201 rfl (zaZ (x:=⟨w.heap.size+1,0,Option.none⟩) (k:=5) (vq0) rfl rfl (zah hbz rfl) zaz) ?_
   have hEz:Ext w z:=Keep.to_ext hEw5 rfl (fun b hb=>by omega) hkz
   refine⟨hEz,_,rfl,?_⟩
   rw[hat]
   refine⟨_,_,_,rfl,?_,?_,.inr ?_,Rows.nil _ _ _,BlkB.nil⟩
   ·rw[←hfv']
    exact hfv.keep hkz hfb (fun b hb _=>by omega)
   ·rw[←hfv']
    exact(hfb.ext (by omega)).mono (by omega)
   ·rw[←htv']
    exact htv
  ·rw[decide_eq_false hne5]at hb5
   subst hb5
   have hat:atL R n t wild=⟨2,[],[],wild,[]⟩:=by unfold atL;rw[if_neg hne,if_neg hne5]
   refine zaH (t:=false) (vq0) (fun h=>by cases h) ?_
   intro _
   repeat refine c_r ?_
   refine rq ?_;intro gd K hgd hK
   try simp only[go_sem]
   refine⟨by kernel_rfl,?_⟩
   rw[show bdV Tryz.prog 184 [(0,vi 2),(3,.bool wild)]=some (.agg #[vi 2,.slice Option.none 0 0,.slice Option.none 0 0,.bool wild,.slice Option.none 0 0]) from by kernel_rfl]
   try simp only[go_sem]
   refine zaM (P:=Tryz.prog) (t:=184) (l:=[vi 2,.slice Option.none 0 0,.slice Option.none 0 0,.bool wild,.slice Option.none 0 0]) hC5 rfl (fun v h=>by simp at h;rcases h with rfl|rfl|rfl|rfl|rfl<;>rfl) rfl rfl ?_
   intro z hz' hbz hkz
   try simp only[go_sem]
   refine hK _ _ ?_;clear hK hgd;clear K;try clear gd
   repeat refine c_r ?_
   refine zaE (.inr rfl) Tryz.ntmps201 rfl (zaZ (x:=⟨w.heap.size+1,0,Option.none⟩) (k:=5) (vq0) rfl rfl (zah hbz rfl) zaz) ?_
   refine⟨Keep.to_ext hEw5 rfl (fun b hb=>by omega) hkz,_,rfl,?_⟩
   rw[hat]
   exact⟨_,_,_,rfl,Rows.nil _ _ _,BlkB.nil,.inr (zbd _),Rows.nil _ _ _,BlkB.nil⟩
def goL(o:Nm)(R:List RecL)(q:Nm):List Nm→Option ResL
 | []=>Option.none
 |n::l=>if cutP o R n=true then some (zdD R n) else if n.length=q.length then Option.none else match zaK R q n with
  |some r=>some r
  |Option.none=>goL o R q l
def zbj(o:Nm)(R:List RecL)(q:Nm)(t:Int):ResL:=
 if zaR q o=false then⟨7,[],[],false,[]⟩ else match goL o R q (zbe o q) with
 |some r=>r
 |Option.none=>if zaX o R q=true then atL R q t false else match zbi o R q with
  |some s=>atL R s t true
  |Option.none=>⟨3,[],[],false,[]⟩
def passL(o:Nm)(R:List RecL)(q n:Nm):Prop:=cutP o R n=false∧n.length≠q.length∧zaK R q n=Option.none
theorem ze2{o:Nm}{R:List RecL}{q:Nm}:∀{pre l:List Nm},(∀n∈pre,passL o R q n)→goL o R q (pre++l)=goL o R q l
 | [],_,_=>rfl
 |n::pre,l,h=>by
  obtain⟨h1,h2,h3⟩:=h n (List.mem_cons_self ..)
  rw[List.cons_append]
  simp only[goL]
  rw[h1,if_neg Bool.false_ne_true,if_neg h2,h3]
  exact ze2 (fun m hm=>h m (List.mem_cons_of_mem _ hm))
theorem zg8{o:Nm}{R:List RecL}{n:Nm}:ze9 o R n=0↔zaR n o=false:=by
 unfold ze9
 by_cases h:zaR n o=true
 ·rw[if_pos h,h]
  constructor
  ·intro h2
   split at h2
   ·cases h2
   ·split at h2<;>cases h2
  ·intro h2;cases h2
 ·rw[if_neg h]
  simp at h
  simp[h]
theorem zjB{q:Nm}{k:Nat}(hk:k≤q.length):zaR q (q.drop k)=true:=by
 unfold zaR
 rw[Bool.and_eq_true,decide_eq_true_eq,decide_eq_true_eq]
 refine⟨by simp,?_⟩
 rw[List.length_drop,show q.length - (q.length - k)=k from by omega]
theorem NmM.drop{n:Nm}(h:NmM n)(k:Nat):NmM (n.drop k):=⟨fun l hl=>h.lb l (List.drop_subset _ _ hl),by have:=h.len;simp;omega⟩
theorem Zone_ok{w0 w:World}{ov lv qv:Value}{o q:Nm}{R:List RecL}{t:Int}(hz:ZnAt w0 w ov lv o R)(hR:zeB R)(hq:Row w qv (q.map vs))(mq:NmM q):
  Fn Tryz.prog 149 #[.agg #[ov,lv],qv,vi t] w (fun v w'=>Ext w w'∧∃cs,v= .agg cs.toArray∧ResB w0 w.heap.size w' cs (zbj o R q t)):=by
 obtain⟨ao,co,hov,_⟩:=id hz.org
 obtain⟨al,cl,hlv,_⟩:=hz.recs.open
 obtain⟨aq,cq,hqv,_⟩:=id hq
 rw[List.length_map]at hov hqv
 rw[hov,hlv,hqv]
 refine enter Tryz.func149 Tryz.ntmps149 rfl rfl ?_
 repeat refine c_r ?_
 refine rg0 ?_
 repeat refine c_r ?_
 rw[←hov,←hlv,←hqv]
 simp only[zaj]
 refine zdv ?_
 intro w1 hE1 hs1 hA hB hC
 have d2:=zah (n:=2) (l:=[ov,lv]) hA rfl
 have dq:zae w1 (some ⟨w.heap.size+1,0,Option.none⟩)=some qv:=zab hB rfl
 have hz1:=hz.ext hE1
 have ql:=mq.len
 have hqo:(q.map vs).length=q.length:=List.length_map ..
 refine rq ?_;intro gd K hgd hK
 try simp (disch:=first|omega|assumption|rfl) only[go_sem,d2,dq]
 refine Fn.mono (Where_ok hz1 (hq.ext hE1) mq.s) ?_
 rintro _ w2 ⟨rfl,hE2⟩
 try simp only[go_sem]
 refine hK _ _ ?_;clear hK hgd;clear K;try clear gd
 have hEw2:=hE1.trans hE2
 have hA2:=hE2.at hA
 have hB2:=hE2.at hB
 have hC2:=hE2.at hC
 have s2:=hE2.size
 -- a result into its variable,and the end
 repeat refine c_r ?_
 refine wc0 ?_ ?_
 ·intro hw
  simp only[decide_eq_true_eq]at hw
  have hu:=zg8.1 hw
  have hlk:zbj o R q t=⟨7,[],[],false,[]⟩:=by unfold zbj;rw[if_pos hu]
  repeat refine c_r ?_
  refine rq ?_;intro gd K hgd hK
  try simp only[go_sem]
  refine⟨by kernel_rfl,?_⟩
  rw[show bdV Tryz.prog 184 [(0,vi 7)]=some (.agg #[vi 7,.slice Option.none 0 0,.slice Option.none 0 0,.bool false,.slice Option.none 0 0]) from by kernel_rfl]
  try simp only[go_sem]
  refine zaM (P:=Tryz.prog) (t:=184) (l:=[vi 7,.slice Option.none 0 0,.slice Option.none 0 0,.bool false,.slice Option.none 0 0]) hC2 rfl (fun v h=>by simp at h;rcases h with rfl|rfl|rfl|rfl|rfl<;>rfl) rfl rfl ?_
  intro z hz' hbz hkz
  try simp only[go_sem]
  refine hK _ _ ?_;clear hK hgd;clear K;try clear gd
  repeat refine c_r ?_
  refine zaE (.inr rfl) Tryz.ntmps149 rfl (zaZ (x:=⟨w.heap.size+1+1,0,Option.none⟩) (k:=5) (vq0) rfl rfl (zah hbz rfl) zaz) ?_
  exact⟨Keep.to_ext hEw2 rfl (fun b hb=>by omega) hkz,_,rfl,by rw[hlk];exact⟨_,_,_,rfl,Rows.nil _ _ _,BlkB.nil,.inr (zbd _),Rows.nil _ _ _,BlkB.nil⟩⟩
 intro hw
 simp only[decide_eq_false_iff_not]at hw
 have hu:zaR q o=true:=by
  cases h:zaR q o with
  |true=>rfl
  |false=>exact absurd (zg8.2 h) hw
 have d2':=zah (n:=2) (l:=[ov,lv]) hA2 rfl
 have dq':zae w2 (some ⟨w.heap.size+1,0,Option.none⟩)=some qv:=zab hB2 rfl
 repeat refine c_r ?_
 refine rq ?_;intro gd K hgd hK
 try simp (disch:=first|omega|assumption|rfl) only[go_sem,d2',dq']
 refine Fn.mono (ziS ⟨_,_,_,hqv⟩) ?_
 rintro _ w3 ⟨rfl,hE3,hs3,hbz,hbn⟩
 try simp only[go_sem]
 refine hK _ _ ?_;clear hK hgd;clear K;try clear gd
 have hEw3:=hEw2.trans hE3
 have hz3:=hz.ext hEw3
 have hq3:=hq.ext hEw3
 have hA3:=hE3.at hA2
 have hB3:=hE3.at hB2
 have hC3:=hE3.at hC2
 obtain⟨D,hD⟩:∃D,w3.heap.size=D:=⟨_,rfl⟩
 have hdm:∀{x},x∈zbe o q→∃k,k≤q.length∧x=q.drop k:=fun {x} hx=>by
  unfold zbe at hx
  split at hx
  ·obtain⟨i,hi,h⟩:=zbA.1 hx
   exact⟨i,by omega,h⟩
  ·cases hx
 repeat refine c_r ?_
 refine zay (Q:=fun e σ' ds' v'=>((e= .normal∨e= .exit 0)∧ds'=[{target:= .collected w3.heap.size,args:=#[]}]∧v'.heap[w3.heap.size]? =some (.deferred (some []))∧σ' 3= .pointer (some ⟨w.heap.size,0,Option.none⟩)∧σ' 4= .pointer (some ⟨w.heap.size+1,0,Option.none⟩)∧σ' 6= .pointer (some ⟨w.heap.size+1+1,0,Option.none⟩)∧σ' 2=vi t∧Ext w3 v'∧goL o R q (zbe o q)=Option.none)∨
   (e= .ret∧ds'=[{target:= .collected w3.heap.size,args:=#[]}]∧v'.heap[w3.heap.size]? =some (.deferred (some []))∧σ' 6= .pointer (some ⟨w.heap.size+1+1,0,Option.none⟩)∧Ext w v'∧∃r cs,goL o R q (zbe o q)=some r∧v'.heap[w.heap.size+1+1]? =some (.cells cs.toArray 184 (0,0))∧ResB w0 (w3.heap.size+2) v' cs r)) ?_ ?_
 ·refine zdP (g:=242) (cap:=#[.pointer (some ⟨w2.heap.size+1,0,Option.none⟩),.pointer (some ⟨w2.heap.size,0,Option.none⟩)]) (vq0) rfl (zlM (C:=fun b=>b=w.heap.size+1+1) hbn hbz hq hz3.org (by omega) (by omega) hz.ol (by omega)) (Keep.refl _ _) (Nat.le_refl _) (fun b hb=>by omega)
   (fun x B args h=>by obtain⟨v,h,_⟩:=h;rw[h];rfl)
   (fun pre B=>Ext w3 B∧∀x∈pre,passL o R q x)
   (fun c pre B=>(c= .exit 0∧Ext w3 B∧∃pre' x,pre=pre'++ [x]∧(∀y∈pre',passL o R q y)∧cutP o R x=false∧x.length=q.length)∨
    (c= .ret∧Ext w B∧∃pre' x r cs,pre=pre'++ [x]∧(∀y∈pre',passL o R q y)∧(∀l,goL o R q (x::l)=some r)∧B.heap[w.heap.size+1+1]? =some (.cells cs.toArray 184 (0,0))∧ResB w0 (w3.heap.size+2) B cs r)) ?_ ?_ ?_ ?_ ?_ ?_
  ·rintro pre B B' ⟨hEB,hp⟩ hk
   exact⟨Keep.to_ext hEB rfl (fun b hb=>by unfold two at hb;omega) hk,hp⟩
  ·rintro c pre B B' h hk
   rcases h with ⟨rfl,hEB,h⟩| ⟨rfl,hEB,pre',x,r,cs,h1,h2,h3,h4,h5⟩
   ·exact .inl ⟨rfl,Keep.to_ext hEB rfl (fun b hb=>by unfold two at hb;omega) hk,h⟩
   ·exact .inr ⟨rfl,Keep.to_ext hEB rfl (fun b hb=>by unfold two at hb;omega) hk,pre',x,r,cs,h1,h2,h3,(hk.block _ (Array.getElem?_eq_some_iff.1 h4).1 (by unfold two;omega)).trans h4,h5.keep hk (fun b hb _=>by unfold two;omega)⟩
  ·exact⟨Keep.refl _ _,fun x h=>absurd h (by simp)⟩
  ·rintro lp pre x suf B args hxs hszB ⟨hEB,hp⟩ ⟨xv,rfl,hxr⟩
   obtain⟨kx,hkx,hxk⟩:=hdm (x:=x) (by rw[hxs];simp)
   have mx:NmM x:=hxk▸mq.drop kx
   have hux:zaR q x=true:=by rw[hxk];exact zjB hkx
   have hxl:=mx.len
   obtain⟨ax,cx,hxv,_⟩:=id hxr
   rw[List.length_map]at hxv
   have hol:=hz.ol
   refine rq ?_;intro gd K hgd hK
   try simp only[go_sem]
   refine hK _ _ ?_;clear hK hgd;clear K;try clear gd
   refine zat ?_
   refine⟨rfl,KeepB.refl _ _ _,fun Y hY=>?_⟩
   have hEY:Ext w3 Y:=Keep.to_ext hEB rfl (fun b hb=>by unfold two at hb;omega) hY
   have hzY:=hz3.ext hEY
   have p0:zae Y (some ⟨w.heap.size,0,Option.none⟩)=some ov:=zab (hEY.at hA3) rfl
   have d2:=zah (n:=2) (l:=[ov,lv]) (hEY.at hA3) rfl
   have dq:zae Y (some ⟨w.heap.size+1,0,Option.none⟩)=some qv:=zab (hEY.at hB3) rfl
   have hYs:=hY.size
   have hxY:Row Y xv (x.map vs):=hxr.ext (hEw3.trans hEY)
   have hqY:=hq3.ext hEY
   have hCY:=hEY.at hC3
   rw[hov]at p0
   repeat refine c_r ?_
   refine zay (Q:=fun e σ' ds' v'=>e= .normal∧ds'=[]∧σ' 7=xv∧σ' 3= .pointer (some ⟨w.heap.size,0,Option.none⟩)∧σ' 4= .pointer (some ⟨w.heap.size+1,0,Option.none⟩)∧σ' 6= .pointer (some ⟨w.heap.size+1+1,0,Option.none⟩)∧Ext Y v'∧σ' 31= .bool (cutP o R x)) ?_ ?_
   ·by_cases hl:(o.length:Int)<(x.length:Int)
    ·refine rq ?_;intro gd K hgd hK
     have hg6:∀n σ b,zav gd n σ (some (6,b))=zak (ev n σ (.tmp 27)) b:=(fun n σ b=>by rw[zac,show gd 6=some 27 from(by rw[hgd];rfl)];rfl)
     try simp (disch:=first|omega|assumption|rfl) only[go_sem,hxv,p0,d2,decide_eq_true hl,Nat.add_zero,↓hg6]
     rw[←hxv]
     refine Fn.mono (Has_ok hzY hxY mx.s) ?_
     rintro _ Y2 ⟨rfl,hY2⟩
     try simp only[go_sem]
     refine hK _ _ ?_;clear hK hgd;clear K;try clear gd
     refine⟨rfl,rfl,vq0,vq0,vq0,vq0,hY2,?_⟩
     unfold cutP hasL
     rw[show decide (o.length<x.length)=true from decide_eq_true (by omega),Bool.true_and]
     simp only[go_sem]
    ·refine rq ?_;intro gd K hgd hK
     have hg6:∀n σ b,zav gd n σ (some (6,b))=zak (ev n σ (.tmp 27)) b:=(fun n σ b=>by rw[zac,show gd 6=some 27 from(by rw[hgd];rfl)];rfl)
     try simp (disch:=first|omega|assumption|rfl) only[go_sem,hxv,p0,decide_eq_false hl,Nat.add_zero,↓hg6]
     rw[←hxv]
     refine hK _ _ ?_;clear hK hgd;clear K;try clear gd
     refine⟨rfl,rfl,vq0,vq0,vq0,vq0,Keep.refl _ _,?_⟩
     unfold cutP hasL
     rw[show decide (o.length<x.length)=false from decide_eq_false (by omega),Bool.false_and]
     simp only[go_sem]
   rintro _ σ1 _ Y1 ⟨rfl,rfl,h7,h3,h4,h6,hY1,h31⟩
   have hEY1:=hEY.trans hY1
   have hY1s:=hY1.size
   repeat refine c_r ?_
   refine zaH (t:=cutP o R x) ((vq1 h31)) ?_ ?_
   ·intro ht
    have d2':=zad hY1 d2
    repeat refine c_r ?_
    refine rq ?_;intro gd K hgd hK
    try simp (disch:=first|omega|assumption|rfl) only[go_sem,h3,h7,d2']
    refine Fn.mono (Refer_ok (hzY.ext hY1) hR (hxY.ext hY1) mx.s) ?_
    rintro _ Y2 ⟨hY2,cs,rfl,hres⟩
    try simp (disch:=first|omega|assumption|rfl) only[go_sem,h6]
    have hY2s:=hY2.size
    refine zaM (P:=Tryz.prog) (t:=184) (l:=cs) (Ext.at (hY1.trans hY2) hCY) hres.cells.1 hres.cells.2 (by rw[hres.cells.1];rfl) rfl ?_
    intro z hz' hbz2 hkz
    try simp only[go_sem]
    refine hK _ _ ?_;clear hK hgd;clear K;try clear gd
    repeat refine c_r ?_
    exact⟨.inr ⟨rfl,Keep.to_ext (hEw3.trans (hEY1.trans hY2)) rfl (fun b hb=>by omega) hkz,pre,x,zdD R x,cs,rfl,hp,fun l=>by simp only[goL];rw[if_pos ht],hbz2,(hres.keep hkz (fun b hb _=>by omega)).mono (by omega)⟩,((hY1.trans hY2).toB (by omega) (fun _ _ h=>h.elim)).trans (hkz.toB (by omega) (fun i _ h=>h))⟩
   intro ht
   have dq':=zaa hY1 dq
   rw[hqv]at dq'
   repeat refine c_r ?_
   refine rg4 h7 h4 hxv dq' ?_
   repeat refine c_r ?_
   refine wc0 ?_ ?_
   ·intro hl
    simp only[decide_eq_true_eq]at hl
    repeat refine c_r ?_
    exact⟨.inl ⟨rfl,hEY1,pre,x,rfl,hp,ht,by omega⟩,hY1.toB (by omega) (fun _ _ h=>h.elim)⟩
   intro hl
   simp only[decide_eq_false_iff_not]at hl
   have d2':=zad hY1 d2
   have dq'':=zaa hY1 dq
   repeat refine c_r ?_
   refine rq ?_;intro gd K hgd hK
   try simp (disch:=first|omega|assumption|rfl) only[go_sem,h3,h4,h7,d2',dq'']
   refine Fn.mono (zki (hzY.ext hY1) hR (hqY.ext hY1) (hxY.ext hY1) mq mx hux) ?_
   rintro _ Y2 ⟨hY2,cs,rfl,hres⟩
   try simp only[go_sem]
   have hB8:=zap Y2 (.cells #[vi 0,.slice Option.none 0 0,.slice Option.none 0 0,.bool false,.slice Option.none 0 0] 184 (0,0))
   have hE8:=Ext.alloc Y2 (.cells #[vi 0,.slice Option.none 0 0,.slice Option.none 0 0,.bool false,.slice Option.none 0 0] 184 (0,0))
   have hs8:=zaj Y2 (.cells #[vi 0,.slice Option.none 0 0,.slice Option.none 0 0,.bool false,.slice Option.none 0 0] 184 (0,0))
   revert hB8 hE8 hs8
   generalize Y2.alloc (.cells #[vi 0,.slice Option.none 0 0,.slice Option.none 0 0,.bool false,.slice Option.none 0 0] 184 (0,0))=Y3
   intro hB8 hE8 hs8
   refine zaM (P:=Tryz.prog) (t:=184) (l:=cs) hB8 hres.cells.1 hres.cells.2 (by rw[hres.cells.1];rfl) rfl ?_
   intro Y4 hs9 hB9 hk9
   try simp only[go_sem]
   refine hK _ _ ?_;clear hK hgd;clear K;try clear gd
   have hE24:Ext Y2 Y4:=Keep.to_ext hE8 rfl (fun b hb=>by omega) hk9
   have hY4:=hY2.trans hE24
   have hY4s:=hY4.size
   have hres4:=hres.keep hE24 (fun b hb _ h=>h)
   have d9:=zah (n:=5) hB9 hres.cells.1.symm
   repeat refine c_r ?_
   refine rg0 ?_
   repeat refine c_r ?_
   refine zaH (t:=(zaK R q x).isSome) (vq0) ?_ ?_
   ·intro hs
    obtain⟨r,hr⟩:=Option.isSome_iff_exists.1 hs
    rw[hr]at hres4
    repeat refine c_r ?_
    refine rq ?_;intro gd K hgd hK
    try simp (disch:=first|omega|assumption|rfl) only[go_sem,d9,h6]
    refine zaM (P:=Tryz.prog) (t:=184) (l:=cs) (Ext.at (hY1.trans hY4) hCY) hres.cells.1 hres.cells.2 (by rw[hres.cells.1];rfl) rfl ?_
    intro z hz' hbz2 hkz
    try simp only[go_sem]
    refine hK _ _ ?_;clear hK hgd;clear K;try clear gd
    repeat refine c_r ?_
    exact⟨.inr ⟨rfl,Keep.to_ext (hEw3.trans (hEY1.trans hY4)) rfl (fun b hb=>by omega) hkz,pre,x,r,cs,rfl,hp,fun l=>by simp only[goL];rw[ht,if_neg Bool.false_ne_true,if_neg (by omega),hr],hbz2,(hres4.keep hkz (fun b hb _=>by omega)).mono (by omega)⟩,((hY1.trans hY4).toB (by omega) (fun _ _ h=>h.elim)).trans (hkz.toB (by omega) (fun i _ h=>h))⟩
   ·intro hs
    have hnone:zaK R q x=Option.none:=by simpa using hs
    repeat refine c_r ?_
    refine⟨⟨hEY1.trans hY4,fun y hy=>?_⟩,(hY1.trans hY4).toB (by omega) (fun _ _ h=>h.elim)⟩
    rcases List.mem_append.1 hy with hy|hy
    ·exact hp y hy
    ·rw[List.mem_singleton.1 hy];exact⟨ht,by omega,hnone⟩
  ·intro B hszB ⟨hEB,hp⟩ hDB
   refine .inl ⟨.inl rfl,rfl,hDB,vq0,vq0,vq0,vq0,hEB,?_⟩
   have:=ze2 (l:=[]) hp
   rw[List.append_nil]at this
   rw[this];rfl
  ·rintro c pre x0 suf B hszB hxs h hDB
   rcases h with ⟨rfl,hEB,pre',x,hpre,h1,h2,h3⟩| ⟨rfl,hEB,pre',x,r,cs,hpre,h1,h2,h3,h4⟩
   ·obtain⟨rfl,h5⟩:=List.append_inj' hpre rfl
    have hx0:x0=x:=by simpa using h5
    subst hx0
    refine zfO ?_
    refine .inl ⟨.inr rfl,rfl,hDB,vq0,vq0,vq0,vq0,hEB,?_⟩
    rw[hxs,ze2 h1]
    simp only[goL]
    rw[h2,if_neg Bool.false_ne_true,if_pos h3]
   ·obtain⟨rfl,h5⟩:=List.append_inj' hpre rfl
    have hx0:x0=x:=by simpa using h5
    subst hx0
    refine zkg ?_
    refine .inr ⟨rfl,rfl,hDB,vq0,hEB,r,cs,?_,h3,h4⟩
    rw[hxs,ze2 h1,h2]
 ·intro e σ1 ds1 v1 hcase
  rcases hcase with ⟨he,rfl,hDv,h3,h4,h6,h2,hEv,hgo⟩| ⟨rfl,rfl,hDv,h6,hEv,r,cs,hgo,hbv,hres⟩
  ·refine zei he ?_
   have hlk:zbj o R q t=if zaX o R q=true then atL R q t false else match zbi o R q with
     |some s=>atL R s t true
     |Option.none=>⟨3,[],[],false,[]⟩:=by
    unfold zbj
    rw[if_neg (by rw[hu];decide),hgo]
   have hEwv:=hEw3.trans hEv
   have hzv:=hz3.ext hEv
   have hqv':=hq3.ext hEv
   have hCv:=Ext.at hEv hC3
   have d2v:=zah (n:=2) (l:=[ov,lv]) (Ext.at hEv hA3) rfl
   have dqv:zae v1 (some ⟨w.heap.size+1,0,Option.none⟩)=some qv:=zab (Ext.at hEv hB3) rfl
   have hvs:=hEv.size
   have hDlt:w3.heap.size<v1.heap.size:=(Array.getElem?_eq_some_iff.1 hDv).1
   -- a result laid into its variable,and the end
   have fin:∀{Y z:World} {cs:List Value} {r:ResL} {σ':Sto},Ext v1 Y→ResB w0 v1.heap.size Y cs r→r=zbj o R q t→z.heap.size=Y.heap.size→z.heap[w.heap.size+1+1]? =some (.cells cs.toArray 184 (0,0))→Keep (fun i=>i=w.heap.size+1+1) Y z→σ' 6= .pointer (some ⟨w.heap.size+1+1,0,Option.none⟩)→
     z.heap[w3.heap.size]? =some (.deferred (some []))∧∀Z,Keep (fun b=>b=w3.heap.size) z Z→Z.heap.size=z.heap.size→∃rs,resV Tryz.prog 68 σ' Z [.cell 6 184]=some rs∧(Ext w Z∧∃cs,resT rs= .agg cs.toArray∧ResB w0 w.heap.size Z cs (zbj o R q t)):=fun {Y z cs r σ'} hY hres hr hzs hbz hkz h6'=>by
    have hYs:=hY.size
    refine⟨(hkz.block _ (by omega) (by omega)).trans (Ext.at hY hDv),fun Z hkZ hsZ=>⟨_,zaZ (x:=⟨w.heap.size+1+1,0,Option.none⟩) (k:=5) ((vq1 h6')) rfl rfl (zah ((hkZ.block _ (by omega) (by omega)).trans hbz) hres.cells.1.symm) zaz,?_,_,rfl,?_⟩⟩
    ·exact Keep.to_ext (Keep.to_ext (hEwv.trans hY) rfl (fun b hb=>by omega) hkz) rfl (fun b hb=>by omega) hkZ
    ·rw[←hr]
     exact(((hres.keep hkz (fun b hb _=>by omega)).keep hkZ (fun b hb _=>by omega))).mono (by omega)
   repeat refine c_r ?_
   refine rq ?_;intro gd K hgd hK
   try simp (disch:=first|omega|assumption|rfl) only[go_sem,h3,h4,d2v,dqv]
   refine Fn.mono (zid hzv hqv' mq.s) ?_
   rintro _ Y1 ⟨rfl,hY1⟩
   try simp only[go_sem]
   refine hK _ _ ?_;clear hK hgd;clear K;try clear gd
   have hzY1:=hzv.ext hY1
   have d2y:=zad hY1 d2v
   have dqy:=zaa hY1 dqv
   have hY1s:=hY1.size
   repeat refine c_r ?_
   refine zaH (t:=zaX o R q) (vq0) ?_ ?_
   ·intro hex
    rw[hex,if_pos rfl]at hlk
    repeat refine c_r ?_
    refine rq ?_;intro gd K hgd hK
    try simp (disch:=first|omega|assumption|rfl) only[go_sem,h3,h4,h2,d2y,dqy]
    refine Fn.mono (At_ok hzY1 hR (hqv'.ext hY1) mq.s) ?_
    rintro _ Y2 ⟨hY2,cs,rfl,hres⟩
    try simp (disch:=first|omega|assumption|rfl) only[go_sem,h6]
    have hY2s:=hY2.size
    refine zaM (P:=Tryz.prog) (t:=184) (l:=cs) (Ext.at (hY1.trans hY2) hCv) hres.cells.1 hres.cells.2 (by rw[hres.cells.1];rfl) rfl ?_
    intro z hz' hbz2 hkz
    try simp only[go_sem]
    refine hK _ _ ?_;clear hK hgd;clear K;try clear gd
    repeat refine c_r ?_
    obtain⟨f1,f2⟩:=fin (hY1.trans hY2) (hres.mono hY1s) hlk.symm hz' hbz2 hkz h6
    refine zby (.inr rfl) Tryz.ntmps149 rfl f1 ?_
    intro Z hkZ hsZ
    exact f2 Z hkZ hsZ
   intro hex
   rw[hex,if_neg Bool.false_ne_true]at hlk
   repeat refine c_r ?_
   refine rq ?_;intro gd K hgd hK
   try simp (disch:=first|omega|assumption|rfl) only[go_sem,h3,h4,d2y,dqy]
   refine Fn.mono (zl4 hzY1 (hqv'.ext hY1) mq.s ql) ?_
   rintro _ Y2 ⟨hY2,sv,rfl,hsv⟩
   try simp only[go_sem]
   refine hK _ _ ?_;clear hK hgd;clear K;try clear gd
   have hY2s:=hY2.size
   have hzY2:=hzY1.ext hY2
   have d2z:=zad hY2 d2y
   have dqz:=zaa hY2 dqy
   repeat refine c_r ?_
   refine rg0 ?_
   repeat refine c_r ?_
   refine zaH (t:=(zbi o R q).isSome) (vq0) ?_ ?_
   ·intro hs
    obtain⟨s0,hs0⟩:=Option.isSome_iff_exists.1 hs
    rw[hs0]at hlk hsv
    have hsn:s0=zbZ o R q:=by
     unfold zbi at hs0
     split at hs0
     ·exact(Option.some.inj hs0).symm
     ·cases hs0
    have hss:NmS s0:=by rw[hsn];exact zku mq.s ql
    repeat refine c_r ?_
    refine rq ?_;intro gd K hgd hK
    try simp (disch:=first|omega|assumption|rfl) only[go_sem,h3,h2,d2z]
    refine Fn.mono (At_ok hzY2 hR hsv hss) ?_
    rintro _ Y3 ⟨hY3,cs,rfl,hres⟩
    try simp (disch:=first|omega|assumption|rfl) only[go_sem,h6]
    have hY3s:=hY3.size
    refine zaM (P:=Tryz.prog) (t:=184) (l:=cs) (Ext.at ((hY1.trans hY2).trans hY3) hCv) hres.cells.1 hres.cells.2 (by rw[hres.cells.1];rfl) rfl ?_
    intro z hz' hbz2 hkz
    try simp only[go_sem]
    refine hK _ _ ?_;clear hK hgd;clear K;try clear gd
    repeat refine c_r ?_
    obtain⟨f1,f2⟩:=fin ((hY1.trans hY2).trans hY3) (hres.mono (by omega)) hlk.symm hz' hbz2 hkz h6
    refine zby (.inr rfl) Tryz.ntmps149 rfl f1 ?_
    intro Z hkZ hsZ
    exact f2 Z hkZ hsZ
   ·intro hs
    have hs0:zbi o R q=Option.none:=by simpa using hs
    rw[hs0]at hlk
    repeat refine c_r ?_
    refine rq ?_;intro gd K hgd hK
    try simp (disch:=first|omega|assumption|rfl) only[go_sem,h6]
    refine⟨by kernel_rfl,?_⟩
    rw[show bdV Tryz.prog 184 [(0,vi 3)]=some (.agg #[vi 3,.slice Option.none 0 0,.slice Option.none 0 0,.bool false,.slice Option.none 0 0]) from by kernel_rfl]
    try simp (disch:=first|omega|assumption|rfl) only[go_sem,h6]
    refine zaM (P:=Tryz.prog) (t:=184) (l:=[vi 3,.slice Option.none 0 0,.slice Option.none 0 0,.bool false,.slice Option.none 0 0]) (Ext.at (hY1.trans hY2) hCv) rfl (fun v h=>by simp at h;rcases h with rfl|rfl|rfl|rfl|rfl<;>rfl) rfl rfl ?_
    intro z hz' hbz2 hkz
    try simp only[go_sem]
    refine hK _ _ ?_;clear hK hgd;clear K;try clear gd
    repeat refine c_r ?_
    obtain⟨f1,f2⟩:=fin (r:=⟨3,[],[],false,[]⟩) (hY1.trans hY2) ⟨_,_,_,rfl,Rows.nil _ _ _,BlkB.nil,.inr (zbd _),Rows.nil _ _ _,BlkB.nil⟩ hlk.symm hz' hbz2 hkz h6
    refine zby (.inr rfl) Tryz.ntmps149 rfl f1 ?_
    intro Z hkZ hsZ
    exact f2 Z hkZ hsZ
  ·have hlk:zbj o R q t=r:=by
    unfold zbj
    rw[if_neg (by rw[hu];decide),hgo]
   have hDlt:w3.heap.size<v1.heap.size:=(Array.getElem?_eq_some_iff.1 hDv).1
   repeat refine c_r ?_
   refine zby (.inr rfl) Tryz.ntmps149 rfl hDv ?_
   intro Z hkZ hsZ
   refine⟨_,zaZ (x:=⟨w.heap.size+1+1,0,Option.none⟩) (k:=5) ((vq1 h6)) rfl rfl (zah ((hkZ.block _ (by have:=hE3.size;omega) (by omega)).trans hbv) hres.cells.1.symm) zaz,Keep.to_ext hEv rfl (fun b hb=>by omega) hkZ,_,rfl,?_⟩
   rw[hlk]
   exact(hres.keep hkZ (fun b hb _=>by omega)).mono (by omega)
def LeadR(R:List RecL):Prop:=∀r∈R,(r.dat.ty=2∨r.dat.ty=5∨r.dat.ty=39)→r.dat.names≠ []
theorem zgW{R:List RecL}{n:Nm}{t:Int}{d:DatL}(h:d∈datC R n t):d.ty=t:=by
 unfold datC at h
 obtain⟨x,hx,rfl⟩:=List.mem_map.1 h
 have:=ofC_is x hx
 unfold isL at this
 simp only[Bool.and_eq_true,decide_eq_true_eq]at this
 exact this.1.symm
theorem zl2{w0 w:World}(hE0:Ext w0 w){ov lv:Value}{o:Nm}{R:List RecL}(ho:Row w ov (o.map vs))(hl:Rows 7 (RecAt w0) w lv R)(hok:∀r∈R,zbr r)(hlen:R.length≤1000000000):
  Fn Tryz.prog 111 #[ov,lv] w (fun v w'=>Ext w w'∧∃cv,v= .agg #[ov,cv]∧Rows 7 (RecAt w0) w' cv (za2 R)):=by
 obtain⟨ao,co,hov,_⟩:=id ho
 obtain⟨no,hno⟩:∃no,(o.map vs).length=no:=⟨_,rfl⟩
 rw[hno]at hov
 refine enter Tryz.func111 Tryz.ntmps111 rfl rfl ?_
 repeat refine c_r ?_
 refine rg0 ?_
 repeat refine c_r ?_
 refine zaB ?_
 intro w1 hE1 hs1 hA
 refine rq ?_;intro gd K hgd hK
 try simp only[go_sem]
 refine Fn.mono (zjz w0 w1 (hE0.trans hE1) (hl.ext hE1) hok hlen) ?_
 rintro cv w2 ⟨hcv,hE2,hcb⟩
 obtain⟨ac,cc,hcve,_⟩:=hcv.open
 try simp only[go_sem]
 refine⟨by kernel_rfl,?_⟩
 rw[hov,hcve,show bdV Tryz.prog 122 [(0,.slice ao no co),(1,.slice ac (za2 R).length cc)]=some (.agg #[.slice ao no co,.slice ac (za2 R).length cc]) from by kernel_rfl]
 try simp only[go_sem]
 refine zaM (P:=Tryz.prog) (t:=122) (l:=[.slice ao no co,.slice ac (za2 R).length cc]) (Ext.at hE2 hA) rfl (fun v h=>by simp at h;rcases h with rfl|rfl<;>rfl) rfl rfl ?_
 intro z hz' hbz hkz
 try simp only[go_sem]
 refine hK _ _ ?_;clear hK hgd;clear K;try clear gd
 repeat refine c_r ?_
 refine zaE (.inr rfl) Tryz.ntmps111 rfl (zaZ (x:=⟨w.heap.size,0,Option.none⟩) (k:=2) (vq0) rfl rfl (zah hbz rfl) zaz) ?_
 refine⟨Keep.to_ext (hE1.trans hE2) rfl (fun b hb=>by omega) hkz,.slice ac (za2 R).length cc,by rw[hov];rfl,?_⟩
 rw[←hcve]
 exact hcv.keep hkz hcb (fun b hb _=>by omega)
theorem RZNew_ok{w0 w:World}(hE0:Ext w0 w){ov lv:Value}{o:Nm}{R:List RecL}(ho:Row w ov (o.map vs))(hl:Rows 7 (RecAt w0) w lv R)(hok:∀r∈R,zbr r)(hlen:R.length≤1000000000):
  Fn Tryz.prog 65 #[ov,lv] w (fun v w'=>Ext w w'∧∃cv,v= .agg #[ov,cv]∧Rows 7 (RecAt w0) w' cv (za2 R)):=by
 obtain⟨ao,co,hov,_⟩:=id ho
 obtain⟨no,hno⟩:∃no,(o.map vs).length=no:=⟨_,rfl⟩
 rw[hno]at hov
 refine enter Tryz.func65 Tryz.ntmps65 rfl rfl ?_
 repeat refine c_r ?_
 refine rg0 ?_
 repeat refine c_r ?_
 refine zaB ?_
 intro w1 hE1 hs1 hA
 refine rq ?_;intro gd K hgd hK
 try simp only[go_sem]
 refine Fn.mono (zmb w0 w1 (hE0.trans hE1) (hl.ext hE1) hok hlen) ?_
 rintro cv w2 ⟨hcv,hE2⟩
 obtain⟨ac,cc,hcve,_⟩:=hcv.rows.open
 try simp only[go_sem]
 refine⟨by kernel_rfl,?_⟩
 rw[hov,hcve,show bdV Tryz.prog 128 [(0,.slice ao no co),(1,.slice ac (za2 R).length cc)]=some (.agg #[.slice ao no co,.slice ac (za2 R).length cc]) from by kernel_rfl]
 try simp only[go_sem]
 refine zaM (P:=Tryz.prog) (t:=128) (l:=[.slice ao no co,.slice ac (za2 R).length cc]) (Ext.at hE2 hA) rfl (fun v h=>by simp at h;rcases h with rfl|rfl<;>rfl) rfl rfl ?_
 intro z hz' hbz hkz
 try simp only[go_sem]
 refine hK _ _ ?_;clear hK hgd;clear K;try clear gd
 repeat refine c_r ?_
 refine zaE (.inr rfl) Tryz.ntmps65 rfl (zaZ (x:=⟨w.heap.size,0,Option.none⟩) (k:=2) (vq0) rfl rfl (zah hbz rfl) zaz) ?_
 refine⟨Keep.to_ext (hE1.trans hE2) rfl (fun b hb=>by omega) hkz,.slice ac (za2 R).length cc,by rw[hov];rfl,?_⟩
 rw[←hcve]
 exact hcv.rows.keep hkz hcv.blk (fun b hb _=>by omega)
def zbL(n:Nm):Bool:=few n && decide (zaD n=0)
theorem zbh{n:Nm}(h:zaD n=0):∀l∈n,l≠ []∧l.length≤63:=by
 intro l hl
 unfold zaD at h
 cases hf:n.find? (fun l=>decide (errL l≠0)) with
 |some x=>
  rw[hf]at h
  have:=List.find?_some hf
  simp only[decide_eq_true_eq]at this
  exact absurd h this
 |none=>
  have:=List.find?_eq_none.1 hf l hl
  simp only[decide_eq_true_eq,Decidable.not_not]at this
  unfold errL at this
  split at this
  ·cases this
  ·rename_i h0
   refine⟨h0,?_⟩
   split at this
   ·cases this
   ·omega
theorem sum_ge:∀n:Nm,n.length≤(n.map fun l=>1+l.length).sum
 | []=>Nat.zero_le _
 |a::n=>by
  have ih:=sum_ge n
  rw[List.map_cons,List.sum_cons]
  have e:(a::n).length=n.length+1:=rfl
  omega
theorem zgk{n:Nm}(h:zaD n=0):n.length≤255:=by
 have hl:=zbh h
 unfold zaD at h
 split at h
 ·rename_i x hf
  have:=List.find?_some hf
  simp only[decide_eq_true_eq]at this
  exact absurd h this
 ·split at h
  ·cases h
  ·rename_i h2
   unfold lenN at h2
   have:=sum_ge n
   omega
theorem ze5{n:Nm}(h:zaD n=0):NmG n:=
 ⟨fun l hl=>(zbh h l hl).1,fun l hl=>by have:=(zbh h l hl).2;omega,by have:=zgk h;omega⟩
theorem zb0{n:Nm}(h:zbL n=true):NmG n:=by
 unfold zbL at h
 simp only[Bool.and_eq_true,decide_eq_true_eq]at h
 exact ze5 h.2
theorem zg6(w:World)(a:Value)(xs:Nm)(ha:Row w a (xs.map vs)):
  Fn Tryz.prog 17 #[a] w (fun v w'=>v= .bool (zbL xs)∧Ext w w'):=by
 refine enter Tryz.func17 Tryz.ntmps17 rfl rfl ?_
 repeat refine c_r ?_
 refine rg0 ?_
 repeat refine c_r ?_
 cases hf:few xs with
 |true=>
  refine rq ?_;intro gd K hgd hK
  have hg2:∀n σ b,zav gd n σ (some (2,b))=zak (ev n σ (.tmp 5)) b:=(fun n σ b=>by rw[zac,show gd 2=some 5 from(by rw[hgd];rfl)];rfl)
  try simp only[go_sem]
  refine Fn.mono (zic w a xs ha) ?_
  rintro _ w1 ⟨rfl,hE1⟩
  rw[hf]
  try simp (disch:=first|omega|assumption|rfl) only[go_sem,↓hg2]
  refine Fn.mono (zbG w1 a xs (ha.ext hE1) (fun l hl=>by
   have:=few_lb hf l hl
   simp only[few,Bool.and_eq_true,List.all_eq_true,decide_eq_true_eq]at hf
   have:=hf.2 l hl
   omega) (by have:=few_len hf;omega)) ?_
  rintro _ w2 ⟨rfl,hE2⟩
  try simp (disch:=first|omega|assumption|rfl) only[go_sem,↓hg2]
  refine hK _ _ ?_;clear hK hgd;clear K;try clear gd
  repeat refine c_r ?_
  refine rt0 Tryz.ntmps17 ?_
  refine⟨?_,hE1.trans hE2⟩
  unfold zbL
  rw[hf,Bool.true_and]
 |false=>
  refine rq ?_;intro gd K hgd hK
  have hg2:∀n σ b,zav gd n σ (some (2,b))=zak (ev n σ (.tmp 5)) b:=(fun n σ b=>by rw[zac,show gd 2=some 5 from(by rw[hgd];rfl)];rfl)
  try simp only[go_sem]
  refine Fn.mono (zic w a xs ha) ?_
  rintro _ w1 ⟨rfl,hE1⟩
  rw[hf]
  try simp (disch:=first|omega|assumption|rfl) only[go_sem,↓hg2]
  refine hK _ _ ?_;clear hK hgd;clear K;try clear gd
  repeat refine c_r ?_
  refine rt0 Tryz.ntmps17 ?_
  refine⟨?_,hE1⟩
  unfold zbL
  rw[hf,Bool.false_and]
theorem zmn(w:World)(t:Int):
  Fn Tryz.prog 264 #[vi t] w (fun v w'=>w'=w∧∃a b c:Int,v= .tuple #[vi a,vi b,vi c]∧((t=2∨t=5∨t=39)→a=1)∧(t=15→b=1)):=by
 refine enter Tryz.func264 Tryz.ntmps264 rfl rfl ?_
 repeat refine c_r ?_
 refine rg0 ?_
 repeat refine c_r ?_
 refine rg0 ?_
 repeat refine c_r ?_
 refine rg0 ?_
 repeat refine c_r ?_
 refine wc0 ?_ ?_
 ·intro h1
  simp only[decide_eq_true_eq]at h1
  repeat (first|refine c_r ?_|refine rg0 ?_)
  refine zaE (.inr rfl) Tryz.ntmps264 rfl (zar (vr0) (zar (vr0) (zar (vr0) zaz))) ?_
  exact⟨rfl,0,0,4,rfl,by omega,by omega⟩
 intro h1
 simp only[decide_eq_false_iff_not]at h1
 repeat refine c_r ?_
 refine rg0 ?_
 repeat refine c_r ?_
 refine wc0 ?_ ?_
 ·intro h2
  simp only[decide_eq_true_eq]at h2
  repeat (first|refine c_r ?_|refine rg0 ?_)
  refine zaE (.inr rfl) Tryz.ntmps264 rfl (zar (vr0) (zar (vr0) (zar (vr0) zaz))) ?_
  exact⟨rfl,0,0,16,rfl,by omega,by omega⟩
 intro h2
 simp only[decide_eq_false_iff_not]at h2
 refine zfY ?_
 refine zay (Q:=fun e σ' ds' v'=>e= .normal∧ds'=[]∧v'=w∧σ' 5=vi t∧∃bb,σ' 10= .bool bb∧bb=(decide (t=2)|| (decide (t=5)|| (decide (t=12)||decide (t=39))))) ?_ ?_
 ·refine zfY ?_
  refine rg0 ?_
  refine zat ?_
  refine wc0 ?_ ?_
  ·intro h
   repeat refine c_r ?_
   exact⟨rfl,rfl,rfl,vq0,true,by simp only[go_sem];rw[h],by rw[h];rfl⟩
  intro e1
  refine zfY ?_
  refine rg0 ?_
  refine zat ?_
  refine wc0 ?_ ?_
  ·intro h
   repeat refine c_r ?_
   exact⟨rfl,rfl,rfl,vq0,true,by simp only[go_sem];rw[h],by rw[e1,h];rfl⟩
  intro e2
  refine zfY ?_
  refine rg0 ?_
  refine zat ?_
  refine wc0 ?_ ?_
  ·intro h
   repeat refine c_r ?_
   exact⟨rfl,rfl,rfl,vq0,true,by simp only[go_sem];rw[h],by rw[e1,e2,h];rfl⟩
  intro e3
  refine rg0 ?_
  exact⟨rfl,rfl,rfl,vq0,decide (t=39),vr0,by rw[e1,e2,e3];rfl⟩
 rintro _ σ1 _ v1 ⟨rfl,rfl,hv1,h5,bb,h10,hbb⟩
 rw[hv1]
 clear hv1 v1
 repeat refine c_r ?_
 refine zaH (t:=bb) ((vq1 h10)) ?_ ?_
 ·intro ht
  rw[ht]at hbb
  repeat (first|refine c_r ?_|refine rg0 ?_)
  refine zaE (.inr rfl) Tryz.ntmps264 rfl (zar (vr0) (zar (vr0) (zar (vr0) zaz))) ?_
  refine⟨rfl,1,0,0,rfl,fun _=>rfl,fun h=>?_⟩
  subst h
  cases hbb
 intro ht
 rw[ht]at hbb
 have hno:¬(t=2∨t=5∨t=39):=by
  rintro(rfl|rfl|rfl)<;>cases hbb
 repeat refine c_r ?_
 refine rg1 h5 ?_
 repeat refine c_r ?_
 refine wc0 ?_ ?_
 ·intro h3
  repeat (first|refine c_r ?_|refine rg0 ?_)
  refine zaE (.inr rfl) Tryz.ntmps264 rfl (zar (vr0) (zar (vr0) (zar (vr0) zaz))) ?_
  exact⟨rfl,1,1,0,rfl,fun _=>rfl,fun _=>rfl⟩
 intro h3
 simp only[decide_eq_false_iff_not]at h3
 repeat refine c_r ?_
 refine rg1 h5 ?_
 repeat refine c_r ?_
 refine wc0 ?_ ?_
 ·intro h4
  repeat (first|refine c_r ?_|refine rg0 ?_)
  refine zaE (.inr rfl) Tryz.ntmps264 rfl (zar (vr0) (zar (vr0) (zar (vr0) zaz))) ?_
  exact⟨rfl,2,5,0,rfl,fun h=>absurd h hno,fun h=>absurd h h3⟩
 intro h4
 repeat refine c_r ?_
 refine rg1 h5 ?_
 repeat refine c_r ?_
 refine wc0 ?_ ?_
 ·intro h6
  repeat (first|refine c_r ?_|refine rg0 ?_)
  refine zaE (.inr rfl) Tryz.ntmps264 rfl (zar (vr0) (zar (vr0) (zar (vr0) zaz))) ?_
  exact⟨rfl,0,0,0,rfl,fun h=>absurd h hno,fun h=>absurd h h3⟩
 intro h6
 repeat (first|refine c_r ?_|refine rg0 ?_)
 refine zaE (.inr rfl) Tryz.ntmps264 rfl (zar (vr0) (zar (vr0) (zar (vr0) zaz))) ?_
 exact⟨rfl,0,0, -1,rfl,fun h=>absurd h hno,fun h=>absurd h h3⟩
theorem zbQ(b:Bool):zak undef b=false:=nr rfl
structure DatF(d:DatL):Prop where
 names:∀n∈d.names,(∀l∈n,l.length≤1000000000)∧n.length≤1000000000
 nn:d.names.length≤1000000000
 nu:d.nums.length≤1000000000
 nt:d.texts.length≤1000000000
 tl:∀l∈d.texts,l.length≤1000000000
 nr:d.raw.length≤1000000000
 n8:d.names.length≤8
def zgH(t:Int):Prop:=t=2∨t=5∨t=39
theorem zg5{w0 w:World}(hE0:Ext w0 w){cs:List Value}{d:DatL}(hd:DatAt w0 cs d)(hf:DatF d):
  Fn Tryz.prog 218 #[.agg cs.toArray] w (fun v w'=>Ext w w'∧∃e:Int,v=vi e∧(e=0→(∀n∈d.names,zaD n=0)∧(zgH d.ty→d.names.length=1))):=by
 obtain⟨nm,nu,tx,rw',rfl,⟨vals,⟨an,cn,rfl,hcn,hgn⟩,hvl,hvr⟩,⟨au,cu,rfl,hcu,hgu⟩,⟨at1,ct,rfl,hct,hgt⟩,⟨ar,cr,rfl,hcr,hgr⟩⟩:=hd.ex
 simp only[List.length_map]at hcu hgu hct hgt hcr hgr
 simp only[List.length_map]
 obtain⟨L,hL⟩:∃L:List Value,[vi d.ty,.slice an vals.length cn,.slice au d.nums.length cu,.slice at1 d.texts.length ct,.slice ar d.raw.length cr]=L:=⟨_,rfl⟩
 refine enter Tryz.func218 Tryz.ntmps218 rfl rfl ?_
 repeat refine c_r ?_
 refine rg0 ?_
 repeat refine c_r ?_
 refine zaB ?_
 intro w1 hE1 hs1 hA
 have p0:zae w1 (some ⟨w.heap.size,0,Option.none⟩)=some (vi d.ty):=zab hA rfl
 have p1:zae w1 (some ⟨w.heap.size,1,Option.none⟩)=some (.slice an vals.length cn):=zab hA rfl
 have p2:zae w1 (some ⟨w.heap.size,2,Option.none⟩)=some (.slice au d.nums.length cu):=zab hA rfl
 have p3:zae w1 (some ⟨w.heap.size,3,Option.none⟩)=some (.slice at1 d.texts.length ct):=zab hA rfl
 have p4:zae w1 (some ⟨w.heap.size,4,Option.none⟩)=some (.slice ar d.raw.length cr):=zab hA rfl
 have nn:=hf.nn
 have nu:=hf.nu
 have nt:=hf.nt
 have nr:=hf.nr
 have rd:∀{x},Ext w1 x→zae x (some ⟨w.heap.size,1,Option.none⟩)=some (.slice an vals.length cn)∧zae x (some ⟨w.heap.size,3,Option.none⟩)=some (.slice at1 d.texts.length ct)∧zae x (some ⟨w.heap.size,0,Option.none⟩)=some (vi d.ty)∧zae x (some ⟨w.heap.size,2,Option.none⟩)=some (.slice au d.nums.length cu)∧zae x (some ⟨w.heap.size,4,Option.none⟩)=some (.slice ar d.raw.length cr):=
  fun hx=>⟨zaa hx p1,zaa hx p3,zaa hx p0,zaa hx p2,zaa hx p4⟩
 refine zay (Q:=fun e σ' ds' v'=>e= .normal∧ds'=[]∧σ' 1= .pointer (some ⟨w.heap.size,0,Option.none⟩)∧v'=w1∧∃bb,σ' 17= .bool bb) ?_ ?_
 ·by_cases h1:d.ty<1
  ·refine rq ?_;intro gd K hgd hK
   have hg3:∀n σ b,zav gd n σ (some (3,b))=zak (ev n σ (.tmp 13)) b:=(fun n σ b=>by rw[zac,show gd 3=some 13 from(by rw[hgd];rfl)];rfl)
   try simp (disch:=first|omega|assumption|rfl) only[go_sem,p0,Nat.add_zero,decide_eq_true h1,↓hg3]
   refine hK _ _ ?_;clear hK hgd;clear K;try clear gd
   exact⟨rfl,rfl,vq0,rfl,_,vr0⟩
  ·refine rq ?_;intro gd K hgd hK
   have hg3:∀n σ b,zav gd n σ (some (3,b))=zak (ev n σ (.tmp 13)) b:=(fun n σ b=>by rw[zac,show gd 3=some 13 from(by rw[hgd];rfl)];rfl)
   try simp (disch:=first|omega|assumption|rfl) only[go_sem,p0,Nat.add_zero,decide_eq_false h1,↓hg3]
   refine hK _ _ ?_;clear hK hgd;clear K;try clear gd
   exact⟨rfl,rfl,vq0,rfl,_,vr0⟩
 rintro _ σ1 _ v1 ⟨rfl,rfl,h1,hv1,bb,h17⟩
 rw[hv1]
 clear hv1 v1
 repeat refine c_r ?_
 refine zaH (t:=bb) ((vq1 h17)) ?_ ?_
 ·intro _
  repeat (first|refine c_r ?_|refine rg0 ?_)
  refine rt0 Tryz.ntmps218 ?_
  exact⟨hE1,6,rfl,fun h=>by cases h⟩
 intro _
 repeat refine c_r ?_
 refine rq ?_;intro gd K hgd hK
 try simp (disch:=first|omega|assumption|rfl) only[go_sem,h1,p0,Nat.add_zero]
 refine Fn.mono (zmn w1 d.ty) ?_
 rintro _ w2 ⟨hw2,a,b,c,rfl,hca,hcb⟩
 rw[hw2]
 clear hw2 w2
 try simp only[go_sem]
 refine hK _ _ ?_;clear hK hgd;clear K;try clear gd
 repeat refine c_r ?_
 refine rg3 h1 p3 Nat.zero_add ?_
 repeat refine c_r ?_
 refine rg3 h1 p0 Nat.add_zero ?_
 repeat refine c_r ?_
 refine zay (Q:=fun e σ' ds' v'=>e= .normal∧ds'=[]∧σ' 1= .pointer (some ⟨w.heap.size,0,Option.none⟩)∧σ' 3=vi a∧σ' 4=vi b∧σ' 5=vi c∧v'=w1∧∃bb,σ' 6= .bool bb) ?_ ?_
 ·refine wc0 ?_ ?_
  ·intro h16
   repeat refine c_r ?_
   by_cases h2:(d.texts.length:Int)≥1
   ·refine rq ?_;intro gd K hgd hK
    have hg4:∀n σ b,zav gd n σ (some (4,b))=zak (ev n σ (.tmp 36)) b:=(fun n σ b=>by rw[zac,show gd 4=some 36 from(by rw[hgd];rfl)];rfl)
    try simp (disch:=first|omega|assumption|rfl) only[go_sem,h1,p3,Nat.zero_add,decide_eq_true h2,↓hg4]
    refine hK _ _ ?_;clear hK hgd;clear K;try clear gd
    exact⟨rfl,rfl,(vq1 h1),vq0,vq0,vq0,rfl,_,vr0⟩
   ·refine rq ?_;intro gd K hgd hK
    have hg4:∀n σ b,zav gd n σ (some (4,b))=zak (ev n σ (.tmp 36)) b:=(fun n σ b=>by rw[zac,show gd 4=some 36 from(by rw[hgd];rfl)];rfl)
    try simp (disch:=first|omega|assumption|rfl) only[go_sem,h1,p3,Nat.zero_add,decide_eq_false h2,↓hg4]
    refine hK _ _ ?_;clear hK hgd;clear K;try clear gd
    exact⟨rfl,rfl,(vq1 h1),vq0,vq0,vq0,rfl,_,vr0⟩
  ·intro h16
   repeat refine c_r ?_
   exact⟨rfl,rfl,(vq1 h1),vq0,vq0,vq0,rfl,_,vr0⟩
 clear h1
 rintro _ σ2 _ v1 ⟨rfl,rfl,h1,h3,h4,h5,hv1,b6,h6⟩
 rw[hv1]
 clear hv1 v1
 repeat refine c_r ?_
 refine zay (Q:=fun e σ' ds' v'=>e= .normal∧ds'=[]∧σ' 1= .pointer (some ⟨w.heap.size,0,Option.none⟩)∧v'=w1∧∃bb,σ' 68= .bool bb∧(bb=false→(vals.length:Int)=a∧(d.nums.length:Int)=b)) ?_ ?_
 ·by_cases hA:(vals.length:Int)=a
  rotate_left
  ·refine rq ?_;intro gd K hgd hK
   have hg5:∀n σ b,zav gd n σ (some (5,b))=zak (ev n σ (.tmp 47)) b:=(fun n σ b=>by rw[zac,show gd 5=some 47 from(by rw[hgd];rfl)];rfl);have hg12:∀n σ b,zav gd n σ (some (12,b))=zak (ev n σ (.tmp 54)) b:=(fun n σ b=>by rw[zac,show gd 12=some 54 from(by rw[hgd];rfl)];rfl);have hg15:∀n σ b,zav gd n σ (some (15,b))=zak (ev n σ (.tmp 57)) b:=(fun n σ b=>by rw[zac,show gd 15=some 57 from(by rw[hgd];rfl)];rfl);have hg23:∀n σ b,zav gd n σ (some (23,b))=zak (ev n σ (.tmp 65)) b:=(fun n σ b=>by rw[zac,show gd 23=some 65 from(by rw[hgd];rfl)];rfl)
   try simp (disch:=first|omega|assumption|rfl) only[go_sem,h1,h3,h4,h5,h6,p1,p2,p4,Nat.zero_add,decide_eq_false hA,Bool.not_true,Bool.not_false,zbQ,↓hg5,↓hg12,↓hg15,↓hg23]
   refine hK _ _ ?_;clear hK hgd;clear K;try clear gd
   exact⟨rfl,rfl,(vq1 h1),rfl,_,vr0,fun h=>by cases h⟩
  by_cases hB:(d.nums.length:Int)=b
  rotate_left
  ·refine rq ?_;intro gd K hgd hK
   have hg5:∀n σ b,zav gd n σ (some (5,b))=zak (ev n σ (.tmp 47)) b:=(fun n σ b=>by rw[zac,show gd 5=some 47 from(by rw[hgd];rfl)];rfl);have hg12:∀n σ b,zav gd n σ (some (12,b))=zak (ev n σ (.tmp 54)) b:=(fun n σ b=>by rw[zac,show gd 12=some 54 from(by rw[hgd];rfl)];rfl);have hg15:∀n σ b,zav gd n σ (some (15,b))=zak (ev n σ (.tmp 57)) b:=(fun n σ b=>by rw[zac,show gd 15=some 57 from(by rw[hgd];rfl)];rfl);have hg23:∀n σ b,zav gd n σ (some (23,b))=zak (ev n σ (.tmp 65)) b:=(fun n σ b=>by rw[zac,show gd 23=some 65 from(by rw[hgd];rfl)];rfl)
   try simp (disch:=first|omega|assumption|rfl) only[go_sem,h1,h3,h4,h5,h6,p1,p2,p4,Nat.zero_add,decide_eq_true hA,decide_eq_false hB,Bool.not_true,Bool.not_false,zbQ,↓hg5,↓hg12,↓hg15,↓hg23]
   refine hK _ _ ?_;clear hK hgd;clear K;try clear gd
   exact⟨rfl,rfl,(vq1 h1),rfl,_,vr0,fun h=>by cases h⟩
  by_cases hC:c≥0
  ·by_cases hD:(d.raw.length:Int)=c
   ·refine rq ?_;intro gd K hgd hK
    have hg5:∀n σ b,zav gd n σ (some (5,b))=zak (ev n σ (.tmp 47)) b:=(fun n σ b=>by rw[zac,show gd 5=some 47 from(by rw[hgd];rfl)];rfl);have hg12:∀n σ b,zav gd n σ (some (12,b))=zak (ev n σ (.tmp 54)) b:=(fun n σ b=>by rw[zac,show gd 12=some 54 from(by rw[hgd];rfl)];rfl);have hg15:∀n σ b,zav gd n σ (some (15,b))=zak (ev n σ (.tmp 57)) b:=(fun n σ b=>by rw[zac,show gd 15=some 57 from(by rw[hgd];rfl)];rfl);have hg23:∀n σ b,zav gd n σ (some (23,b))=zak (ev n σ (.tmp 65)) b:=(fun n σ b=>by rw[zac,show gd 23=some 65 from(by rw[hgd];rfl)];rfl)
    try simp (disch:=first|omega|assumption|rfl) only[go_sem,h1,h3,h4,h5,h6,p1,p2,p4,Nat.zero_add,decide_eq_true hA,decide_eq_true hB,decide_eq_true hC,decide_eq_true hD,Bool.not_true,Bool.not_false,zbQ,↓hg5,↓hg12,↓hg15,↓hg23]
    refine hK _ _ ?_;clear hK hgd;clear K;try clear gd
    exact⟨rfl,rfl,(vq1 h1),rfl,_,vr0,fun _=>⟨hA,hB⟩⟩
   ·refine rq ?_;intro gd K hgd hK
    have hg5:∀n σ b,zav gd n σ (some (5,b))=zak (ev n σ (.tmp 47)) b:=(fun n σ b=>by rw[zac,show gd 5=some 47 from(by rw[hgd];rfl)];rfl);have hg12:∀n σ b,zav gd n σ (some (12,b))=zak (ev n σ (.tmp 54)) b:=(fun n σ b=>by rw[zac,show gd 12=some 54 from(by rw[hgd];rfl)];rfl);have hg15:∀n σ b,zav gd n σ (some (15,b))=zak (ev n σ (.tmp 57)) b:=(fun n σ b=>by rw[zac,show gd 15=some 57 from(by rw[hgd];rfl)];rfl);have hg23:∀n σ b,zav gd n σ (some (23,b))=zak (ev n σ (.tmp 65)) b:=(fun n σ b=>by rw[zac,show gd 23=some 65 from(by rw[hgd];rfl)];rfl)
    try simp (disch:=first|omega|assumption|rfl) only[go_sem,h1,h3,h4,h5,h6,p1,p2,p4,Nat.zero_add,decide_eq_true hA,decide_eq_true hB,decide_eq_true hC,decide_eq_false hD,Bool.not_true,Bool.not_false,zbQ,↓hg5,↓hg12,↓hg15,↓hg23]
    refine hK _ _ ?_;clear hK hgd;clear K;try clear gd
    exact⟨rfl,rfl,(vq1 h1),rfl,_,vr0,fun h=>by cases h⟩
  ·refine rq ?_;intro gd K hgd hK
   have hg5:∀n σ b,zav gd n σ (some (5,b))=zak (ev n σ (.tmp 47)) b:=(fun n σ b=>by rw[zac,show gd 5=some 47 from(by rw[hgd];rfl)];rfl);have hg12:∀n σ b,zav gd n σ (some (12,b))=zak (ev n σ (.tmp 54)) b:=(fun n σ b=>by rw[zac,show gd 12=some 54 from(by rw[hgd];rfl)];rfl);have hg15:∀n σ b,zav gd n σ (some (15,b))=zak (ev n σ (.tmp 57)) b:=(fun n σ b=>by rw[zac,show gd 15=some 57 from(by rw[hgd];rfl)];rfl);have hg23:∀n σ b,zav gd n σ (some (23,b))=zak (ev n σ (.tmp 65)) b:=(fun n σ b=>by rw[zac,show gd 23=some 65 from(by rw[hgd];rfl)];rfl)
   try simp (disch:=first|omega|assumption|rfl) only[go_sem,h1,h3,h4,h5,h6,p1,p2,p4,Nat.zero_add,decide_eq_true hA,decide_eq_true hB,decide_eq_false hC,Bool.not_true,Bool.not_false,zbQ,↓hg5,↓hg12,↓hg15,↓hg23]
   refine hK _ _ ?_;clear hK hgd;clear K;try clear gd
   exact⟨rfl,rfl,(vq1 h1),rfl,_,vr0,fun _=>⟨hA,hB⟩⟩
 clear h1 h3 h4 h5 h6
 rintro _ σ3 _ v1 ⟨rfl,rfl,h1,hv1,b7,h68,hb7⟩
 rw[hv1]
 clear hv1 v1
 repeat refine c_r ?_
 refine zaH (t:=b7) ((vq1 h68)) ?_ ?_
 ·intro _
  repeat (first|refine c_r ?_|refine rg0 ?_)
  refine rt0 Tryz.ntmps218 ?_
  exact⟨hE1,2,rfl,fun h=>by cases h⟩
 intro hb
 obtain⟨hA,hB⟩:=hb7 hb
 have hlead:zgH d.ty→d.names.length=1:=fun h=>by have:=hca h;omega
 repeat refine c_r ?_
 refine rg0 ?_
 repeat refine c_r ?_
 refine zay (Q:=fun e σ' ds' v'=>ds'=[]∧Ext w1 v'∧((e= .exit 0∧σ' 1= .pointer (some ⟨w.heap.size,0,Option.none⟩)∧∀n∈d.names,zaD n=0)∨(e= .ret∧∃e2:Int,e2≠0∧σ' 2=vi e2))) ?_ ?_
 ·refine zam (fun m σ ds A=>ds=[]∧∃(i:Nat),i+m=vals.length∧σ 7=vi i∧σ 1= .pointer (some ⟨w.heap.size,0,Option.none⟩)∧Ext w1 A∧∀j (h:j<d.names.length),j<i→zaD d.names[j]=0) vals.length ?_ ?_
  ·exact⟨rfl,0,by omega,vr0,(vq1 h1),Keep.refl _ _,fun j h hj=>absurd hj (by omega)⟩
  clear h1
  rintro m σ ds A ⟨rfl,i,him,h7,h1,hEA,hlow⟩
  obtain⟨q1,q3,q0,q2,q4⟩:=rd hEA
  repeat refine c_r ?_
  refine rg4 h7 h1 q1 Nat.zero_add ?_
  repeat refine c_r ?_
  refine wc0 ?_ ?_
  ·intro hlt
   simp only[decide_eq_true_eq]at hlt
   have hi:i<vals.length:=by omega
   have hi0:(0:Int)≤(i:Int):=by omega
   have hi1:(i:Int)<(vals.length:Int):=by omega
   have hi1':(i:Int)+1=((i+1:Nat):Int):=by push_cast;rfl
   have hgi:=hgn i hi
   obtain⟨xN,rfl⟩:=Option.isSome_iff_exists.1 (zag hgi)
   have hgi':=zaa (hE0.trans (hE1.trans hEA)) hgi
   have hrow:=hvr i hi (by omega)
   obtain⟨n,hn⟩:∃n,d.names[i]'(by omega)=n:=⟨_,rfl⟩
   rw[hn]at hrow
   have hnf:=hf.names n (hn▸List.getElem_mem _)
   obtain⟨hv,hhv⟩:∃hv,vals[i]=hv:=⟨_,rfl⟩
   rw[hhv]at hgi' hrow
   repeat refine c_r ?_
   refine rq ?_;intro gd K hgd hK
   try simp (disch:=first|omega|assumption|rfl) only[go_sem,h7,h1,q1,Nat.zero_add,hi0,hi1,hgi']
   refine Fn.mono (zbG A hv n (hrow.ext (hE0.trans (hE1.trans hEA))) hnf.1 hnf.2) ?_
   rintro _ A2 ⟨rfl,hA2⟩
   try simp only[go_sem]
   refine hK _ _ ?_;clear hK hgd;clear K;try clear gd
   repeat refine c_r ?_
   refine rg0 ?_
   repeat refine c_r ?_
   by_cases h0:zaD n=0
   ·rw[h0]
    refine zaH (t:=false) (vr0) (fun h=>by cases h) ?_
    intro _
    repeat refine c_r ?_
    refine rg2 h7 hi1' ?_
    repeat refine c_r ?_
    refine⟨m - 1,by omega,rfl,i+1,by omega,vq0,(vq1 h1),hEA.trans hA2,fun j hj hji=>?_⟩
    by_cases hj2:j=i
    ·subst hj2;rw[hn];exact h0
    ·exact hlow j hj (by omega)
   ·refine zaH (t:=!decide (zaD n=0)) (vr0) ?_ (fun h=>by rw[decide_eq_false h0]at h;cases h)
    intro _
    repeat refine c_r ?_
    refine rg0 ?_
    repeat refine c_r ?_
    exact⟨rfl,hEA.trans hA2,.inr ⟨rfl,zaD n,h0,vq0⟩⟩
  ·intro hge
   simp only[decide_eq_false_iff_not]at hge
   repeat refine c_r ?_
   refine⟨rfl,hEA,.inl ⟨rfl,(vq1 h1),fun n hn=>?_⟩⟩
   obtain⟨j,hj,rfl⟩:=List.getElem_of_mem hn
   exact hlow j hj (by omega)
 clear h1
 rintro e σ4 _ A ⟨rfl,hEA,⟨rfl,h1,hall⟩| ⟨rfl,e2,he2,h2⟩⟩
 rotate_left
 ·repeat refine c_r ?_
  refine rt1 h2 Tryz.ntmps218 ?_
  exact⟨hE1.trans hEA,e2,rfl,fun h=>absurd h he2⟩
 have fin:∀e:Int,e=0→(∀n∈d.names,zaD n=0)∧(zgH d.ty→d.names.length=1):=fun e _=>⟨hall,hlead⟩
 obtain⟨q1,q3,q0,q2,q4⟩:=rd hEA
 repeat refine c_r ?_
 have hvl0:(d.names.length:Int)=a:=by omega
 refine zay (Q:=fun e σ' ds' v'=>e= .normal∧ds'=[]∧σ' 1= .pointer (some ⟨w.heap.size,0,Option.none⟩)∧v'=A∧∃bb,σ' 94= .bool bb) ?_ ?_
 ·by_cases h15:d.ty=15
  ·have hb1:=hcb h15
   have hnu1:(0:Int)<(d.nums.length:Int):=by omega
   have hz0:(0:Int)≤0:=by omega
   have hg0:=hgu 0 (by omega)
   obtain⟨xU,rfl⟩:=Option.isSome_iff_exists.1 (zag hg0)
   rw[zaA]at hg0
   have hg0':=zaa (hE0.trans (hE1.trans hEA)) hg0
   rw[List.getElem_map]at hg0'
   refine rq ?_;intro gd K hgd hK
   have hg3:∀n σ b,zav gd n σ (some (3,b))=zak (ev n σ (.tmp 88)) b:=(fun n σ b=>by rw[zac,show gd 3=some 88 from(by rw[hgd];rfl)];rfl)
   try simp (disch:=first|omega|assumption|rfl) only[go_sem,h1,q0,q2,Nat.add_zero,Nat.zero_add,decide_eq_true h15,hnu1,hz0,hg0',Nat.zero_mul,zaA,Int.toNat_zero,↓hg3]
   refine hK _ _ ?_;clear hK hgd;clear K;try clear gd
   exact⟨rfl,rfl,(vq1 h1),rfl,_,vr0⟩
  ·refine rq ?_;intro gd K hgd hK
   have hg3:∀n σ b,zav gd n σ (some (3,b))=zak (ev n σ (.tmp 88)) b:=(fun n σ b=>by rw[zac,show gd 3=some 88 from(by rw[hgd];rfl)];rfl)
   try simp (disch:=first|omega|assumption|rfl) only[go_sem,h1,q0,Nat.add_zero,decide_eq_false h15,↓hg3]
   refine hK _ _ ?_;clear hK hgd;clear K;try clear gd
   exact⟨rfl,rfl,(vq1 h1),rfl,_,vr0⟩
 clear h1
 rintro _ σ5 _ v1 ⟨rfl,rfl,h1,hv1,b94,h94⟩
 rw[hv1]
 clear hv1 v1
 repeat refine c_r ?_
 refine zaH (t:=b94) ((vq1 h94)) ?_ ?_
 ·intro _
  repeat (first|refine c_r ?_|refine rg0 ?_)
  refine rt0 Tryz.ntmps218 ?_
  exact⟨hE1.trans hEA,7,rfl,fun h=>by cases h⟩
 intro _
 repeat refine c_r ?_
 refine rg0 ?_
 repeat refine c_r ?_
 refine zay (Q:=fun e σ' ds' v'=>ds'=[]∧v'=A∧((e= .exit 2∧σ' 1= .pointer (some ⟨w.heap.size,0,Option.none⟩))∨(e= .ret∧σ' 2=vi 3))) ?_ ?_
 ·refine zam (fun m σ ds B=>ds=[]∧∃(i:Nat),i+m=d.texts.length∧σ 9=vi i∧σ 1= .pointer (some ⟨w.heap.size,0,Option.none⟩)∧B=A) d.texts.length ?_ ?_
  ·exact⟨rfl,0,by omega,vr0,(vq1 h1),rfl⟩
  clear h1
  rintro m σ ds B ⟨rfl,i,him,h9,h1,hB2⟩
  rw[hB2]
  clear hB2 B
  repeat refine c_r ?_
  refine rg4 h9 h1 q3 Nat.zero_add ?_
  repeat refine c_r ?_
  refine wc0 ?_ ?_
  ·intro hlt
   simp only[decide_eq_true_eq]at hlt
   have hi:i<d.texts.length:=by omega
   have hi0:(0:Int)≤(i:Int):=by omega
   have hi1:(i:Int)<(d.texts.length:Int):=by omega
   have hi1':(i:Int)+1=((i+1:Nat):Int):=by push_cast;rfl
   have hgi:=hgt i hi
   obtain⟨xT,rfl⟩:=Option.isSome_iff_exists.1 (zag hgi)
   have hgi':=zaa (hE0.trans (hE1.trans hEA)) hgi
   rw[List.getElem_map]at hgi'
   have htl:=hf.tl _ (List.getElem_mem hi)
   repeat refine c_r ?_
   refine rg7 h9 h1 q3 Nat.zero_add hi0 hi1 hgi' ?_
   repeat refine c_r ?_
   refine wc0 ?_ ?_
   ·intro hgt2
    repeat refine c_r ?_
    refine rg0 ?_
    repeat refine c_r ?_
    exact⟨rfl,rfl,.inr ⟨rfl,vq0⟩⟩
   ·intro hgt2
    repeat refine c_r ?_
    refine rg2 h9 hi1' ?_
    repeat refine c_r ?_
    exact⟨m - 1,by omega,rfl,i+1,by omega,vq0,(vq1 h1),rfl⟩
  ·intro hge
   repeat refine c_r ?_
   exact⟨rfl,rfl,.inl ⟨rfl,(vq1 h1)⟩⟩
 clear h1
 rintro e σ6 _ v1 ⟨rfl,hv1,⟨rfl,h1⟩| ⟨rfl,h2⟩⟩
 rotate_left
 ·rw[hv1]
  repeat refine c_r ?_
  refine rt1 h2 Tryz.ntmps218 ?_
  exact⟨hE1.trans hEA,3,rfl,fun h=>by cases h⟩
 rw[hv1]
 clear hv1 v1
 repeat refine c_r ?_
 refine rg3 h1 q4 Nat.zero_add ?_
 repeat refine c_r ?_
 refine wc0 ?_ ?_
 ·intro _
  repeat (first|refine c_r ?_|refine rg0 ?_)
  refine rt0 Tryz.ntmps218 ?_
  exact⟨hE1.trans hEA,3,rfl,fun h=>by cases h⟩
 intro _
 repeat (first|refine c_r ?_|refine rg0 ?_)
 refine rt0 Tryz.ntmps218 ?_
 exact⟨hE1.trans hEA,0,rfl,fin 0⟩
structure DatX(w0:World)(B:Nat)(A:World)(nm:Value)(cs:List Value)(d:DatL):Prop where
 ex:∃nu tx rw vals,cs=[vi d.ty,nm,nu,tx,rw]∧Row A nm vals∧vals.length=d.names.length∧(∀i (h:i<vals.length) (h':i<d.names.length),Row w0 vals[i] (d.names[i].map vs))∧Row w0 nu (d.nums.map v32)∧Row w0 tx (d.texts.map vs)∧Row w0 rw (d.raw.map zaf)
 blk:BlkB B A nm
theorem DatX.at{w0 A:World}{B:Nat}{nm:Value}{cs:List Value}{d:DatL}(h:DatX w0 B A nm cs d)(hE:Ext w0 A):DatAt A cs d:=by
 obtain⟨nu,tx,rw,vals,e,h1,h2,h3,h4,h5,h6⟩:=h.ex
 exact⟨nm,nu,tx,rw,e,⟨vals,h1,h2,fun i a b=>(h3 i a b).ext hE⟩,h4.ext hE,h5.ext hE,h6.ext hE⟩
theorem DatX.keep{w0 A x:World}{B:Nat}{nm:Value}{cs:List Value}{d:DatL}(h:DatX w0 B A nm cs d){S:Nat→Prop}(hk:Keep S A x)(hS:∀a n c,nm= .slice (some a) n c→¬S a.block):DatX w0 B x nm cs d:=by
 obtain⟨nu,tx,rw,vals,e,h1,h2,h3,h4,h5,h6⟩:=h.ex
 exact⟨⟨nu,tx,rw,vals,e,h1.blocks fun a n c hv=>hk.block _ (h.blk a n c hv).2 (hS a n c hv),h2,h3,h4,h5,h6⟩,h.blk.ext hk.size⟩
theorem DatX.mono{w0 A:World}{B B':Nat}{nm:Value}{cs:List Value}{d:DatL}(h:DatX w0 B A nm cs d)(hB:B'≤B):DatX w0 B' A nm cs d:=⟨h.ex,h.blk.mono hB⟩
theorem DOf_ok{w0 w:World}(hE0:Ext w0 w){cs:List Value}{d:DatL}(hd:DatAt w0 cs d)(hnn:d.names.length≤1000000000):
  Fn Tryz.prog 164 #[.agg cs.toArray] w (fun v w'=>Ext w w'∧∃cs' nm,v= .agg cs'.toArray∧DatX w0 w.heap.size w' nm cs' d):=by
 obtain⟨nm,nu,tx,rw',rfl,⟨vals,⟨an,cn,rfl,hcn,hgn⟩,hvl,hvr⟩,hnu,htx,hrw⟩:=hd.ex
 obtain⟨au,cu,rfl,_⟩:=id hnu
 obtain⟨at1,ct,rfl,_⟩:=id htx
 obtain⟨ar,cr,rfl,_⟩:=id hrw
 refine enter Tryz.func164 Tryz.ntmps164 rfl rfl ?_
 repeat refine c_r ?_
 refine rg0 ?_
 repeat refine c_r ?_
 rw[zaj]
 refine zaO ?_
 intro w1 hE1 hs1 hA hC
 have p0:zae w1 (some ⟨w.heap.size,0,Option.none⟩)=some (vi d.ty):=zab hA rfl
 have p1:zae w1 (some ⟨w.heap.size,1,Option.none⟩)=some (.slice an vals.length cn):=zab hA rfl
 have p2:zae w1 (some ⟨w.heap.size,2,Option.none⟩)=some (.slice au (d.nums.map v32).length cu):=zab hA rfl
 have p3:zae w1 (some ⟨w.heap.size,3,Option.none⟩)=some (.slice at1 (d.texts.map vs).length ct):=zab hA rfl
 have p4:zae w1 (some ⟨w.heap.size,4,Option.none⟩)=some (.slice ar (d.raw.map zaf).length cr):=zab hA rfl
 refine rq ?_;intro gd K hgd hK
 try simp (disch:=first|omega|assumption|rfl) only[go_sem,p0,p2,p3,p4,Nat.add_zero,Nat.zero_add]
 refine⟨by kernel_rfl,?_⟩
 rw[show bdV Tryz.prog 208 [(0,vi d.ty),(2,.slice au (d.nums.map v32).length cu),(3,.slice at1 (d.texts.map vs).length ct),(4,.slice ar (d.raw.map zaf).length cr)]=some (.agg #[vi d.ty,.slice Option.none 0 0,.slice au (d.nums.map v32).length cu,.slice at1 (d.texts.map vs).length ct,.slice ar (d.raw.map zaf).length cr]) from by kernel_rfl]
 try simp only[go_sem]
 have hB3:=zap w1 (.cells #[vi 0,.slice Option.none 0 0,.slice Option.none 0 0,.slice Option.none 0 0,.slice Option.none 0 0] 208 (0,0))
 have hE4:=Ext.alloc w1 (.cells #[vi 0,.slice Option.none 0 0,.slice Option.none 0 0,.slice Option.none 0 0,.slice Option.none 0 0] 208 (0,0))
 have hs4:=zaj w1 (.cells #[vi 0,.slice Option.none 0 0,.slice Option.none 0 0,.slice Option.none 0 0,.slice Option.none 0 0] 208 (0,0))
 revert hB3 hE4 hs4
 generalize w1.alloc (.cells #[vi 0,.slice Option.none 0 0,.slice Option.none 0 0,.slice Option.none 0 0,.slice Option.none 0 0] 208 (0,0))=w2
 intro hB3 hE4 hs4
 refine zaM (P:=Tryz.prog) (t:=208) (l:=[vi d.ty,.slice Option.none 0 0,.slice au (d.nums.map v32).length cu,.slice at1 (d.texts.map vs).length ct,.slice ar (d.raw.map zaf).length cr]) hB3 rfl (fun v h=>by simp at h;rcases h with rfl|rfl|rfl|rfl|rfl<;>rfl) rfl rfl ?_
 intro w3 hs5 hB5 hk5
 try simp only[go_sem]
 refine hK _ _ ?_;clear hK hgd;clear K;try clear gd
 have hE13:Ext w1 w3:=Keep.to_ext hE4 rfl (fun b hb=>by omega) hk5
 obtain⟨b3,hb3⟩:∃b3,w1.heap.size=b3:=⟨_,rfl⟩
 rw[hb3]at hB5
 have hs3:w3.heap.size=b3+1:=by omega
 repeat refine c_r ?_
 refine rg0 ?_
 repeat refine c_r ?_
 rw[hb3]
 refine zam (fun m σ ds A=>ds=[]∧∃(i:Nat) (nv:Value),i+m=vals.length∧σ 4=vi i∧σ 1= .pointer (some ⟨w.heap.size,0,Option.none⟩)∧σ 2= .pointer (some ⟨w.heap.size+1,0,Option.none⟩)∧σ 3= .pointer (some ⟨b3,0,Option.none⟩)∧A.heap[b3]? =some (.cells [vi d.ty,nv,.slice au (d.nums.map v32).length cu,.slice at1 (d.texts.map vs).length ct,.slice ar (d.raw.map zaf).length cr].toArray 208 (0,0))∧Own w3.heap.size A 26 nv (vals.take i)∧Ext w1 A∧w3.heap.size≤A.heap.size) vals.length ?_ ?_
 ·exact⟨rfl,0,.slice Option.none 0 0,by omega,vr0,vq0,vq0,vq0,hB5,Own.nil _ _ _,hE13,Nat.le_refl _⟩
 rintro m σ ds A ⟨rfl,i,nv,him,h4,h1,h2,h3,hb,hown,hEA,hsA⟩
 have q1:=zaa hEA p1
 have s1:=hE1.size
 repeat refine c_r ?_
 refine rg4 h4 h1 q1 Nat.zero_add ?_
 repeat refine c_r ?_
 refine wc0 ?_ ?_
 ·intro hlt
  simp only[decide_eq_true_eq]at hlt
  have hi:i<vals.length:=by omega
  have hi0:(0:Int)≤(i:Int):=by omega
  have hi1:(i:Int)<(vals.length:Int):=by omega
  have hi1':(i:Int)+1=((i+1:Nat):Int):=by push_cast;rfl
  have hgi:=hgn i hi
  obtain⟨xN,rfl⟩:=Option.isSome_iff_exists.1 (zag hgi)
  obtain⟨xi,hxi⟩:∃xi,adr (some xN) i=some xi:=⟨_,rfl⟩
  rw[hxi]at hgi
  have hgA:=zaa (hE0.trans (hE1.trans hEA)) hgi
  have hxb:xi.block<w3.heap.size:=by
   have:=zdN (show w0.cell? xi=some _ from hgi)
   have:=(hE0.trans (hE1.trans hE13)).size
   omega
  have hrow:=hvr i hi (by omega)
  obtain⟨hv,hhv⟩:∃hv,vals[i]=hv:=⟨_,rfl⟩
  rw[hhv]at hgA hrow
  obtain⟨ha,hc,hve,_⟩:=id hrow
  have hone:one hv=true:=by rw[hve];rfl
  have htk:vals.take (i+1)=vals.take i++ [hv]:=by rw[zao hi,hhv]
  have hnv:zae A (some ⟨b3,1,Option.none⟩)=some nv:=zcq hb rfl
  have hvals:(vals.take i).length≤1000000000:=by rw[List.length_take];omega
  repeat refine c_r ?_
  refine zaJ (fun i=>i==10) [(0,true),(1,true),(2,true),(3,true),(4,true),(5,true),(6,true),(7,false),(8,false),(9,true),(10,false)] (zey w3.heap.size) mixed (by kernel_rfl) ?_;intro gd K x hgd hx hxe hK;have hx0:=zhW hxe;clear hxe
  have hgx:=zaa hx0 hgA
  have hnx:=zaa hx0 hnv
  have q1x:=zaa hx0 q1
  have hxs:=hx.size
  simp (disch:=first|omega|assumption|rfl) only[go_sem,h4,h1,h3,q1x,hgx,hnx,hi0,hi1,hxi,Nat.zero_add,Nat.mul_one]
  refine⟨zd4 (by omega),zd4 (by omega),zhz hxb,?_⟩
  refine zeh (z:= .slice Option.none 0 0) (v:=hv) (by rfl) (by rfl) (by rfl) (by rfl) (by rw[hve];rfl) ?_
  intro w5 hE5 hs5 ho5
  refine⟨.inr hE5.keep,?_⟩
  simp (disch:=first|omega|assumption|rfl) only[go_sem]
  have hx5:=hx0.trans hE5
  have hx5s:=hx5.size
  refine zd2 (hown.ext hx5) ho5.row rfl rfl rfl rfl rfl rfl (vr0) (vr0) (fun q hq=>by rw[List.mem_singleton.1 hq];exact hone) (by rw[List.length_singleton];omega) (by decide) (by omega) ?_
  intro v7 w7 ho7 hE7 hk7 hb7
  refine⟨.inr (hk7.mono fun b _ hb=>by have:=(hown.ge hb).1;show _≤_;omega),?_⟩
  simp (disch:=first|omega|assumption|rfl) only[go_sem,h3]
  have hk7s:=hk7.size
  obtain⟨a7,c7,hv7⟩:=ho7.slice
  have hb3w:w7.heap[b3]? =some (.cells [vi d.ty,nv,.slice au (d.nums.map v32).length cu,.slice at1 (d.texts.map vs).length ct,.slice ar (d.raw.map zaf).length cr].toArray 208 (0,0)):=(hk7.block b3 (by omega) (fun h=>by have:=(hown.ge h).1;omega)).trans (Ext.at hx5 hb)
  refine zaY (P:=Tryz.prog) (t:=62) (j:=1) (l:=[vi d.ty,nv,.slice au (d.nums.map v32).length cu,.slice at1 (d.texts.map vs).length ct,.slice ar (d.raw.map zaf).length cr]) hb3w (by simp) (by rw[hv7];rfl) rfl rfl ?_
  intro z hz' hbz hkz
  refine⟨.inl rfl,?_⟩
  simp (disch:=first|omega|assumption|rfl) only[go_sem]
  refine hK _ _ ?_;clear hK hgd;clear K;try clear gd
  have hEz:Ext w1 z:=Keep.to_ext (hE7 w1 (hEA.trans hx5) (by omega)) rfl (fun b hb=>by omega) hkz
  repeat refine c_r ?_
  refine rg2 h4 hi1' ?_
  repeat refine c_r ?_
  exact⟨m - 1,by omega,rfl,i+1,v7,by omega,vq0,(vq1 h1),(vq1 h2),(vq1 h3),hbz,by rw[htk];exact ho7.keep hkz (fun b hb h=>by have:=(ho7.ge hb).1;omega),hEz,by omega⟩
 ·intro hge
  simp only[decide_eq_false_iff_not]at hge
  have hi:i=vals.length:=by omega
  rw[hi,List.take_length]at hown
  obtain⟨na,nc,hnv⟩:=hown.slice
  repeat refine c_r ?_
  refine rq ?_;intro gd K hgd hK
  have d5:=zah (n:=5) hb rfl
  try simp (disch:=first|omega|assumption|rfl) only[go_sem,h3,h2,d5]
  refine zaM (P:=Tryz.prog) (t:=208) (l:=[vi d.ty,nv,.slice au (d.nums.map v32).length cu,.slice at1 (d.texts.map vs).length ct,.slice ar (d.raw.map zaf).length cr]) (Ext.at hEA hC) rfl (fun v h=>by
   simp at h
   rcases h with rfl|rfl|rfl|rfl|rfl
   ·rfl
   ·rw[hnv];rfl
   ·rfl
   ·rfl
   ·rfl) rfl rfl ?_
  intro z hz' hbz hkz
  try simp only[go_sem]
  refine hK _ _ ?_;clear hK hgd;clear K;try clear gd
  repeat refine c_r ?_
  refine zaE (.inr rfl) Tryz.ntmps164 rfl (zaZ (x:=⟨w.heap.size+1,0,Option.none⟩) (k:=5) ((vq1 h2)) rfl rfl (zah hbz rfl) zaz) ?_
  have hEz:Ext w z:=Keep.to_ext (hE1.trans hEA) rfl (fun b hb=>by omega) hkz
  have hownz:=hown.keep hkz (fun b hb h=>by have:=(hown.ge hb).1;omega)
  refine⟨hEz,_,nv,rfl,⟨⟨_,_,_,vals,rfl,hownz.row,hvl,hvr,hnu,htx,hrw⟩,fun a n c hv=>?_⟩⟩
  have:=hownz.ge (b:=a.block) (by rw[hv];rfl)
  omega
theorem DatAt.open{w:World}{cs:List Value}{d:DatL}(h:DatAt w cs d):∃a1 n1 c1 a2 n2 c2 a3 n3 c3 a4 n4 c4,cs=[vi d.ty,.slice a1 n1 c1,.slice a2 n2 c2,.slice a3 n3 c3,.slice a4 n4 c4]:=by
 obtain⟨nm,nu,tx,rw',rfl,⟨vals,⟨an,cn,rfl,_⟩,_⟩,⟨au,cu,rfl,_⟩,⟨at1,ct,rfl,_⟩,⟨ar,cr,rfl,_⟩⟩:=h.ex
 exact⟨_,_,_,_,_,_,_,_,_,_,_,_,rfl⟩
theorem DatX.open{w0 A:World}{B:Nat}{nm:Value}{cs:List Value}{d:DatL}(h:DatX w0 B A nm cs d):∃a1 n1 c1 a2 n2 c2 a3 n3 c3 a4 n4 c4,cs=[vi d.ty,.slice a1 n1 c1,.slice a2 n2 c2,.slice a3 n3 c3,.slice a4 n4 c4]:=by
 obtain⟨nu,tx,rw,vals,e,⟨a1,c1,rfl,_⟩,h2,h3,⟨a4,c4,rfl,_⟩,⟨a5,c5,rfl,_⟩,⟨a6,c6,rfl,_⟩⟩:=h.ex
 exact⟨_,_,_,_,_,_,_,_,_,_,_,_,e⟩
structure RecX(w0:World)(B:Nat)(A:World)(nm:Value)(cs:List Value)(r:RecL):Prop where
 ex:∃ow ds,cs=ow::v32 r.ttl::ds∧Row w0 ow (r.owner.map vs)∧DatX w0 B A nm ds r.dat
theorem RecX.at{w0 A:World}{B:Nat}{nm:Value}{cs:List Value}{r:RecL}(h:RecX w0 B A nm cs r)(hE:Ext w0 A):RecAt A cs r:=by
 obtain⟨ow,ds,e,h1,h2⟩:=h.ex
 exact⟨ow,ds,e,h1.ext hE,h2.at hE⟩
theorem RecX.keep{w0 A x:World}{B:Nat}{nm:Value}{cs:List Value}{r:RecL}(h:RecX w0 B A nm cs r){S:Nat→Prop}(hk:Keep S A x)(hS:∀a n c,nm= .slice (some a) n c→¬S a.block):RecX w0 B x nm cs r:=by
 obtain⟨ow,ds,e,h1,h2⟩:=h.ex
 exact⟨ow,ds,e,h1,h2.keep hk hS⟩
theorem RecX.mono{w0 A:World}{B B':Nat}{nm:Value}{cs:List Value}{r:RecL}(h:RecX w0 B A nm cs r)(hB:B'≤B):RecX w0 B' A nm cs r:=by
 obtain⟨ow,ds,e,h1,h2⟩:=h.ex
 exact⟨ow,ds,e,h1,h2.mono hB⟩
theorem RecX.blk{w0 A:World}{B:Nat}{nm:Value}{cs:List Value}{r:RecL}(h:RecX w0 B A nm cs r):BlkB B A nm:=by
 obtain⟨ow,ds,e,h1,h2⟩:=h.ex
 exact h2.blk
theorem RecX.cells{w0 A:World}{B:Nat}{nm:Value}{cs:List Value}{r:RecL}(h:RecX w0 B A nm cs r):cs.length=7∧∀q∈cs,one q=true:=by
 obtain⟨ow,ds,e,⟨a,c,rfl,_⟩,h2⟩:=h.ex
 obtain⟨b1,m1,e1,b2,m2,e2,b3,m3,e3,b4,m4,e4,hds⟩:=h2.open
 rw[e,hds]
 refine⟨rfl,fun q hq=>?_⟩
 simp at hq
 rcases hq with rfl|rfl|rfl|rfl|rfl|rfl|rfl<;>rfl
theorem zma{w0 w:World}(hE0:Ext w0 w){cs:List Value}{r:RecL}(hr:RecAt w0 cs r)(hnn:r.dat.names.length≤1000000000):
  Fn Tryz.prog 116 #[.agg cs.toArray] w (fun v w'=>Ext w w'∧∃cs' nm,v= .agg cs'.toArray∧RecX w0 w.heap.size w' nm cs' r):=by
 obtain⟨ow,ds,rfl,h1,h2⟩:=hr.ex
 obtain⟨oa,oc,how,_⟩:=id h1
 obtain⟨on,hon⟩:∃on,(r.owner.map vs).length=on:=⟨_,rfl⟩
 rw[hon]at how
 obtain⟨b1,m1,e1,b2,m2,e2,b3,m3,e3,b4,m4,e4,hds⟩:=h2.open
 rw[hds,how]
 refine enter Tryz.func116 Tryz.ntmps116 rfl rfl ?_
 repeat refine c_r ?_
 refine rg0 ?_
 repeat refine c_r ?_
 rw[zaj]
 refine zaO ?_
 intro w1 hE1 hs1 hA hC
 have p0:zae w1 (some ⟨w.heap.size,0,Option.none⟩)=some (.slice oa on oc):=zab hA rfl
 have p1:zae w1 (some ⟨w.heap.size,1,Option.none⟩)=some (v32 r.ttl):=zab hA rfl
 have p2:zau w1 (some ⟨w.heap.size,2,Option.none⟩) 5=some [vi r.dat.ty,.slice b1 m1 e1,.slice b2 m2 e2,.slice b3 m3 e3,.slice b4 m4 e4]:=by
  have h7:=zah (n:=7) (l:=[.slice oa on oc,v32 r.ttl,vi r.dat.ty,.slice b1 m1 e1,.slice b2 m2 e2,.slice b3 m3 e3,.slice b4 m4 e4]) hA rfl
  have:=za8 (m:=2) (k:=5) h7
  rwa [zaU]at this
 refine zaJ (fun i=>i==8) [(0,true),(1,true),(2,true),(3,true),(4,true),(5,true),(6,false),(7,true),(8,false)] NoS mixed (by kernel_rfl) ?_;intro gd K x hgd hx hxe hK;clear hxe
 have p0x:=zaa hx p0
 have p1x:=zaa hx p1
 have p2x:=zad hx p2
 have hxs:=hx.size
 simp (disch:=first|omega|assumption|rfl) only[go_sem,p0x,p1x,p2x,Nat.add_zero,Nat.zero_add]
 rw[←hds]
 refine Fn.mono (DOf_ok (hE0.trans (hE1.trans hx)) h2 hnn) ?_
 rintro _ w2 ⟨hE2,cs',nm',rfl,hd'⟩
 refine⟨.inr hE2,?_⟩
 obtain⟨b1',m1',e1',b2',m2',e2',b3',m3',e3',b4',m4',e4',hds'⟩:=hd'.open
 rw[hds']
 simp (disch:=first|omega|assumption|rfl) only[go_sem,p0x,p1x,p2x,Nat.add_zero,Nat.zero_add]
 refine⟨by kernel_rfl,?_⟩
 rw[show bdV Tryz.prog 210 [(0,.slice oa on oc),(1,v32 r.ttl),(2,.agg [vi r.dat.ty,.slice b1' m1' e1',.slice b2' m2' e2',.slice b3' m3' e3',.slice b4' m4' e4'].toArray)]=some (.agg #[.slice oa on oc,v32 r.ttl,vi r.dat.ty,.slice b1' m1' e1',.slice b2' m2' e2',.slice b3' m3' e3',.slice b4' m4' e4']) from by kernel_rfl]
 simp (disch:=first|omega|assumption|rfl) only[go_sem]
 refine zaM (P:=Tryz.prog) (t:=210) (l:=[.slice oa on oc,v32 r.ttl,vi r.dat.ty,.slice b1' m1' e1',.slice b2' m2' e2',.slice b3' m3' e3',.slice b4' m4' e4']) (Ext.at (hx.trans hE2) hC) rfl (fun v h=>by simp at h;rcases h with rfl|rfl|rfl|rfl|rfl|rfl|rfl<;>rfl) rfl rfl ?_
 intro z hz' hbz hkz
 refine⟨.inl rfl,?_⟩
 simp (disch:=first|omega|assumption|rfl) only[go_sem]
 refine hK _ _ ?_;clear hK hgd;clear K;try clear gd
 repeat refine c_r ?_
 refine zaE (.inr rfl) Tryz.ntmps116 rfl (zaZ (x:=⟨w.heap.size+1,0,Option.none⟩) (k:=7) (vq0) rfl rfl (zah hbz rfl) zaz) ?_
 have hEz:Ext w z:=Keep.to_ext (hE1.trans (hx.trans hE2)) rfl (fun b hb=>by omega) hkz
 refine⟨hEz,_,nm',rfl,⟨ow,cs',?_,h1,?_⟩⟩
 ·rw[how,hds']
 ·exact(hd'.keep hkz (fun a n c hv=>by have:=hd'.blk a n c hv;omega)).mono (by omega)
abbrev OX:=RecL×(Value×List Value)
def oxC(cs:List Value)(x:OX):Prop:=cs=x.2.2∧cs.length=7∧∀q∈cs,one q=true
theorem zi5:zeU 7 oxC:=⟨fun h=>h.2.1,fun h=>h.2.2⟩
structure OI(w0:World)(B:Nat)(A:World)(ov:Value)(G:List OX):Prop where
 own:Owns 7 oxC B A 210 ov G
 row:∀x∈G,RecX w0 B A x.2.1 x.2.2 x.1∧∀a n c,x.2.1= .slice (some a) n c→some a.block≠ov.ownBlock
theorem OI.ext{w0 A A':World}{B:Nat}{ov:Value}{G:List OX}(h:OI w0 B A ov G)(hE:Ext A A'):OI w0 B A' ov G:=
 ⟨h.own.ext hE,fun x hx=>by
  obtain⟨h1,h2⟩:=h.row x hx
  exact⟨h1.keep hE (fun a n c hv h=>h),h2⟩⟩
theorem OI.app{w0 A A':World}{B:Nat}{ov v':Value}{G:List OX}{s:OX}(h:OI w0 B A ov G)(hs:RecX w0 B A s.2.1 s.2.2 s.1∧∀a n c,s.2.1= .slice (some a) n c→some a.block≠ov.ownBlock)
  (ho:Owns 7 oxC B A' 210 v' (G++ [s])) (hk:Keep (fun b=>some b=ov.ownBlock) A A') (hb:∀b,some b=v'.ownBlock→some b=ov.ownBlock∨A.heap.size≤b):OI w0 B A' v' (G++ [s]):=by
 refine⟨ho,fun y hy=>?_⟩
 have hy2:RecX w0 B A y.2.1 y.2.2 y.1∧∀a n c,y.2.1= .slice (some a) n c→some a.block≠ov.ownBlock:=by
  rcases List.mem_append.1 hy with hy|hy
  ·exact h.row y hy
  ·rw[List.mem_singleton.1 hy];exact hs
 obtain⟨h1,h2⟩:=hy2
 refine⟨h1.keep hk h2,fun a n c hv e=>?_⟩
 rcases hb _ e with e|e
 ·exact h2 a n c hv e
 ·have:=(h1.blk a n c hv).2;omega
theorem zmd{w0 w:World}(hE0:Ext w0 w){lv:Value}{R:List RecL}(hl:Rows 7 (RecAt w0) w lv R)(hnn:∀r∈R,r.dat.names.length≤1000000000)(hlen:R.length≤1000000000):
  Fn Tryz.prog 64 #[lv] w (fun v w'=>Ext w w'∧∃G:List OX,OI w0 w.heap.size w' v G∧G.map Prod.fst=R):=by
 obtain⟨aR,cR,rfl,hcR,hgR⟩:=hl.open
 refine enter Tryz.func64 Tryz.ntmps64 rfl rfl ?_
 repeat refine c_r ?_
 refine rg0 ?_
 repeat refine c_r ?_
 refine rg0 ?_
 repeat refine c_r ?_
 refine rg0 ?_
 repeat refine c_r ?_
 refine zam (fun m σ ds A=>ds=[]∧∃(i:Nat) (ov:Value) (G:List OX),i+m=R.length∧σ 4=vi i∧σ 3=ov∧σ 0= .slice aR R.length cR∧Ext w A∧OI w0 w.heap.size A ov G∧G.map Prod.fst=R.take i) R.length ?_ ?_
 ·exact⟨rfl,0,.slice Option.none 0 0,[],by omega,vr0,vq0,vq0,Keep.refl _ _,⟨Owns.nil _ _ _ _ _,fun x h=>absurd h (by simp)⟩,rfl⟩
 rintro m σ ds A ⟨rfl,i,ov,G,him,h4,h3,h0,hEA,hOI,hG⟩
 repeat refine c_r ?_
 refine rg2 h4 h0 ?_
 repeat refine c_r ?_
 refine wc0 ?_ ?_
 ·intro hlt
  simp only[decide_eq_true_eq]at hlt
  have hi:i<R.length:=by omega
  have hi0:(0:Int)≤(i:Int):=by omega
  have hi1:(i:Int)<(R.length:Int):=by omega
  have hi1':(i:Int)+1=((i+1:Nat):Int):=by push_cast;rfl
  have hGl:G.length=i:=by
   have:=congrArg List.length hG
   simp at this;omega
  obtain⟨cr,hcr,hRr⟩:=hgR i hi
  obtain⟨r,hr⟩:∃r,R[i]=r:=⟨_,rfl⟩
  rw[hr]at hRr
  have hrn:=hnn r (hr▸List.getElem_mem hi)
  obtain⟨xR,rfl⟩:=Option.isSome_iff_exists.1 (zas hcr)
  obtain⟨xi,hxi⟩:∃xi,adr (some xR) (i*7)=some xi:=⟨_,rfl⟩
  rw[hxi]at hcr
  have hcA:=zad hEA hcr
  repeat refine c_r ?_
  refine rq ?_;intro gd K hgd hK
  try simp (disch:=first|omega|assumption|rfl) only[go_sem,h3,h0,h4,hi0,hi1,hxi,hcA]
  refine Fn.mono (zma (hE0.trans hEA) hRr hrn) ?_
  rintro _ A2 ⟨hA2,cs',nm',rfl,hx⟩
  have hA2s:=hA2.size
  have hEAs:=hEA.size
  try simp only[go_sem]
  refine zbg (l:=cs') (a:=((r,(nm',cs')):OX)) zi5 rfl rfl rfl rfl ⟨rfl,hx.cells.1,hx.cells.2⟩ (by decide) ?_
  intro A3 hA3 hs3 ho3
  try simp (disch:=first|omega|assumption|rfl) only[go_sem,h3]
  refine zaV zi5 ((hOI.ext hA2).ext hA3).own ho3.rows rfl rfl rfl rfl rfl rfl (by decide) (vr0) (vr0) (by simp;omega) (by decide) (by omega) ?_
  intro v7 A4 ho7 hE7 hk7 hb7
  try simp only[go_sem]
  refine hK _ _ ?_;clear hK hgd;clear K;try clear gd
  have hnew:=((hOI.ext hA2).ext hA3).app (s:=((r,(nm',cs')):OX)) ⟨(hx.keep hA3 (fun a n c hv h=>h)).mono hEAs,fun a n c hv e=>by
   have h8:=(hx.blk a n c hv).1
   have h9:=(hOI.own.ge e).2
   omega⟩ ho7 hk7 hb7
  repeat refine c_r ?_
  refine rg2 h4 hi1' ?_
  repeat refine c_r ?_
  exact⟨m - 1,by omega,rfl,i+1,v7,_,by omega,vq0,vq0,(vq1 h0),hE7 w ((hEA.trans hA2).trans hA3) (Nat.le_refl _),hnew,by rw[List.map_append,hG,zao hi,hr];rfl⟩
 ·intro hge
  simp only[decide_eq_false_iff_not]at hge
  have hi:i=R.length:=by omega
  rw[hi,List.take_length]at hG
  repeat refine c_r ?_
  refine rg1 h3 ?_
  repeat refine c_r ?_
  refine rt0 Tryz.ntmps64 ?_
  exact⟨hEA,G,hOI,hG⟩
theorem OI.rows{w0 A:World}{B:Nat}{ov:Value}{G:List OX}(h:OI w0 B A ov G)(hE:Ext w0 A):Rows 7 (RecAt A) A ov (G.map Prod.fst):=
 h.own.rows.mapM (C':=RecAt A) Prod.fst fun cs x hx hc=>by
  rw[hc.1]
  exact(h.row x hx).1.at hE
theorem zjw{w0 w:World}(hE0:Ext w0 w){lv:Value}{R:List RecL}(hl:Rows 7 (RecAt w0) w lv R)(hnn:∀r∈R,r.dat.names.length≤1000000000)(hlen:R.length≤1000000000):
  Fn Tryz.prog 64 #[lv] w (fun v w'=>Ext w w'∧Rows 7 (RecAt w') w' v R):=by
 refine Fn.mono (zmd hE0 hl hnn hlen) ?_
 rintro v w' ⟨hE,G,hOI,rfl⟩
 exact⟨hE,hOI.rows (hE0.trans hE)⟩
theorem zh9{w0 w:World}(hE0:Ext w0 w){cs:List Value}{r:RecL}(hr:RecAt w0 cs r)(hf:DatF r.dat)(ho:(∀l∈r.owner,l.length≤1000000000)∧r.owner.length≤1000000000):
  Fn Tryz.prog 163 #[.agg cs.toArray] w (fun v w'=>Ext w w'∧∃e:Int,v=vi e∧(e=0→zaD r.owner=0∧(∀n∈r.dat.names,zaD n=0)∧(zgH r.dat.ty→r.dat.names.length=1))):=by
 obtain⟨ow,ds,rfl,h1,h2⟩:=hr.ex
 obtain⟨b1,m1,e1,b2,m2,e2,b3,m3,e3,b4,m4,e4,hds⟩:=h2.open
 rw[hds]
 refine enter Tryz.func163 Tryz.ntmps163 rfl rfl ?_
 repeat refine c_r ?_
 refine rg0 ?_
 repeat refine c_r ?_
 refine zaB ?_
 intro w1 hE1 hs1 hA
 have p0:zae w1 (some ⟨w.heap.size,0,Option.none⟩)=some ow:=zab hA rfl
 have p1:zae w1 (some ⟨w.heap.size,1,Option.none⟩)=some (v32 r.ttl):=zab hA rfl
 have p2:zau w1 (some ⟨w.heap.size,2,Option.none⟩) 5=some ds:=by
  have h7:=zah (n:=7) (l:=[ow,v32 r.ttl,vi r.dat.ty,.slice b1 m1 e1,.slice b2 m2 e2,.slice b3 m3 e3,.slice b4 m4 e4]) hA rfl
  have:=za8 (m:=2) (k:=5) h7
  rw[zaU]at this
  rw[hds];exact this
 refine rq ?_;intro gd K hgd hK
 try simp (disch:=first|omega|assumption|rfl) only[go_sem,p0,Nat.add_zero]
 refine Fn.mono (zbG w1 ow r.owner (h1.ext (hE0.trans hE1)) ho.1 ho.2) ?_
 rintro _ w2 ⟨rfl,hE2⟩
 try simp only[go_sem]
 refine hK _ _ ?_;clear hK hgd;clear K;try clear gd
 have hE12:=hE1.trans hE2
 have p1':=zaa hE2 p1
 have p2':=zad hE2 p2
 repeat refine c_r ?_
 refine rg0 ?_
 repeat refine c_r ?_
 by_cases h0:zaD r.owner=0
 rotate_left
 ·refine zaH (t:=!decide (zaD r.owner=0)) (vr0) ?_ (fun h=>by rw[decide_eq_false h0]at h;cases h)
  intro _
  repeat refine c_r ?_
  refine rg0 ?_
  repeat refine c_r ?_
  refine rt0 Tryz.ntmps163 ?_
  exact⟨hE12,_,rfl,fun h=>absurd h h0⟩
 refine zaH (t:=!decide (zaD r.owner=0)) (vr0) (fun h=>by rw[decide_eq_true h0]at h;cases h) ?_
 intro _
 repeat refine c_r ?_
 refine rg2 p1' Nat.zero_add ?_
 repeat refine c_r ?_
 refine wc0 ?_ ?_
 ·intro _
  repeat (first|refine c_r ?_|refine rg0 ?_)
  refine rt0 Tryz.ntmps163 ?_
  exact⟨hE12,7,rfl,fun h=>by cases h⟩
 intro _
 repeat refine c_r ?_
 refine rq ?_;intro gd K hgd hK
 try simp (disch:=first|omega|assumption|rfl) only[go_sem,p2',Nat.zero_add]
 refine Fn.mono (zg5 (hE0.trans hE12) h2 hf) ?_
 rintro _ w3 ⟨hE3,e,rfl,he⟩
 try simp only[go_sem]
 refine hK _ _ ?_;clear hK hgd;clear K;try clear gd
 repeat refine c_r ?_
 refine rt0 Tryz.ntmps163 ?_
 exact⟨hE12.trans hE3,e,rfl,fun h=>⟨h0,he h⟩⟩
theorem few_f{n:Nm}(h:few n=true):(∀l∈n,l.length≤1000000000)∧n.length≤1000000000:=by
 simp only[few,Bool.and_eq_true,List.all_eq_true,decide_eq_true_eq]at h
 exact⟨fun l hl=>by have:=h.2 l hl;omega,by omega⟩
theorem DFew_ok{w0 w:World}(hE0:Ext w0 w){cs:List Value}{d:DatL}(hd:DatAt w0 cs d):
  Fn Tryz.prog 217 #[.agg cs.toArray] w (fun v w'=>Ext w w'∧∃b:Bool,v= .bool b∧(b=true→DatF d)):=by
 obtain⟨nm,nu,tx,rw',rfl,⟨vals,⟨an,cn,rfl,hcn,hgn⟩,hvl,hvr⟩,⟨au,cu,rfl,hcu,hgu⟩,⟨at1,ct,rfl,hct,hgt⟩,⟨ar,cr,rfl,hcr,hgr⟩⟩:=hd.ex
 simp only[List.length_map]at hcu hgu hct hgt hcr hgr
 simp only[List.length_map]
 refine enter Tryz.func217 Tryz.ntmps217 rfl rfl ?_
 repeat refine c_r ?_
 refine rg0 ?_
 repeat refine c_r ?_
 refine zaB ?_
 intro w1 hE1 hs1 hA
 have p1:zae w1 (some ⟨w.heap.size,1,Option.none⟩)=some (.slice an vals.length cn):=zab hA rfl
 have p2:zae w1 (some ⟨w.heap.size,2,Option.none⟩)=some (.slice au d.nums.length cu):=zab hA rfl
 have p3:zae w1 (some ⟨w.heap.size,3,Option.none⟩)=some (.slice at1 d.texts.length ct):=zab hA rfl
 have p4:zae w1 (some ⟨w.heap.size,4,Option.none⟩)=some (.slice ar d.raw.length cr):=zab hA rfl
 refine zay (Q:=fun e σ' ds' v'=>e= .normal∧ds'=[]∧σ' 1= .pointer (some ⟨w.heap.size,0,Option.none⟩)∧v'=w1∧∃bb,σ' 26= .bool bb∧(bb=false→vals.length≤8∧d.nums.length≤12∧d.texts.length≤40∧d.raw.length≤1100)) ?_ ?_
 ·by_cases hA1:(vals.length:Int)>8
  ·refine rq ?_;intro gd K hgd hK
   have hg4:∀n σ b,zav gd n σ (some (4,b))=zak (ev n σ (.tmp 9)) b:=(fun n σ b=>by rw[zac,show gd 4=some 9 from(by rw[hgd];rfl)];rfl);have hg10:∀n σ b,zav gd n σ (some (10,b))=zak (ev n σ (.tmp 15)) b:=(fun n σ b=>by rw[zac,show gd 10=some 15 from(by rw[hgd];rfl)];rfl);have hg16:∀n σ b,zav gd n σ (some (16,b))=zak (ev n σ (.tmp 21)) b:=(fun n σ b=>by rw[zac,show gd 16=some 21 from(by rw[hgd];rfl)];rfl)
   try simp (disch:=first|omega|assumption|rfl) only[go_sem,p1,Nat.zero_add,decide_eq_true hA1,zbQ,↓hg4,↓hg10,↓hg16]
   refine hK _ _ ?_;clear hK hgd;clear K;try clear gd
   exact⟨rfl,rfl,vq0,rfl,_,vr0,fun h=>by cases h⟩
  by_cases hA2:(d.nums.length:Int)>12
  ·refine rq ?_;intro gd K hgd hK
   have hg4:∀n σ b,zav gd n σ (some (4,b))=zak (ev n σ (.tmp 9)) b:=(fun n σ b=>by rw[zac,show gd 4=some 9 from(by rw[hgd];rfl)];rfl);have hg10:∀n σ b,zav gd n σ (some (10,b))=zak (ev n σ (.tmp 15)) b:=(fun n σ b=>by rw[zac,show gd 10=some 15 from(by rw[hgd];rfl)];rfl);have hg16:∀n σ b,zav gd n σ (some (16,b))=zak (ev n σ (.tmp 21)) b:=(fun n σ b=>by rw[zac,show gd 16=some 21 from(by rw[hgd];rfl)];rfl)
   try simp (disch:=first|omega|assumption|rfl) only[go_sem,p1,p2,Nat.zero_add,decide_eq_false hA1,decide_eq_true hA2,zbQ,↓hg4,↓hg10,↓hg16]
   refine hK _ _ ?_;clear hK hgd;clear K;try clear gd
   exact⟨rfl,rfl,vq0,rfl,_,vr0,fun h=>by cases h⟩
  by_cases hA3:(d.texts.length:Int)>40
  ·refine rq ?_;intro gd K hgd hK
   have hg4:∀n σ b,zav gd n σ (some (4,b))=zak (ev n σ (.tmp 9)) b:=(fun n σ b=>by rw[zac,show gd 4=some 9 from(by rw[hgd];rfl)];rfl);have hg10:∀n σ b,zav gd n σ (some (10,b))=zak (ev n σ (.tmp 15)) b:=(fun n σ b=>by rw[zac,show gd 10=some 15 from(by rw[hgd];rfl)];rfl);have hg16:∀n σ b,zav gd n σ (some (16,b))=zak (ev n σ (.tmp 21)) b:=(fun n σ b=>by rw[zac,show gd 16=some 21 from(by rw[hgd];rfl)];rfl)
   try simp (disch:=first|omega|assumption|rfl) only[go_sem,p1,p2,p3,Nat.zero_add,decide_eq_false hA1,decide_eq_false hA2,decide_eq_true hA3,zbQ,↓hg4,↓hg10,↓hg16]
   refine hK _ _ ?_;clear hK hgd;clear K;try clear gd
   exact⟨rfl,rfl,vq0,rfl,_,vr0,fun h=>by cases h⟩
  by_cases hA4:(d.raw.length:Int)>1100
  ·refine rq ?_;intro gd K hgd hK
   have hg4:∀n σ b,zav gd n σ (some (4,b))=zak (ev n σ (.tmp 9)) b:=(fun n σ b=>by rw[zac,show gd 4=some 9 from(by rw[hgd];rfl)];rfl);have hg10:∀n σ b,zav gd n σ (some (10,b))=zak (ev n σ (.tmp 15)) b:=(fun n σ b=>by rw[zac,show gd 10=some 15 from(by rw[hgd];rfl)];rfl);have hg16:∀n σ b,zav gd n σ (some (16,b))=zak (ev n σ (.tmp 21)) b:=(fun n σ b=>by rw[zac,show gd 16=some 21 from(by rw[hgd];rfl)];rfl)
   try simp (disch:=first|omega|assumption|rfl) only[go_sem,p1,p2,p3,p4,Nat.zero_add,decide_eq_false hA1,decide_eq_false hA2,decide_eq_false hA3,decide_eq_true hA4,zbQ,↓hg4,↓hg10,↓hg16]
   refine hK _ _ ?_;clear hK hgd;clear K;try clear gd
   exact⟨rfl,rfl,vq0,rfl,_,vr0,fun h=>by cases h⟩
  ·refine rq ?_;intro gd K hgd hK
   have hg4:∀n σ b,zav gd n σ (some (4,b))=zak (ev n σ (.tmp 9)) b:=(fun n σ b=>by rw[zac,show gd 4=some 9 from(by rw[hgd];rfl)];rfl);have hg10:∀n σ b,zav gd n σ (some (10,b))=zak (ev n σ (.tmp 15)) b:=(fun n σ b=>by rw[zac,show gd 10=some 15 from(by rw[hgd];rfl)];rfl);have hg16:∀n σ b,zav gd n σ (some (16,b))=zak (ev n σ (.tmp 21)) b:=(fun n σ b=>by rw[zac,show gd 16=some 21 from(by rw[hgd];rfl)];rfl)
   try simp (disch:=first|omega|assumption|rfl) only[go_sem,p1,p2,p3,p4,Nat.zero_add,decide_eq_false hA1,decide_eq_false hA2,decide_eq_false hA3,decide_eq_false hA4,zbQ,↓hg4,↓hg10,↓hg16]
   refine hK _ _ ?_;clear hK hgd;clear K;try clear gd
   exact⟨rfl,rfl,vq0,rfl,_,vr0,fun _=>⟨by omega,by omega,by omega,by omega⟩⟩
 rintro _ σ1 _ v1 ⟨rfl,rfl,h1,hv1,bb,h26,hbb⟩
 rw[hv1]
 clear hv1 v1
 repeat refine c_r ?_
 refine zaH (t:=bb) ((vq1 h26)) ?_ ?_
 ·intro _
  repeat (first|refine c_r ?_|refine rg0 ?_)
  refine rt0 Tryz.ntmps217 ?_
  exact⟨hE1,false,rfl,fun h=>by cases h⟩
 intro hb
 obtain⟨ln,lu,lt,lr⟩:=hbb hb
 repeat refine c_r ?_
 refine rg0 ?_
 repeat refine c_r ?_
 refine zay (Q:=fun e σ' ds' v'=>ds'=[]∧Ext w1 v'∧((e= .exit 0∧σ' 1= .pointer (some ⟨w.heap.size,0,Option.none⟩)∧∀n∈d.names,few n=true)∨(e= .ret∧σ' 2= .bool false))) ?_ ?_
 ·refine zam (fun m σ ds A=>ds=[]∧∃(i:Nat),i+m=vals.length∧σ 3=vi i∧σ 1= .pointer (some ⟨w.heap.size,0,Option.none⟩)∧Ext w1 A∧∀j (h:j<d.names.length),j<i→few d.names[j]=true) vals.length ?_ ?_
  ·exact⟨rfl,0,by omega,vr0,(vq1 h1),Keep.refl _ _,fun j h hj=>absurd hj (by omega)⟩
  clear h1
  rintro m σ ds A ⟨rfl,i,him,h3,h1,hEA,hlow⟩
  have q1:=zaa hEA p1
  repeat refine c_r ?_
  refine rg4 h3 h1 q1 Nat.zero_add ?_
  repeat refine c_r ?_
  refine wc0 ?_ ?_
  ·intro hlt
   simp only[decide_eq_true_eq]at hlt
   have hi:i<vals.length:=by omega
   have hi0:(0:Int)≤(i:Int):=by omega
   have hi1:(i:Int)<(vals.length:Int):=by omega
   have hi1':(i:Int)+1=((i+1:Nat):Int):=by push_cast;rfl
   have hgi:=hgn i hi
   obtain⟨xN,rfl⟩:=Option.isSome_iff_exists.1 (zag hgi)
   have hgi':=zaa (hE0.trans (hE1.trans hEA)) hgi
   have hrow:=hvr i hi (by omega)
   obtain⟨n,hn⟩:∃n,d.names[i]'(by omega)=n:=⟨_,rfl⟩
   rw[hn]at hrow
   obtain⟨hv,hhv⟩:∃hv,vals[i]=hv:=⟨_,rfl⟩
   rw[hhv]at hgi' hrow
   repeat refine c_r ?_
   refine rq ?_;intro gd K hgd hK
   try simp (disch:=first|omega|assumption|rfl) only[go_sem,h3,h1,q1,Nat.zero_add,hi0,hi1,hgi']
   refine Fn.mono (zic A hv n (hrow.ext (hE0.trans (hE1.trans hEA)))) ?_
   rintro _ A2 ⟨rfl,hA2⟩
   try simp only[go_sem]
   refine hK _ _ ?_;clear hK hgd;clear K;try clear gd
   repeat refine c_r ?_
   refine zaH (t:=!few n) (vr0) ?_ ?_
   ·intro _
    repeat refine c_r ?_
    refine rg0 ?_
    repeat refine c_r ?_
    exact⟨rfl,hEA.trans hA2,.inr ⟨rfl,vq0⟩⟩
   ·intro hfn
    repeat refine c_r ?_
    refine rg2 h3 hi1' ?_
    repeat refine c_r ?_
    refine⟨m - 1,by omega,rfl,i+1,by omega,vq0,(vq1 h1),hEA.trans hA2,fun j hj hji=>?_⟩
    by_cases hj2:j=i
    ·subst hj2;rw[hn];simpa using hfn
    ·exact hlow j hj (by omega)
  ·intro hge
   simp only[decide_eq_false_iff_not]at hge
   repeat refine c_r ?_
   refine⟨rfl,hEA,.inl ⟨rfl,(vq1 h1),fun n hn=>?_⟩⟩
   obtain⟨j,hj,rfl⟩:=List.getElem_of_mem hn
   exact hlow j hj (by omega)
 clear h1
 rintro e σ4 _ A ⟨rfl,hEA,⟨rfl,h1,hall⟩| ⟨rfl,h2⟩⟩
 rotate_left
 ·repeat refine c_r ?_
  refine rt1 h2 Tryz.ntmps217 ?_
  exact⟨hE1.trans hEA,false,rfl,fun h=>by cases h⟩
 have q3:=zaa hEA p3
 repeat refine c_r ?_
 refine rg0 ?_
 repeat refine c_r ?_
 refine zay (Q:=fun e σ' ds' v'=>ds'=[]∧v'=A∧((e= .exit 2∧σ' 1= .pointer (some ⟨w.heap.size,0,Option.none⟩)∧∀l∈d.texts,l.length≤300)∨(e= .ret∧σ' 2= .bool false))) ?_ ?_
 ·refine zam (fun m σ ds B=>ds=[]∧∃(i:Nat),i+m=d.texts.length∧σ 4=vi i∧σ 1= .pointer (some ⟨w.heap.size,0,Option.none⟩)∧B=A∧∀j (h:j<d.texts.length),j<i→d.texts[j].length≤300) d.texts.length ?_ ?_
  ·exact⟨rfl,0,by omega,vr0,(vq1 h1),rfl,fun j h hj=>absurd hj (by omega)⟩
  clear h1
  rintro m σ ds B ⟨rfl,i,him,h4,h1,hB2,hlow⟩
  rw[hB2]
  clear hB2 B
  repeat refine c_r ?_
  refine rg4 h4 h1 q3 Nat.zero_add ?_
  repeat refine c_r ?_
  refine wc0 ?_ ?_
  ·intro hlt
   simp only[decide_eq_true_eq]at hlt
   have hi:i<d.texts.length:=by omega
   have hi0:(0:Int)≤(i:Int):=by omega
   have hi1:(i:Int)<(d.texts.length:Int):=by omega
   have hi1':(i:Int)+1=((i+1:Nat):Int):=by push_cast;rfl
   have hgi:=hgt i hi
   obtain⟨xT,rfl⟩:=Option.isSome_iff_exists.1 (zag hgi)
   have hgi':=zaa (hE0.trans (hE1.trans hEA)) hgi
   rw[List.getElem_map]at hgi'
   repeat refine c_r ?_
   refine rg7 h4 h1 q3 Nat.zero_add hi0 hi1 hgi' ?_
   repeat refine c_r ?_
   refine wc0 ?_ ?_
   ·intro hgt2
    repeat refine c_r ?_
    refine rg0 ?_
    repeat refine c_r ?_
    exact⟨rfl,rfl,.inr ⟨rfl,vq0⟩⟩
   ·intro hgt2
    simp only[decide_eq_false_iff_not]at hgt2
    repeat refine c_r ?_
    refine rg2 h4 hi1' ?_
    repeat refine c_r ?_
    refine⟨m - 1,by omega,rfl,i+1,by omega,vq0,(vq1 h1),rfl,fun j hj hji=>?_⟩
    by_cases hj2:j=i
    ·subst hj2;omega
    ·exact hlow j hj (by omega)
  ·intro hge
   simp only[decide_eq_false_iff_not]at hge
   repeat refine c_r ?_
   refine⟨rfl,rfl,.inl ⟨rfl,(vq1 h1),fun l hl=>?_⟩⟩
   obtain⟨j,hj,rfl⟩:=List.getElem_of_mem hl
   exact hlow j hj (by omega)
 clear h1
 rintro e σ6 _ v1 ⟨rfl,hv1,⟨rfl,h1,htl⟩| ⟨rfl,h2⟩⟩
 rotate_left
 ·rw[hv1]
  repeat refine c_r ?_
  refine rt1 h2 Tryz.ntmps217 ?_
  exact⟨hE1.trans hEA,false,rfl,fun h=>by cases h⟩
 rw[hv1]
 clear hv1 v1
 repeat (first|refine c_r ?_|refine rg0 ?_)
 refine rt0 Tryz.ntmps217 ?_
 exact⟨hE1.trans hEA,true,rfl,fun _=>⟨fun n hn=>few_f (hall n hn),by omega,by omega,by omega,fun l hl=>by have:=htl l hl;omega,by omega,by omega⟩⟩
theorem RsFew_ok{w0 w:World}(hE0:Ext w0 w){lv:Value}{R:List RecL}(hl:Rows 7 (RecAt w0) w lv R):
  Fn Tryz.prog 162 #[lv] w (fun v w'=>Ext w w'∧∃b:Bool,v= .bool b∧(b=true→R.length≤60∧∀r∈R,few r.owner=true∧DatF r.dat)):=by
 obtain⟨aR,cR,rfl,hcR,hgR⟩:=hl.open
 refine enter Tryz.func162 Tryz.ntmps162 rfl rfl ?_
 repeat refine c_r ?_
 refine rg0 ?_
 repeat refine c_r ?_
 refine rg0 ?_
 repeat refine c_r ?_
 refine wc0 ?_ ?_
 ·intro _
  repeat (first|refine c_r ?_|refine rg0 ?_)
  refine rt0 Tryz.ntmps162 ?_
  exact⟨Keep.refl _ _,false,rfl,fun h=>by cases h⟩
 intro h60
 simp only[decide_eq_false_iff_not]at h60
 repeat refine c_r ?_
 refine rg0 ?_
 repeat refine c_r ?_
 refine zam (fun m σ ds A=>ds=[]∧∃(i:Nat),i+m=R.length∧σ 3=vi i∧σ 0= .slice aR R.length cR∧Ext w A∧∀j (h:j<R.length),j<i→few R[j].owner=true∧DatF R[j].dat) R.length ?_ ?_
 ·exact⟨rfl,0,by omega,vr0,vq0,Keep.refl _ _,fun j h hj=>absurd hj (by omega)⟩
 rintro m σ ds A ⟨rfl,i,him,h3,h0,hEA,hlow⟩
 repeat refine c_r ?_
 refine rg2 h3 h0 ?_
 repeat refine c_r ?_
 refine wc0 ?_ ?_
 ·intro hlt
  simp only[decide_eq_true_eq]at hlt
  have hi:i<R.length:=by omega
  have hi0:(0:Int)≤(i:Int):=by omega
  have hi1:(i:Int)<(R.length:Int):=by omega
  have hi1':(i:Int)+1=((i+1:Nat):Int):=by push_cast;rfl
  obtain⟨cr,hcr,hRr⟩:=hgR i hi
  obtain⟨r,hr⟩:∃r,R[i]=r:=⟨_,rfl⟩
  rw[hr]at hRr
  obtain⟨ow,dsc,hcrE,o1,o2,g0,g1,g2,gd⟩:=hRr.cells
  obtain⟨xR,rfl⟩:=Option.isSome_iff_exists.1 (zas hcr)
  obtain⟨xi,hxi⟩:∃xi,adr (some xR) (i*7)=some xi:=⟨_,rfl⟩
  rw[hxi]at hcr
  obtain⟨xd,hxd⟩:∃xd,adr (some xi) 2=some xd:=⟨_,rfl⟩
  have rc:∀{x},Ext w x→zae x (some xi)=some ow∧zau x (some xd) 5=some dsc:=fun {x} hx=>by
   have hcx:=zad hx hcr
   have e0:=zax hcx g0
   have e5:=za8 (m:=2) (k:=5) hcx
   rw[zaA]at e0
   rw[hxd,gd]at e5
   exact⟨e0,e5⟩
  obtain⟨c0,_⟩:=rc hEA
  have hwA:=hE0.trans hEA
  repeat refine c_r ?_
  refine zay (Q:=fun e σ' ds' v'=>e= .normal∧ds'=[]∧σ' 3=vi i∧σ' 0= .slice (some xR) R.length cR∧Ext A v'∧∃bb,σ' 28= .bool bb∧(bb=false→few r.owner=true∧DatF r.dat)) ?_ ?_
  ·cases hf:few r.owner with
   |false=>
    refine rq ?_;intro gd K hgd hK
    have hg7:∀n σ b,zav gd n σ (some (7,b))=zak (ev n σ (.tmp 20)) b:=(fun n σ b=>by rw[zac,show gd 7=some 20 from(by rw[hgd];rfl)];rfl)
    try simp (disch:=first|omega|assumption|rfl) only[go_sem,h0,h3,hi0,hi1,hxi,c0,zaA]
    refine Fn.mono (zic A ow r.owner (o1.ext hwA)) ?_
    rintro _ A2 ⟨rfl,hA2⟩
    rw[hf]
    try simp (disch:=first|omega|assumption|rfl) only[go_sem,Bool.not_false,↓hg7]
    refine hK _ _ ?_;clear hK hgd;clear K;try clear gd
    exact⟨rfl,rfl,(vq1 h3),(vq1 h0),hA2,_,vr0,fun h=>by cases h⟩
   |true=>
    refine rq ?_;intro gd K hgd hK
    have hg7:∀n σ b,zav gd n σ (some (7,b))=zak (ev n σ (.tmp 20)) b:=(fun n σ b=>by rw[zac,show gd 7=some 20 from(by rw[hgd];rfl)];rfl)
    try simp (disch:=first|omega|assumption|rfl) only[go_sem,h0,h3,hi0,hi1,hxi,c0,zaA]
    refine Fn.mono (zic A ow r.owner (o1.ext hwA)) ?_
    rintro _ A2 ⟨rfl,hA2⟩
    rw[hf]
    obtain⟨_,c5⟩:=rc (hEA.trans hA2)
    try simp (disch:=first|omega|assumption|rfl) only[go_sem,h0,h3,hi0,hi1,hxi,hxd,c5,Bool.not_true,↓hg7]
    refine Fn.mono (DFew_ok (hwA.trans hA2) o2) ?_
    rintro _ A3 ⟨hA3,b,rfl,hb⟩
    try simp (disch:=first|omega|assumption|rfl) only[go_sem,↓hg7]
    refine hK _ _ ?_;clear hK hgd;clear K;try clear gd
    exact⟨rfl,rfl,(vq1 h3),(vq1 h0),hA2.trans hA3,_,vr0,fun h=>⟨rfl,hb (by simpa using h)⟩⟩
  clear h3 h0
  rintro _ σ1 _ A1 ⟨rfl,rfl,h3,h0,hA1,bb,h28,hbb⟩
  repeat refine c_r ?_
  refine zaH (t:=bb) ((vq1 h28)) ?_ ?_
  ·intro _
   repeat (first|refine c_r ?_|refine rg0 ?_)
   refine rt0 Tryz.ntmps162 ?_
   exact⟨hEA.trans hA1,false,rfl,fun h=>by cases h⟩
  ·intro ht
   repeat refine c_r ?_
   refine rg2 h3 hi1' ?_
   repeat refine c_r ?_
   refine⟨m - 1,by omega,rfl,i+1,by omega,vq0,(vq1 h0),hEA.trans hA1,fun j hj hji=>?_⟩
   by_cases hj2:j=i
   ·subst hj2;rw[hr];exact hbb ht
   ·exact hlow j hj (by omega)
 ·intro hge
  simp only[decide_eq_false_iff_not]at hge
  repeat (first|refine c_r ?_|refine rg0 ?_)
  refine rt0 Tryz.ntmps162 ?_
  refine⟨hEA,true,rfl,fun _=>⟨by omega,fun r hr=>?_⟩⟩
  obtain⟨j,hj,rfl⟩:=List.getElem_of_mem hr
  exact hlow j hj (by omega)
structure zeQ(R:List RecL):Prop where
 len:R.length≤60
 few:∀r∈R,few r.owner=true∧DatF r.dat
 own:∀r∈R,zaD r.owner=0
 names:∀r∈R,∀n∈r.dat.names,zaD n=0
 lead:∀r∈R,zgH r.dat.ty→r.dat.names.length=1
theorem zl7{w0 w:World}(hE0:Ext w0 w){lv:Value}{R:List RecL}(hl:Rows 7 (RecAt w0) w lv R):
  Fn Tryz.prog 113 #[lv] w (fun v w'=>Ext w w'∧∃b:Bool,v= .bool b∧(b=true→zeQ R)):=by
 obtain⟨aR,cR,rfl,hcR,hgR⟩:=hl.open
 refine enter Tryz.func113 Tryz.ntmps113 rfl rfl ?_
 repeat refine c_r ?_
 refine rg0 ?_
 repeat refine c_r ?_
 refine rq ?_;intro gd K hgd hK
 try simp only[go_sem]
 refine Fn.mono (RsFew_ok hE0 hl) ?_
 rintro _ w1 ⟨hE1,b,rfl,hb⟩
 try simp only[go_sem]
 refine hK _ _ ?_;clear hK hgd;clear K;try clear gd
 repeat refine c_r ?_
 refine zaH (t:=!b) (vr0) ?_ ?_
 ·intro _
  repeat (first|refine c_r ?_|refine rg0 ?_)
  refine rt0 Tryz.ntmps113 ?_
  exact⟨hE1,false,rfl,fun h=>by cases h⟩
 intro hb2
 obtain⟨hRl,hRf⟩:=hb (by simpa using hb2)
 repeat refine c_r ?_
 refine rg0 ?_
 repeat refine c_r ?_
 refine zam (fun m σ ds A=>ds=[]∧∃(i:Nat),i+m=R.length∧σ 3=vi i∧σ 0= .slice aR R.length cR∧Ext w A∧∀j (h:j<R.length),j<i→zaD R[j].owner=0∧(∀n∈R[j].dat.names,zaD n=0)∧(zgH R[j].dat.ty→R[j].dat.names.length=1)) R.length ?_ ?_
 ·exact⟨rfl,0,by omega,vr0,vq0,hE1,fun j h hj=>absurd hj (by omega)⟩
 rintro m σ ds A ⟨rfl,i,him,h3,h0,hEA,hlow⟩
 repeat refine c_r ?_
 refine rg2 h3 h0 ?_
 repeat refine c_r ?_
 refine wc0 ?_ ?_
 ·intro hlt
  simp only[decide_eq_true_eq]at hlt
  have hi:i<R.length:=by omega
  have hi0:(0:Int)≤(i:Int):=by omega
  have hi1:(i:Int)<(R.length:Int):=by omega
  have hi1':(i:Int)+1=((i+1:Nat):Int):=by push_cast;rfl
  obtain⟨cr,hcr,hRr⟩:=hgR i hi
  obtain⟨r,hr⟩:∃r,R[i]=r:=⟨_,rfl⟩
  rw[hr]at hRr
  obtain⟨f1,f2⟩:=hRf r (hr▸List.getElem_mem hi)
  obtain⟨xR,rfl⟩:=Option.isSome_iff_exists.1 (zas hcr)
  obtain⟨xi,hxi⟩:∃xi,adr (some xR) (i*7)=some xi:=⟨_,rfl⟩
  rw[hxi]at hcr
  have hcA:=zad hEA hcr
  have hwA:=hE0.trans hEA
  repeat refine c_r ?_
  refine rq ?_;intro gd K hgd hK
  try simp (disch:=first|omega|assumption|rfl) only[go_sem,h0,h3,hi0,hi1,hxi,hcA]
  refine Fn.mono (zma hwA hRr f2.nn) ?_
  rintro _ A2 ⟨hA2,cs',nm',rfl,hx⟩
  try simp only[go_sem]
  refine Fn.mono (zh9 (Keep.refl _ A2) (hx.at (hwA.trans hA2)) f2 (few_f f1)) ?_
  rintro _ A3 ⟨hA3,e,rfl,he⟩
  try simp only[go_sem]
  refine hK _ _ ?_;clear hK hgd;clear K;try clear gd
  repeat refine c_r ?_
  by_cases h0e:e=0
  ·refine zaH (t:=!decide (e=0)) (vr0) (fun h=>by rw[decide_eq_true h0e]at h;cases h) ?_
   intro _
   repeat refine c_r ?_
   refine rg2 h3 hi1' ?_
   repeat refine c_r ?_
   refine⟨m - 1,by omega,rfl,i+1,by omega,vq0,(vq1 h0),hEA.trans (hA2.trans hA3),fun j hj hji=>?_⟩
   by_cases hj2:j=i
   ·subst hj2;rw[hr];exact he h0e
   ·exact hlow j hj (by omega)
  ·refine zaH (t:=!decide (e=0)) (vr0) ?_ (fun h=>by rw[decide_eq_false h0e]at h;cases h)
   intro _
   repeat (first|refine c_r ?_|refine rg0 ?_)
   refine rt0 Tryz.ntmps113 ?_
   exact⟨hEA.trans (hA2.trans hA3),false,rfl,fun h=>by cases h⟩
 ·intro hge
  simp only[decide_eq_false_iff_not]at hge
  repeat (first|refine c_r ?_|refine rg0 ?_)
  refine rt0 Tryz.ntmps113 ?_
  have hall:∀r∈R,zaD r.owner=0∧(∀n∈r.dat.names,zaD n=0)∧(zgH r.dat.ty→r.dat.names.length=1):=fun r hr=>by
   obtain⟨j,hj,rfl⟩:=List.getElem_of_mem hr
   exact hlow j hj (by omega)
  exact⟨hEA,true,rfl,fun _=>⟨hRl,hRf,fun r hr=>(hall r hr).1,fun r hr=>(hall r hr).2.1,fun r hr=>(hall r hr).2.2⟩⟩
theorem ZGood_ok{w0 w:World}(hE0:Ext w0 w){ov lv:Value}{o:Nm}{R:List RecL}(ho:Row w ov (o.map vs))(hl:Rows 7 (RecAt w0) w lv R):
  Fn Tryz.prog 62 #[ov,lv] w (fun v w'=>Ext w w'∧∃b:Bool,v= .bool b∧(b=true→zbL o=true∧zeQ R)):=by
 refine enter Tryz.func62 Tryz.ntmps62 rfl rfl ?_
 repeat refine c_r ?_
 refine rg0 ?_
 repeat refine c_r ?_
 cases hg:zbL o with
 |false=>
  refine rq ?_;intro gd K hgd hK
  have hg2:∀n σ b,zav gd n σ (some (2,b))=zak (ev n σ (.tmp 7)) b:=(fun n σ b=>by rw[zac,show gd 2=some 7 from(by rw[hgd];rfl)];rfl)
  try simp only[go_sem]
  refine Fn.mono (zg6 w ov o ho) ?_
  rintro _ w1 ⟨rfl,hE1⟩
  rw[hg]
  try simp (disch:=first|omega|assumption|rfl) only[go_sem,↓hg2]
  refine hK _ _ ?_;clear hK hgd;clear K;try clear gd
  repeat refine c_r ?_
  refine rt0 Tryz.ntmps62 ?_
  exact⟨hE1,false,rfl,fun h=>by cases h⟩
 |true=>
  refine rq ?_;intro gd K hgd hK
  have hg2:∀n σ b,zav gd n σ (some (2,b))=zak (ev n σ (.tmp 7)) b:=(fun n σ b=>by rw[zac,show gd 2=some 7 from(by rw[hgd];rfl)];rfl)
  try simp only[go_sem]
  refine Fn.mono (zg6 w ov o ho) ?_
  rintro _ w1 ⟨rfl,hE1⟩
  rw[hg]
  try simp (disch:=first|omega|assumption|rfl) only[go_sem,↓hg2]
  refine Fn.mono (zl7 (hE0.trans hE1) (hl.ext hE1)) ?_
  rintro _ w2 ⟨hE2,b,rfl,hb⟩
  try simp (disch:=first|omega|assumption|rfl) only[go_sem,↓hg2]
  refine hK _ _ ?_;clear hK hgd;clear K;try clear gd
  repeat refine c_r ?_
  refine rt0 Tryz.ntmps62 ?_
  exact⟨hE1.trans hE2,b,rfl,fun h=>⟨rfl,hb h⟩⟩
structure zl9(r:ResL):Prop where
 nm:NmS r.name
 dat:∀d∈r.data,DatOk d
 dl:r.data.length≤1000000000
 gl:r.glue.length≤1000000000
 g:∀x∈r.glue,NmS x.1∧(∀d∈x.2,DatOk d)∧x.2.length≤1000000000
theorem DatX.cells{w0 A:World}{B:Nat}{nm:Value}{cs:List Value}{d:DatL}(h:DatX w0 B A nm cs d):cs.length=5∧∀q∈cs,one q=true:=by
 obtain⟨b1,m1,e1,b2,m2,e2,b3,m3,e3,b4,m4,e4,hds⟩:=h.open
 rw[hds]
 refine⟨rfl,fun q hq=>?_⟩
 simp at hq
 rcases hq with rfl|rfl|rfl|rfl|rfl<;>rfl
end Go.Proofs.YtahbdamijngmmaaGreat
