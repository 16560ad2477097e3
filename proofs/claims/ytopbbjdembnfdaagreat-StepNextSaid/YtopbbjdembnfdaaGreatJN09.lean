/-
  Texts of a proof, joined: F7, F8, F9, G0, G1, G2, G3, G4, G5.
  Conditions: none.
-/
import Derived.Test.YtopbbjdembnfdaaGreatJN08
import Derived.Test.YtopbbjdembnfdaaGreatJN02
set_option linter.unusedVariables false
set_option linter.unusedSimpArgs false
set_option linter.defProp false
set_option linter.unnecessarySimpa false
namespace Go.Proofs.YtopbbjdembnfdaaGreat
open Go
set_option maxRecDepth 10000
def LeadR(R:List RecL):Prop:=∀r∈R,(r.dat.ty=2∨r.dat.ty=5∨r.dat.ty=39)→r.dat.names≠ []
theorem zen{R:List RecL}{n:Nm}{t:Int}{d:DatL}(h:d∈datC R n t):d.ty=t:=by
 unfold datC at h
 obtain⟨x,hx,rfl⟩:=List.mem_map.1 h
 have:=ofC_is x hx
 unfold isL at this
 simp only[Bool.and_eq_true,decide_eq_true_eq]at this
 exact this.1.symm
theorem zek{R:List RecL}(hR:zdw R)(hL:LeadR R){n:Nm}{t:Int}(ht:t=2∨t=5∨t=39){d:DatL}(h:d∈datC R n t):∃h t,d.names=h::t∧NmG h:=by
 have hty:=zen h
 obtain⟨r,hr,rfl⟩:=zdo h
 have hne:=hL r hr (by rw[hty];exact ht)
 cases hn:r.dat.names with
 |nil=>exact absurd hn hne
 |cons a l=>exact⟨a,l,rfl,hR r hr a (by rw[hn];exact List.mem_cons_self ..)⟩
theorem zjU{t:Int}(ht:zej t=true){d:DatL}{h:Nm}{tl:List Nm}(hn:d.names=h::tl):toN t [d]=h:=by
 unfold toN zbk zaz
 rw[if_pos ht]
 simp[hn,za1]
theorem ziY{w0 w:World}(hE:Ext w0 w){a:Addr}{cs:List Value}{d:DatL}(hc:zat w (some a) 5=some cs)(hd:DatAt w0 cs d){h:Nm}{tl:List Nm}(hn:d.names=h::tl):
  ∃xN m cn hv,zaf w (adr (some a) 1)=some (.slice (some xN) m cn)∧0<m∧zaf w (some xN)=some hv∧Row w0 hv (h.map vs):=by
 obtain⟨nm,nu,tx,rw',hcs,n1,_⟩:=hd.ex
 obtain⟨vals,⟨an,cn,rfl,hcn,hgn⟩,hvl,hvr⟩:=n1
 have hvl1:0<vals.length:=by rw[hvl,hn];simp
 obtain⟨xN,rfl⟩:=Option.isSome_iff_exists.1 (zai (hgn 0 hvl1))
 refine⟨xN,vals.length,cn,vals[0],zaj hc (j:=1) (by rw[hcs];rfl),hvl1,?_,?_⟩
 ·have:=zab hE (hgn 0 hvl1)
  rwa [zak]at this
 ·have:=hvr 0 hvl1 (by rw[hn];simp)
  simpa [hn] using this
set_option maxHeartbeats 1000000 in
theorem RAt_ok{w0 w:World}{ov lv nv:Value}{o n:Nm}{R:List RecL}{t:Int}{wild:Bool}(hz:ZnAt w0 w ov lv o R)(hs:zdI R)(hR:zdw R)(hL:LeadR R)(hn:Row w nv (n.map vs))(mn:NmS n):
  Fn Tryz.prog 73 #[.agg #[ov,lv],nv,vi t,.bool wild] w (fun v w'=>Ext w w'∧∃cs,v= .agg cs.toArray∧ResB w0 w.heap.size w' cs (atL R n t wild)):=by
 obtain⟨ao,co,hov,_⟩:=id hz.org
 obtain⟨al,cl,hlv,_⟩:=hz.recs.open
 rw[hov,hlv]
 refine enter Tryz.func73 Tryz.ntmps73 rfl rfl ?_
 repeat refine c_r ?_
 refine rg0 ?_
 repeat refine c_r ?_
 rw[←hov,←hlv]
 rw[zam]
 refine zaH ?_
 intro w1 hE1 hs1 hA hC
 have d2:=zah (n:=2) (l:=[ov,lv]) hA rfl
 have hz1:=hz.ext hE1
 have nl:=mn.len
 refine rq ?_;intro gd K hgd hK
 try simp (disch:=first|omega|assumption|rfl) only[go_sem,d2]
 refine Fn.mono (zb4 hz1 hs (hn.ext hE1) mn.lb (by omega)) ?_
 rintro dv w2 ⟨hE2,hdv,hdb⟩
 obtain⟨ad,cd,hdv',hcd,_⟩:=hdv.open
 try simp only[go_sem]
 refine hK _ _ ?_;clear hK hgd;clear K;try clear gd
 have hEw2:=hE1.trans hE2
 have hC2:=Ext.at hE2 hC
 have e2:=hE2.size
 have l1:=zbe (R:=R) (n:=n) (t:=t)
 have l5:=zbe (R:=R) (n:=n) (t:=5)
 have rl:=hz.rl
 repeat refine c_r ?_
 refine rg1 hdv' ?_
 repeat refine c_r ?_
 refine wc0 ?_ ?_
 ·intro hlt
  simp only[decide_eq_true_eq]at hlt
  have hne:datC R n t≠ []:=List.length_pos_iff.1 (by omega)
  have hat:atL R n t wild=⟨1,datC R n t,[],wild,[]⟩:=by unfold atL;rw[if_pos hne]
  repeat refine c_r ?_
  refine rq ?_;intro gd K hgd hK
  try simp only[go_sem]
  refine⟨by kernel_rfl,?_⟩
  rw[show bdV Tryz.prog 39 [(0,vi 1),(1,.slice ad (datC R n t).length cd),(3,.bool wild)]=some (.agg #[vi 1,.slice ad (datC R n t).length cd,.slice Option.none 0 0,.bool wild,.slice Option.none 0 0]) from by kernel_rfl]
  try simp only[go_sem]
  refine zaE (P:=Tryz.prog) (t:=39) (l:=[vi 1,.slice ad (datC R n t).length cd,.slice Option.none 0 0,.bool wild,.slice Option.none 0 0]) hC2 rfl (fun v h=>by simp at h;rcases h with rfl|rfl|rfl|rfl|rfl<;>rfl) rfl rfl ?_
  intro z hz' hbz hkz
  try simp only[go_sem]
  refine hK _ _ ?_;clear hK hgd;clear K;try clear gd
  repeat refine c_r ?_
  refine zay (.inr rfl) Tryz.ntmps73 rfl (zaL (x:=⟨w.heap.size+1,0,Option.none⟩) (k:=5) (vq0) rfl rfl (zah hbz rfl) zau) ?_
  refine⟨Keep.to_ext hEw2 rfl (fun b hb=>by omega) hkz,_,rfl,?_⟩
  rw[hat]
  refine⟨_,_,_,rfl,?_,?_,.inr (za7 _),Rows.nil _ _ _,BlkB.nil⟩
  ·rw[←hdv']
   exact hdv.keep hkz hdb (fun b hb _=>by omega)
  ·rw[←hdv']
   exact(hdb.ext (by omega)).mono (by omega)
 ·intro hlt
  simp only[decide_eq_false_iff_not]at hlt
  have hnil:datC R n t=[]:=List.length_eq_zero_iff.1 (by omega)
  have hne:¬datC R n t≠ []:=fun h=>h hnil
  have d2':=zae hE2 d2
  repeat refine c_r ?_
  refine rq ?_;intro gd K hgd hK
  try simp (disch:=first|omega|assumption|rfl) only[go_sem,d2']
  refine Fn.mono (zb4 (hz.ext hEw2) hs (hn.ext hEw2) mn.lb (by omega)) ?_
  rintro fv w5 ⟨hE6,hfv,hfb⟩
  obtain⟨af,cf,hfv',hcf,hgf⟩:=hfv.open
  try simp only[go_sem]
  refine hK _ _ ?_;clear hK hgd;clear K;try clear gd
  have hC5:=Ext.at hE6 hC2
  have e6:=hE6.size
  have hEw5:=hEw2.trans hE6
  repeat refine c_r ?_
  refine rg1 hfv' ?_
  repeat refine c_r ?_
  refine wc0 ?_ ?_
  ·intro hlt5
   simp only[decide_eq_true_eq]at hlt5
   have hpos:0<(datC R n 5).length:=by omega
   have hne5:datC R n 5≠ []:=List.length_pos_iff.1 hpos
   have hat:atL R n t wild=⟨5,(datC R n 5).take 1,toN 5 ((datC R n 5).take 1),wild,[]⟩:=by unfold atL;rw[if_neg hne,if_pos hne5]
   obtain⟨d0,l0,hd0⟩:∃d0 l0,datC R n 5=d0::l0:=by
    cases h:datC R n 5 with
    |nil=>exact absurd h hne5
    |cons a l=>exact⟨a,l,rfl⟩
   obtain⟨h,tl,hnames,hNm⟩:=zek hR hL (.inr (.inl rfl)) (d:=d0) (n:=n) (t:=5) (by rw[hd0];exact List.mem_cons_self ..)
   have htk:(datC R n 5).take 1=[d0]:=by rw[hd0];rfl
   have hto:toN 5 ((datC R n 5).take 1)=h:=by rw[htk];exact zjU (by decide) hnames
   obtain⟨c0,hc0,hD0⟩:=hgf 0 hpos
   have hg0:(datC R n 5)[0]=d0:=by simp only[hd0];rfl
   rw[hg0]at hD0
   obtain⟨xf,rfl⟩:=Option.isSome_iff_exists.1 (zan hc0)
   rw[Nat.zero_mul,zak]at hc0
   obtain⟨xN,m,cn,hv,g1,gm,g2,g3⟩:=ziY (hz.e0.trans hEw5) hc0 hD0 hnames
   have gm':(0:Int)<(m:Int):=by omega
   have hz0:(0:Int)≤0:=by omega
   have h01:(0:Int)≤1:=by omega
   have h11:(1:Int)≤(cf:Int):=by omega
   have t1:Int.toNat 1=1:=rfl
   have hlt5':(0:Int)<((datC R n 5).length:Int):=by omega
   obtain⟨oa,oc,how,_⟩:=id g3
   obtain⟨on,hon⟩:∃on,(h.map vs).length=on:=⟨_,rfl⟩
   rw[hon]at how
   repeat refine c_r ?_
   refine zaN (fun i=>i==10) [(0,true),(1,true),(2,true),(3,true),(4,true),(5,true),(6,true),(7,true),(8,true),(9,true),(10,false)] NoS mixed (by kernel_rfl) ?_;intro gd K x hgd hx hxe hK;clear hxe
   have g1x:=zab hx g1
   have g2x:=zab hx g2
   simp (disch:=first|omega|assumption|rfl) only[go_sem,g1x,g2x,h01,h11,t1,gm',hz0,hlt5',Nat.sub_zero,Nat.zero_mul,zak,ite_self,Int.toNat_zero]
   refine⟨by kernel_rfl,?_⟩
   rw[how,show bdV Tryz.prog 39 [(0,vi 5),(1,.slice (some xf) 1 cf),(2,.slice oa on oc),(3,.bool wild)]=some (.agg #[vi 5,.slice (some xf) 1 cf,.slice oa on oc,.bool wild,.slice Option.none 0 0]) from by kernel_rfl]
   simp (disch:=first|omega|assumption|rfl) only[go_sem]
   refine zaE (P:=Tryz.prog) (t:=39) (l:=[vi 5,.slice (some xf) 1 cf,.slice oa on oc,.bool wild,.slice Option.none 0 0]) (Ext.at hx hC5) rfl (fun v h=>by simp at h;rcases h with rfl|rfl|rfl|rfl|rfl<;>rfl) rfl rfl ?_
   intro z hz' hbz hkz
   refine⟨.inl rfl,?_⟩
   simp (disch:=first|omega|assumption|rfl) only[go_sem]
   refine hK _ _ ?_;clear hK hgd;clear K;try clear gd
   repeat refine c_r ?_
   refine zay (.inr rfl) Tryz.ntmps73 rfl (zaL (x:=⟨w.heap.size+1,0,Option.none⟩) (k:=5) (vq0) rfl rfl (zah hbz rfl) zau) ?_
   have hxs:=hx.size
   have hEz:Ext w z:=Keep.to_ext (hEw5.trans hx) rfl (fun b hb=>by omega) hkz
   refine⟨hEz,_,rfl,?_⟩
   rw[hat,hto,htk]
   have hfv1:Rows 5 (DatAt w0) w5 (.slice (some xf) 1 cf) [d0]:=by
    have h2:=hfv
    rw[hfv']at h2
    have h1:=h2.take (m:=1) (c2:=cf) (by omega) (by omega)
    rw[htk]at h1
    exact h1
   rw[hfv']at hfb
   refine⟨_,_,_,rfl,?_,?_,.inr ?_,Rows.nil _ _ _,BlkB.nil⟩
   ·exact(hfv1.ext hx).keep hkz (BlkB.same (hfb.ext hx.size)) (fun b hb _=>by omega)
   ·exact((BlkB.same (hfb.ext hx.size)).ext (by omega)).mono (by omega)
   ·rw[←how]
    exact g3
  ·intro hlt5
   simp only[decide_eq_false_iff_not]at hlt5
   have hne5:¬datC R n 5≠ []:=fun h=>by have:=List.length_pos_iff.2 h;omega
   have hat:atL R n t wild=⟨2,[],[],wild,[]⟩:=by unfold atL;rw[if_neg hne,if_neg hne5]
   repeat refine c_r ?_
   refine rq ?_;intro gd K hgd hK
   try simp only[go_sem]
   refine⟨by kernel_rfl,?_⟩
   rw[show bdV Tryz.prog 39 [(0,vi 2),(3,.bool wild)]=some (.agg #[vi 2,.slice Option.none 0 0,.slice Option.none 0 0,.bool wild,.slice Option.none 0 0]) from by kernel_rfl]
   try simp only[go_sem]
   refine zaE (P:=Tryz.prog) (t:=39) (l:=[vi 2,.slice Option.none 0 0,.slice Option.none 0 0,.bool wild,.slice Option.none 0 0]) hC5 rfl (fun v h=>by simp at h;rcases h with rfl|rfl|rfl|rfl|rfl<;>rfl) rfl rfl ?_
   intro z hz' hbz hkz
   try simp only[go_sem]
   refine hK _ _ ?_;clear hK hgd;clear K;try clear gd
   repeat refine c_r ?_
   refine zay (.inr rfl) Tryz.ntmps73 rfl (zaL (x:=⟨w.heap.size+1,0,Option.none⟩) (k:=5) (vq0) rfl rfl (zah hbz rfl) zau) ?_
   refine⟨Keep.to_ext hEw5 rfl (fun b hb=>by omega) hkz,_,rfl,?_⟩
   rw[hat]
   exact⟨_,_,_,rfl,Rows.nil _ _ _,BlkB.nil,.inr (za7 _),Rows.nil _ _ _,BlkB.nil⟩
theorem zkX{R:List RecL}(hs:zdI R){n:Nm}{t:Int}:hasL R n t=true↔datC R n t≠ []:=by
 rw[←zgF,zei hs]
 unfold hasL
 rw[List.any_eq_true,ne_eq,List.filter_eq_nil_iff]
 constructor
 ·rintro⟨x,hx,h⟩ h2
  exact h2 x hx h
 ·intro h
  apply Classical.byContradiction
  intro h2
  exact h fun x hx h3=>h2 ⟨x,hx,h3⟩
structure ResN(w0 wn:World)(B:Nat)(w:World)(cs:List Value)(r:ResL):Prop where
 ex:∃dv nv gv,cs=[vi r.kind,dv,nv,.bool r.wild,gv]∧Rows 5 (DatAt w0) w dv r.data∧BlkB B w dv∧((Row w nv (r.name.map vs)∧BlkB B w nv)∨Row wn nv (r.name.map vs))∧Rows 2 (GlB w0 B w) w gv r.glue∧BlkB B w gv
theorem ResB.n{w0 wn w:World}{B:Nat}{cs:List Value}{r:ResL}(h:ResB w0 B w cs r)(hE:Ext w0 wn):ResN w0 wn B w cs r:=by
 obtain⟨dv,nv,gv,e,h1,h2,h3,h4,h5⟩:=h.ex
 exact⟨dv,nv,gv,e,h1,h2,h3.imp id (fun h=>h.ext hE),h4,h5⟩
theorem ResN.keep{w0 wn w x:World}{B:Nat}{cs:List Value}{r:ResL}(h:ResN w0 wn B w cs r){S:Nat→Prop}(hk:Keep S w x)(hS:∀b,B≤b→b<w.heap.size→¬S b):ResN w0 wn B x cs r:=by
 obtain⟨dv,nv,gv,e,h1,h2,h3,h4,h5⟩:=h.ex
 refine⟨dv,nv,gv,e,h1.keep hk h2 hS,h2.ext hk.size,?_,(h4.keep hk h5 hS).to fun cs y hy=>?_,h5.ext hk.size⟩
 ·rcases h3 with ⟨h3,h6⟩|h3
  ·exact .inl ⟨h3.blocks fun a n c hv=>hk.block _ (h6 a n c hv).2 (hS _ (h6 a n c hv).1 (h6 a n c hv).2),h6.ext hk.size⟩
  ·exact .inr h3
 ·obtain⟨hv,dv,e,g1,g2,g3⟩:=hy
  exact⟨hv,dv,e,g1,g2.keep hk g3 hS,g3.ext hk.size⟩
theorem ResN.at{w0 wn w:World}{B:Nat}{cs:List Value}{r:ResL}(h:ResN w0 wn B w cs r)(hE:Ext wn w):ResAt w0 w cs r:=by
 obtain⟨dv,nv,gv,e,h1,h2,h3,h4,h5⟩:=h.ex
 refine⟨dv,nv,gv,e,h1,?_,h4.to fun cs y hy=>?_⟩
 ·rcases h3 with ⟨h3,_⟩|h3
  ·exact h3
  ·exact h3.ext hE
 ·obtain⟨hv,dv,e,g1,g2,_⟩:=hy
  exact⟨hv,dv,e,g1,g2⟩
theorem ResN.mono{w0 wn w:World}{B B':Nat}{cs:List Value}{r:ResL}(h:ResN w0 wn B w cs r)(hB:B'≤B):ResN w0 wn B' w cs r:=by
 obtain⟨dv,nv,gv,e,h1,h2,h3,h4,h5⟩:=h.ex
 refine⟨dv,nv,gv,e,h1,h2.mono hB,h3.imp (fun h=>⟨h.1,h.2.mono hB⟩) id,h4.to fun cs y hy=>?_,h5.mono hB⟩
 obtain⟨hv,dv,e,g1,g2,g3⟩:=hy
 exact⟨hv,dv,e,g1,g2,g3.mono hB⟩
set_option maxHeartbeats 2000000 in
theorem RLook_ok{w0 w:World}{ov lv qv:Value}{o q:Nm}{R:List RecL}{t:Int}(hz:ZnAt w0 w ov lv o R)(hs:zdI R)(hR:zdw R)(hL:LeadR R)(hq:Row w qv (q.map vs))(mq:NmM q):
  Fn Tryz.prog 20 #[.agg #[ov,lv],qv,vi t] w (fun v w'=>Ext w w'∧∃cs,v= .agg cs.toArray∧ResN w0 w w.heap.size w' cs (za3 o R q t)):=by
 obtain⟨ao,co,hov,_⟩:=id hz.org
 obtain⟨al,cl,hlv,_⟩:=hz.recs.open
 obtain⟨aq,cq,hqv,hcq,hgq⟩:=id hq
 simp only[List.length_map]at hov hqv hcq hgq
 have ql:=mq.len
 have hol:=hz.ol
 have rl:=hz.rl
 rw[hov,hlv,hqv]
 refine enter Tryz.func20 Tryz.ntmps20 rfl rfl ?_
 repeat refine c_r ?_
 refine rg0 ?_
 repeat refine c_r ?_
 rw[←hlv]
 rw[zam]
 refine zaH ?_
 intro w1 hE1 hs1 hA hC
 rw[←hov]at hA
 have d2:=zah (n:=2) (l:=[ov,lv]) hA rfl
 have p0:zaf w1 (some ⟨w.heap.size,0,Option.none⟩)=some ov:=zac hA rfl
 rw[hov]at p0
 have hz1:=hz.ext hE1
 have hq1:=hq.ext hE1
 rw[hqv]at hq1
 have ho1:=hz1.org
 rw[hov]at ho1
 refine rq ?_;intro gd K hgd hK
 try simp (disch:=first|omega|assumption|rfl) only[go_sem,p0,Nat.add_zero]
 refine Fn.mono (zcG w1 _ _ _ _ hq1 ho1 mq.s.lb hz.lb (by omega) (by omega)) ?_
 rintro _ w2 ⟨rfl,hE2⟩
 try simp only[go_sem]
 refine hK _ _ ?_;clear hK hgd;clear K;try clear gd
 have hE12:=hE1.trans hE2
 have hC2:=Ext.at hE2 hC
 by_cases hu:zaY q o=true
 rotate_left
 ·have hu':zaY q o=false:=by simpa using hu
  have hlk:za3 o R q t=⟨7,[],[],false,[]⟩:=by unfold za3;rw[if_pos hu']
  rw[hu']
  repeat refine c_r ?_
  refine zaB (t:=true) (vr0) ?_ (fun h=>by cases h)
  intro _
  repeat refine c_r ?_
  refine rq ?_;intro gd K hgd hK
  try simp only[go_sem]
  refine⟨by kernel_rfl,?_⟩
  rw[show bdV Tryz.prog 39 [(0,vi 7)]=some (.agg #[vi 7,.slice Option.none 0 0,.slice Option.none 0 0,.bool false,.slice Option.none 0 0]) from by kernel_rfl]
  try simp only[go_sem]
  refine zaE (P:=Tryz.prog) (t:=39) (l:=[vi 7,.slice Option.none 0 0,.slice Option.none 0 0,.bool false,.slice Option.none 0 0]) hC2 rfl (fun v h=>by simp at h;rcases h with rfl|rfl|rfl|rfl|rfl<;>rfl) rfl rfl ?_
  intro z hz' hbz hkz
  try simp only[go_sem]
  refine hK _ _ ?_;clear hK hgd;clear K;try clear gd
  repeat refine c_r ?_
  refine zay (.inr rfl) Tryz.ntmps20 rfl (zaL (x:=⟨w.heap.size+1,0,Option.none⟩) (k:=5) (vq0) rfl rfl (zah hbz rfl) zau) ?_
  exact⟨Keep.to_ext hE12 rfl (fun b hb=>by omega) hkz,_,rfl,by rw[hlk];exact⟨_,_,_,rfl,Rows.nil _ _ _,BlkB.nil,.inr (za7 _),Rows.nil _ _ _,BlkB.nil⟩⟩
 rw[hu]
 have hle:=zbZ hu
 have hlkS:∀r,goL o R q (za8 o q)=some r→za3 o R q t=r:=fun r h=>by
  unfold za3
  rw[hu,if_neg (by decide),h]
 have hlkE:goL o R q (za8 o q)=Option.none→zaM o R q=true→za3 o R q t=atL R q t false:=fun h h2=>by
  unfold za3
  rw[hu,if_neg (by decide),h]
  simp only[h2,if_true]
 have hlkW:goL o R q (za8 o q)=Option.none→zaM o R q=false→∀s,zaZ o R q=some s→za3 o R q t=atL R s t true:=fun h h2 s h3=>by
  unfold za3
  rw[hu,if_neg (by decide),h]
  simp only[h2,h3,Bool.false_eq_true,if_false]
 have hlkN:goL o R q (za8 o q)=Option.none→zaM o R q=false→zaZ o R q=Option.none→za3 o R q t=⟨3,[],[],false,[]⟩:=fun h h2 h3=>by
  unfold za3
  rw[hu,if_neg (by decide),h]
  simp only[h2,h3,Bool.false_eq_true,if_false]
 have hdn:za8 o q=zbl q (q.length - o.length):=by unfold za8;rw[if_pos hle]
 repeat refine c_r ?_
 refine zaB (t:=false) (vr0) (fun h=>by cases h) ?_
 intro _
 have p02:=zab hE2 p0
 repeat refine c_r ?_
 refine rg2 p02 Nat.add_zero ?_
 repeat refine c_r ?_
 have hK:(q.length:Int) - (o.length:Int)=((q.length - o.length:Nat):Int):=by omega
 refine zaC (Q:=fun e σ' ds' v'=>(e= .exit 0∧ds'=[]∧σ' 1= .slice aq q.length cq∧σ' 2=vi t∧σ' 3= .pointer (some ⟨w.heap.size,0,Option.none⟩)∧σ' 6= .pointer (some ⟨w.heap.size+1,0,Option.none⟩)∧Ext w2 v'∧goL o R q (za8 o q)=Option.none)∨
   (e= .ret∧ds'=[]∧σ' 6= .pointer (some ⟨w.heap.size+1,0,Option.none⟩)∧Ext w v'∧∃r cs,goL o R q (za8 o q)=some r∧v'.heap[w.heap.size+1]? =some (.cells cs.toArray 39 (0,0))∧ResN w0 w (w.heap.size+2) v' cs r)) ?_ ?_
 ·refine zap (fun m σ ds A=>ds=[]∧∃(i:Int),i+1≤(m:Int)∧σ 7=vi i∧((i= -1∧goL o R q (za8 o q)=Option.none)∨∃k:Nat,i=k∧k≤q.length - o.length∧goL o R q (za8 o q)=goL o R q (zbl q k))∧σ 1= .slice aq q.length cq∧σ 2=vi t∧σ 3= .pointer (some ⟨w.heap.size,0,Option.none⟩)∧σ 6= .pointer (some ⟨w.heap.size+1,0,Option.none⟩)∧Ext w2 A) (q.length+1) ?_ ?_
  ·exact⟨rfl,(q.length:Int) - (o.length:Int),by omega,vq0,.inr ⟨q.length - o.length,hK,Nat.le_refl _,by rw[hdn]⟩,vq0,vq0,vq0,vq0,Keep.refl _ _⟩
  rintro m σ ds A ⟨rfl,i,him,h7,hir,h1,h2,h3,h6,hEA⟩
  have hwA:=hE12.trans hEA
  repeat refine c_r ?_
  refine rg1 h7 ?_
  repeat refine c_r ?_
  refine wc0 ?_ ?_
  rotate_left
  ·intro hge
   simp only[decide_eq_false_iff_not,ge_iff_le]at hge
   repeat refine c_r ?_
   refine .inl ⟨rfl,rfl,(vq1 h1),(vq1 h2),(vq1 h3),(vq1 h6),hEA,?_⟩
   rcases hir with ⟨_,h⟩| ⟨k,rfl,_⟩
   ·exact h
   ·omega
  intro hge
  simp only[decide_eq_true_eq,ge_iff_le]at hge
  rcases hir with ⟨rfl,_⟩| ⟨k,rfl,hkK,hgo⟩
  ·omega
  have hk1:(k:Int)≤(q.length:Int):=by omega
  have hrow:Row w (.slice (if cq=k then aq else adr aq k) (q.length - k) (cq - k)) ((q.drop k).map vs):=by
   have:=Row.tail (l:=q.map vs) (by simp) hcq (by simpa using hgq) (lo:=k) (by omega)
   rw[←List.map_drop]at this
   simpa using this
  obtain⟨x,hx⟩:∃x,q.drop k=x:=⟨_,rfl⟩
  obtain⟨xv,hxv⟩:∃xv,(.slice (if cq=k then aq else adr aq k) (q.length - k) (cq - k):Value)=xv:=⟨_,rfl⟩
  have mx:NmM x:=hx▸mq.drop k
  have hux:zaY q x=true:=by rw[←hx];exact zfS (by omega)
  have hxl:x.length=q.length - k:=by rw[←hx,List.length_drop]
  obtain⟨lx,hlx,hlj⟩:∃lx,zbl q k=x::lx∧(k=0∨∃j,k=j+1∧lx=zbl q j):=by
   rw[←hx]
   cases k with
   |zero=>exact⟨[],rfl,.inl rfl⟩
   |succ j=>exact⟨zbl q j,rfl,.inr ⟨j,rfl,rfl⟩⟩
  rw[hlx]at hgo
  have hgx:∀l,(cutP o R x=false→k=0→goL o R q (x::l)=Option.none):=fun l h1 h2=>by
   simp only[goL]
   rw[h1,if_neg Bool.false_ne_true,if_pos (hxl.trans (by rw[h2,Nat.sub_zero]))]
  rw[hx,hxv]at hrow
  have hxA:=hrow.ext hwA
  have hzA:=hz.ext hwA
  have d2A:=zae (hE2.trans hEA) d2
  have p0A:=zab (hE2.trans hEA) p0
  have hCA:=Ext.at (hE2.trans hEA) hC
  have sA:=(hE2.trans hEA).size
  repeat refine c_r ?_
  refine rq ?_;intro gd K hgd hK
  try simp (disch:=first|omega|assumption|rfl) only[go_sem,h7,h1,hge,hk1]
  rw[hxv]
  refine hK _ _ ?_;clear hK hgd;clear K;try clear gd
  repeat refine c_r ?_
  refine zaC (Q:=fun e σ' ds' v'=>e= .normal∧ds'=[]∧σ' 8=xv∧σ' 7=vi k∧σ' 1= .slice aq q.length cq∧σ' 2=vi t∧σ' 3= .pointer (some ⟨w.heap.size,0,Option.none⟩)∧σ' 6= .pointer (some ⟨w.heap.size+1,0,Option.none⟩)∧Ext A v'∧σ' 46= .bool (cutP o R x)) ?_ ?_
  ·by_cases hl:(k:Int)<(q.length:Int) - (o.length:Int)
   ·refine rq ?_;intro gd K hgd hK
    have hg8:∀n σ b,zas gd n σ (some (8,b))=zal (ev n σ (.tmp 42)) b:=(fun n σ b=>by rw[zad,show gd 8=some 42 from(by rw[hgd];rfl)];rfl)
    try simp (disch:=first|omega|assumption|rfl) only[go_sem,h7,h1,h3,p0A,d2A,decide_eq_true hl,Nat.add_zero,↓hg8]
    refine Fn.mono (zlI hzA hxA mx.s.lb (by have:=mx.len;omega)) ?_
    rintro _ Y ⟨rfl,hY⟩
    try simp only[go_sem]
    refine hK _ _ ?_;clear hK hgd;clear K;try clear gd
    refine⟨rfl,rfl,vq0,(vq1 h7),(vq1 h1),(vq1 h2),(vq1 h3),(vq1 h6),hY,?_⟩
    rw[show cutP o R x=hasL R x 2 from by unfold cutP;rw[show decide (o.length<x.length)=true from decide_eq_true (by omega),Bool.true_and]]
    first| (simp only[go_sem];done)| (simp only[go_sem];rfl)
   ·refine rq ?_;intro gd K hgd hK
    have hg8:∀n σ b,zas gd n σ (some (8,b))=zal (ev n σ (.tmp 42)) b:=(fun n σ b=>by rw[zad,show gd 8=some 42 from(by rw[hgd];rfl)];rfl)
    try simp (disch:=first|omega|assumption|rfl) only[go_sem,h7,h1,h3,p0A,decide_eq_false hl,Nat.add_zero,↓hg8]
    refine hK _ _ ?_;clear hK hgd;clear K;try clear gd
    refine⟨rfl,rfl,vq0,(vq1 h7),(vq1 h1),(vq1 h2),(vq1 h3),(vq1 h6),Keep.refl _ _,?_⟩
    rw[show cutP o R x=false from by unfold cutP;rw[show decide (o.length<x.length)=false from decide_eq_false (by omega),Bool.false_and]]
    first| (simp only[go_sem];done)| (simp only[go_sem];rfl)
  clear h7 h1 h2 h3 h6
  rintro _ σ1 _ Y ⟨rfl,rfl,h8,h7,h1,h2,h3,h6,hY,h46⟩
  have d2Y:=zae hY d2A
  have hzY:=hzA.ext hY
  have hxY:=hxA.ext hY
  have hwY:=hwA.trans hY
  have hCY:=Ext.at hY hCA
  have sY:=hY.size
  repeat refine c_r ?_
  refine zaB (t:=cutP o R x) ((vq1 h46)) ?_ ?_
  ·intro ht
   repeat refine c_r ?_
   refine rq ?_;intro gd K hgd hK
   try simp (disch:=first|omega|assumption|rfl) only[go_sem,h3,h8,d2Y]
   refine Fn.mono (zb4 hzY hs hxY mx.s.lb (by have:=mx.len;omega)) ?_
   rintro dv Y1 ⟨hY1,hdv,hdb⟩
   try simp only[go_sem]
   refine hK _ _ ?_;clear hK hgd;clear K;try clear gd
   obtain⟨ad,cd,hdv',hcd,_⟩:=hdv.open
   have d2Y1:=zae hY1 d2Y
   have sY1:=hY1.size
   have ld:=zbe (R:=R) (n:=x) (t:=2)
   repeat refine c_r ?_
   refine rq ?_;intro gd K hgd hK
   try simp (disch:=first|omega|assumption|rfl) only[go_sem,h3,h8,d2Y1]
   refine Fn.mono (zlH (hzY.ext hY1) hs hdv (fun d hd=>zek hR hL (.inl rfl) hd) (by omega)) ?_
   rintro gv Y2 ⟨hY2,hgv,hgb⟩
   obtain⟨ag,cg,hgv',hcg,_⟩:=hgv.open
   try simp only[go_sem]
   obtain⟨xa,xc,hxe,_⟩:=id hrow
   obtain⟨xn,hxn⟩:∃xn,(x.map vs).length=xn:=⟨_,rfl⟩
   rw[hxn]at hxe
   have sY2:=hY2.size
   refine⟨by kernel_rfl,?_⟩
   rw[hxe,hdv',hgv',show bdV Tryz.prog 39 [(0,vi 4),(1,.slice ad (datC R x 2).length cd),(2,.slice xa xn xc),(4,.slice ag (zbx R (zbk 2 (datC R x 2))).length cg)]=some (.agg #[vi 4,.slice ad (datC R x 2).length cd,.slice xa xn xc,.bool false,.slice ag (zbx R (zbk 2 (datC R x 2))).length cg]) from by kernel_rfl]
   try simp (disch:=first|omega|assumption|rfl) only[go_sem,h6]
   refine zaE (P:=Tryz.prog) (t:=39) (l:=[vi 4,.slice ad (datC R x 2).length cd,.slice xa xn xc,.bool false,.slice ag (zbx R (zbk 2 (datC R x 2))).length cg]) (Ext.at (hY1.trans hY2) hCY) rfl (fun v h=>by simp at h;rcases h with rfl|rfl|rfl|rfl|rfl<;>rfl) rfl rfl ?_
   intro z hz' hbz hkz
   try simp only[go_sem]
   refine hK _ _ ?_;clear hK hgd;clear K;try clear gd
   repeat refine c_r ?_
   refine .inr ⟨rfl,rfl,(vq1 h6),Keep.to_ext (hwY.trans (hY1.trans hY2)) rfl (fun b hb=>by omega) hkz,zeu R x,_,?_,hbz,?_⟩
   ·rw[hgo]
    simp only[goL]
    rw[if_pos ht]
   ·refine⟨_,_,_,rfl,?_,?_,.inr ?_,?_,?_⟩
    ·rw[←hdv']
     exact(hdv.ext hY2).keep hkz (hdb.ext hY2.size) (fun b hb _=>by omega)
    ·rw[←hdv']
     exact((hdb.ext hY2.size).ext (by omega)).mono (by omega)
    ·rw[←hxe]
     exact hrow
    ·rw[←hgv']
     refine(hgv.keep hkz hgb (fun b hb _=>by omega)).to fun cs y hy=>?_
     obtain⟨hv,dv,e,g1,g2,g3⟩:=hy
     exact⟨hv,dv,e,g1,g2.keep hkz g3 (fun b hb _=>by omega),(g3.ext (by omega)).mono (by omega)⟩
    ·rw[←hgv']
     exact(hgb.ext (by omega)).mono (by omega)
  intro ht
  have hqY:=hq.ext hwY
  rw[hqv]at hqY
  repeat refine c_r ?_
  refine zaC (Q:=fun e σ' ds' v'=>e= .normal∧ds'=[]∧σ' 8=xv∧σ' 7=vi k∧σ' 1= .slice aq q.length cq∧σ' 2=vi t∧σ' 3= .pointer (some ⟨w.heap.size,0,Option.none⟩)∧σ' 6= .pointer (some ⟨w.heap.size+1,0,Option.none⟩)∧Ext Y v'∧σ' 62= .bool (decide (0<k) && hasL R x 39)) ?_ ?_
  ·by_cases hl:(k:Int)>0
   ·refine rq ?_;intro gd K hgd hK
    have hg2:∀n σ b,zas gd n σ (some (2,b))=zal (ev n σ (.tmp 58)) b:=(fun n σ b=>by rw[zad,show gd 2=some 58 from(by rw[hgd];rfl)];rfl)
    try simp (disch:=first|omega|assumption|rfl) only[go_sem,h7,h8,h3,d2Y,decide_eq_true hl,↓hg2]
    refine Fn.mono (zlI hzY hxY mx.s.lb (by have:=mx.len;omega)) ?_
    rintro _ Y1 ⟨rfl,hY1⟩
    try simp only[go_sem]
    refine hK _ _ ?_;clear hK hgd;clear K;try clear gd
    refine⟨rfl,rfl,(vq1 h8),(vq1 h7),(vq1 h1),(vq1 h2),(vq1 h3),(vq1 h6),hY1,?_⟩
    rw[show decide (0<k)=true from decide_eq_true (by omega),Bool.true_and]
    first| (simp only[go_sem];done)| (simp only[go_sem];rfl)
   ·refine rq ?_;intro gd K hgd hK
    have hg2:∀n σ b,zas gd n σ (some (2,b))=zal (ev n σ (.tmp 58)) b:=(fun n σ b=>by rw[zad,show gd 2=some 58 from(by rw[hgd];rfl)];rfl)
    try simp (disch:=first|omega|assumption|rfl) only[go_sem,h7,h8,h3,decide_eq_false hl,↓hg2]
    refine hK _ _ ?_;clear hK hgd;clear K;try clear gd
    refine⟨rfl,rfl,(vq1 h8),(vq1 h7),(vq1 h1),(vq1 h2),(vq1 h3),(vq1 h6),Keep.refl _ _,?_⟩
    rw[show decide (0<k)=false from decide_eq_false (by omega),Bool.false_and]
    first| (simp only[go_sem];done)| (simp only[go_sem];rfl)
  clear h7 h1 h2 h3 h6 h8
  rintro _ σ2 _ Z ⟨rfl,rfl,h8,h7,h1,h2,h3,h6,hZ,h62⟩
  have d2Z:=zae hZ d2Y
  have hzZ:=hzY.ext hZ
  have hxZ:=hxY.ext hZ
  have hqZ:=hqY.ext hZ
  have hwZ:=hwY.trans hZ
  have hCZ:=Ext.at hZ hCY
  have sZ:=hZ.size
  repeat refine c_r ?_
  refine zaB (t:=decide (0<k) && hasL R x 39) ((vq1 h62)) ?_ ?_
  ·intro ht2
   simp only[Bool.and_eq_true,decide_eq_true_eq]at ht2
   have hne:datC R x 39≠ []:=(zkX hs).1 ht2.2
   have ld:=zbe (R:=R) (n:=x) (t:=39)
   have hpos:0<(datC R x 39).length:=List.length_pos_iff.2 hne
   repeat refine c_r ?_
   refine rq ?_;intro gd K hgd hK
   try simp (disch:=first|omega|assumption|rfl) only[go_sem,h3,h8,d2Z]
   refine Fn.mono (zb4 hzZ hs hxZ mx.s.lb (by have:=mx.len;omega)) ?_
   rintro dv Z1 ⟨hZ1,hdv,hdb⟩
   obtain⟨ad,cd,hdv',hcd,hgd2⟩:=hdv.open
   have h01:(0:Int)≤1:=by omega
   have h11:(1:Int)≤(cd:Int):=by omega
   have t1:Int.toNat 1=1:=rfl
   try simp (disch:=first|omega|assumption|rfl) only[go_sem,hdv',h01,h11,t1,Nat.sub_zero,Nat.zero_mul,zak,ite_self]
   refine hK _ _ ?_;clear hK hgd;clear K;try clear gd
   obtain⟨d0,l0,hd0⟩:∃d0 l0,datC R x 39=d0::l0:=by
    cases h:datC R x 39 with
    |nil=>exact absurd h hne
    |cons a l=>exact⟨a,l,rfl⟩
   obtain⟨h,tl,hnames,hNm⟩:=zek hR hL (.inr (.inr rfl)) (d:=d0) (n:=x) (t:=39) (by rw[hd0];exact List.mem_cons_self ..)
   have htk:(datC R x 39).take 1=[d0]:=by rw[hd0];rfl
   have hto:toN 39 ((datC R x 39).take 1)=h:=by rw[htk];exact zjU (by decide) hnames
   obtain⟨c0,hc0,hD0⟩:=hgd2 0 hpos
   have hg0:(datC R x 39)[0]=d0:=by simp only[hd0];rfl
   rw[hg0]at hD0
   obtain⟨xf,rfl⟩:=Option.isSome_iff_exists.1 (zan hc0)
   rw[Nat.zero_mul,zak]at hc0
   obtain⟨xN,mN,cn,hv,g1,gm,g2,g3⟩:=ziY (hz.e0.trans (hwZ.trans hZ1)) hc0 hD0 hnames
   have gm':(0:Int)<(mN:Int):=by omega
   have hz0:(0:Int)≤0:=by omega
   have h0lt1:(0:Int)<1:=by omega
   have hren:zaG R q x=if zaF (zbP q x h)=0 then some ⟨5,[d0],zbP q x h,false,[]⟩ else some ⟨6,[],[],false,[]⟩:=by
    unfold zaG
    rw[if_neg hne,hto,htk]
   have hgoR:∀r,zaG R q x=some r→goL o R q (za8 o q)=some r:=fun r hr=>by
    rw[hgo]
    simp only[goL]
    rw[ht,if_neg Bool.false_ne_true,if_neg (by omega),hr]
   have sZ1:=hZ1.size
   repeat refine c_r ?_
   refine rq ?_;intro gd K hgd hK
   try simp (disch:=first|omega|assumption|rfl) only[go_sem,h1,h8,g1,g2,gm',hz0,h0lt1,Nat.zero_mul,zak,Int.toNat_zero]
   refine Fn.mono (RSwap_ok Z1 _ _ _ q x h (hqZ.ext hZ1) (hxZ.ext hZ1) (g3.ext (hz.e0.trans (hwZ.trans hZ1))) mq mx hNm.m hux) ?_
   rintro sv Z2 ⟨hZ2,hok,hbad⟩
   have hC2':=Ext.at (hZ1.trans hZ2) hCZ
   have sZ2:=hZ2.size
   by_cases hck:zaF (zbP q x h)=0
   ·obtain⟨sv,rfl,hsv,hsb⟩:=hok hck
    rw[if_pos hck]at hren
    try simp only[go_sem]
    refine hK _ _ ?_;clear hK hgd;clear K;try clear gd
    repeat refine c_r ?_
    refine rg0 ?_
    repeat refine c_r ?_
    refine zaB (t:=false) (vr0) (fun h=>by cases h) ?_
    intro _
    obtain⟨sa,sc,hse,_⟩:=id hsv
    obtain⟨sn,hsn⟩:∃sn,((zbP q x h).map vs).length=sn:=⟨_,rfl⟩
    rw[hsn]at hse
    repeat refine c_r ?_
    refine rq ?_;intro gd K hgd hK
    try simp only[go_sem]
    refine⟨by kernel_rfl,?_⟩
    rw[hse,show bdV Tryz.prog 39 [(0,vi 5),(1,.slice (some xf) 1 cd),(2,.slice sa sn sc)]=some (.agg #[vi 5,.slice (some xf) 1 cd,.slice sa sn sc,.bool false,.slice Option.none 0 0]) from by kernel_rfl]
    try simp (disch:=first|omega|assumption|rfl) only[go_sem,h6]
    refine zaE (P:=Tryz.prog) (t:=39) (l:=[vi 5,.slice (some xf) 1 cd,.slice sa sn sc,.bool false,.slice Option.none 0 0]) hC2' rfl (fun v h=>by simp at h;rcases h with rfl|rfl|rfl|rfl|rfl<;>rfl) rfl rfl ?_
    intro z hz' hbz hkz
    try simp only[go_sem]
    refine hK _ _ ?_;clear hK hgd;clear K;try clear gd
    repeat refine c_r ?_
    refine .inr ⟨rfl,rfl,(vq1 h6),Keep.to_ext (hwZ.trans (hZ1.trans hZ2)) rfl (fun b hb=>by omega) hkz,_,_,hgoR _ hren,hbz,?_⟩
    have hfv1:Rows 5 (DatAt w0) Z1 (.slice (some xf) 1 cd) [d0]:=by
     have h2:=hdv
     rw[hdv']at h2
     have h1:=h2.take (m:=1) (c2:=cd) (by omega) (by omega)
     rw[htk]at h1
     exact h1
    rw[hdv']at hdb
    refine⟨_,_,_,rfl,?_,?_,.inl ⟨?_,?_⟩,Rows.nil _ _ _,BlkB.nil⟩
    ·exact(hfv1.ext hZ2).keep hkz (BlkB.same (hdb.ext hZ2.size)) (fun b hb _=>by omega)
    ·exact((BlkB.same (hdb.ext hZ2.size)).ext (by omega)).mono (by omega)
    ·rw[←hse]
     exact hsv.blocks fun a n c hv=>hkz.block _ (hsb a n c hv).2 (by have:=hsb a n c hv;omega)
    ·rw[←hse]
     exact(hsb.ext (by omega)).mono (by omega)
   ·have hb:=hbad hck
    subst hb
    rw[if_neg hck]at hren
    try simp only[go_sem]
    refine hK _ _ ?_;clear hK hgd;clear K;try clear gd
    repeat refine c_r ?_
    refine rg0 ?_
    repeat refine c_r ?_
    refine zaB (t:=true) (vr0) ?_ (fun h=>by cases h)
    intro _
    repeat refine c_r ?_
    refine rq ?_;intro gd K hgd hK
    try simp only[go_sem]
    refine⟨by kernel_rfl,?_⟩
    rw[show bdV Tryz.prog 39 [(0,vi 6)]=some (.agg #[vi 6,.slice Option.none 0 0,.slice Option.none 0 0,.bool false,.slice Option.none 0 0]) from by kernel_rfl]
    try simp (disch:=first|omega|assumption|rfl) only[go_sem,h6]
    refine zaE (P:=Tryz.prog) (t:=39) (l:=[vi 6,.slice Option.none 0 0,.slice Option.none 0 0,.bool false,.slice Option.none 0 0]) hC2' rfl (fun v h=>by simp at h;rcases h with rfl|rfl|rfl|rfl|rfl<;>rfl) rfl rfl ?_
    intro z hz' hbz hkz
    try simp only[go_sem]
    refine hK _ _ ?_;clear hK hgd;clear K;try clear gd
    repeat refine c_r ?_
    exact .inr ⟨rfl,rfl,(vq1 h6),Keep.to_ext (hwZ.trans (hZ1.trans hZ2)) rfl (fun b hb=>by omega) hkz,_,_,hgoR _ hren,hbz,⟨_,_,_,rfl,Rows.nil _ _ _,BlkB.nil,.inr (za7 _),Rows.nil _ _ _,BlkB.nil⟩⟩
  intro ht2
  repeat refine c_r ?_
  refine rg1 h7 ?_
  repeat refine c_r ?_
  refine⟨m - 1,by omega,rfl,(k:Int) - 1,by omega,vq0,?_,(vq1 h1),(vq1 h2),(vq1 h3),(vq1 h6),hEA.trans (hY.trans hZ)⟩
  rcases hlj with rfl| ⟨j,rfl,rfl⟩
  ·exact .inl ⟨by omega,by rw[hgo];exact hgx _ ht rfl⟩
  ·refine .inr ⟨j,by omega,by omega,?_⟩
   have hnone:zaG R q x=Option.none:=by
    unfold zaG
    rw[if_pos]
    apply Classical.byContradiction
    intro h
    rw[show decide (0<j+1)=true from decide_eq_true (by omega),(zkX hs).2 h]at ht2
    cases ht2
   rw[hgo]
   simp only[goL]
   rw[ht,if_neg Bool.false_ne_true,if_neg (by omega),hnone]
 ·rintro e σ1 ds1 A (⟨rfl,rfl,h1,h2,h3,h6,hEA,hgo⟩| ⟨rfl,rfl,h6,hEw,r,cs,hgo,hb,hres⟩)
  rotate_left
  ·repeat refine c_r ?_
   refine zay (.inr rfl) Tryz.ntmps20 rfl (zaL (x:=⟨w.heap.size+1,0,Option.none⟩) (k:=5) ((vq1 h6)) rfl rfl (zah hb ?_) zau) ?_
   ·obtain⟨_,_,_,e,_⟩:=hres.ex
    rw[e];rfl
   ·exact⟨hEw,_,rfl,by rw[hlkS r hgo];exact hres.mono (by omega)⟩
  have hwA:=hE12.trans hEA
  have hzA:=hz.ext hwA
  have hqA:=hq.ext hwA
  rw[hqv]at hqA
  have d2A:=zae (hE2.trans hEA) d2
  have hCA:=Ext.at (hE2.trans hEA) hC
  have sA:=(hE2.trans hEA).size
  repeat refine c_r ?_
  refine rq ?_;intro gd K hgd hK
  try simp (disch:=first|omega|assumption|rfl) only[go_sem,h3,h1,d2A]
  refine Fn.mono (zgf hzA hqA mq.s.lb (by omega)) ?_
  rintro _ Y ⟨rfl,hY⟩
  try simp only[go_sem]
  refine hK _ _ ?_;clear hK hgd;clear K;try clear gd
  have hzY:=hzA.ext hY
  have hqY:=hqA.ext hY
  have d2Y:=zae hY d2A
  have hCY:=Ext.at hY hCA
  have hwY:=hwA.trans hY
  have sY:=hY.size
  repeat refine c_r ?_
  refine zaB (t:=zaM o R q) (vr0) ?_ ?_
  ·intro hex
   repeat refine c_r ?_
   refine rq ?_;intro gd K hgd hK
   try simp (disch:=first|omega|assumption|rfl) only[go_sem,h3,h1,h2,d2Y]
   refine Fn.mono (RAt_ok hzY hs hR hL hqY mq.s) ?_
   rintro _ Z ⟨hZ,cs,rfl,hres⟩
   have sZ:=hZ.size
   try simp (disch:=first|omega|assumption|rfl) only[go_sem,h6]
   refine zaE (P:=Tryz.prog) (t:=39) (l:=cs) (Ext.at hZ hCY) hres.cells.1 hres.cells.2 (by rw[hres.cells.1];rfl) rfl ?_
   intro z hz' hbz hkz
   try simp only[go_sem]
   refine hK _ _ ?_;clear hK hgd;clear K;try clear gd
   repeat refine c_r ?_
   refine zay (.inr rfl) Tryz.ntmps20 rfl (zaL (x:=⟨w.heap.size+1,0,Option.none⟩) (k:=5) ((vq1 h6)) rfl rfl (zah hbz hres.cells.1.symm) zau) ?_
   refine⟨Keep.to_ext (hwY.trans hZ) rfl (fun b hb=>by omega) hkz,_,rfl,?_⟩
   rw[hlkE hgo hex]
   exact((hres.n (hz.e0)).keep hkz (fun b hb _=>by omega)).mono (by omega)
  intro hex
  repeat refine c_r ?_
  refine rq ?_;intro gd K hgd hK
  try simp (disch:=first|omega|assumption|rfl) only[go_sem,h3,h1,d2Y]
  refine Fn.mono (zjO hzY hqY mq.s.lb (by omega)) ?_
  rintro _ Z ⟨hZ,sv,rfl,hsv⟩
  obtain⟨bb,hbb⟩:∃bb,(zaZ o R q).isSome=bb:=⟨_,rfl⟩
  rw[hbb]
  try simp only[go_sem]
  refine hK _ _ ?_;clear hK hgd;clear K;try clear gd
  have sZ:=hZ.size
  have d2Z:=zae hZ d2Y
  have hCZ:=Ext.at hZ hCY
  repeat refine c_r ?_
  refine rg0 ?_
  repeat refine c_r ?_
  cases bb with
  |true=>
   obtain⟨s,hso⟩:=Option.isSome_iff_exists.1 hbb
   rw[hso]at hsv
   have hse:s=zbq o R q:=by
    unfold zaZ at hso
    split at hso
    ·cases hso;rfl
    ·cases hso
   have ms:NmS s:=hse▸zhY (o:=o) (R:=R) mq.s (by omega)
   refine zaB (t:=true) (vr0) ?_ (fun h=>by cases h)
   intro _
   repeat refine c_r ?_
   refine rq ?_;intro gd K hgd hK
   try simp (disch:=first|omega|assumption|rfl) only[go_sem,h3,h2,d2Z]
   refine Fn.mono (RAt_ok (hzY.ext hZ) hs hR hL hsv ms) ?_
   rintro _ Z2 ⟨hZ2,cs,rfl,hres⟩
   have sZ2:=hZ2.size
   try simp (disch:=first|omega|assumption|rfl) only[go_sem,h6]
   refine zaE (P:=Tryz.prog) (t:=39) (l:=cs) (Ext.at hZ2 hCZ) hres.cells.1 hres.cells.2 (by rw[hres.cells.1];rfl) rfl ?_
   intro z hz' hbz hkz
   try simp only[go_sem]
   refine hK _ _ ?_;clear hK hgd;clear K;try clear gd
   repeat refine c_r ?_
   refine zay (.inr rfl) Tryz.ntmps20 rfl (zaL (x:=⟨w.heap.size+1,0,Option.none⟩) (k:=5) ((vq1 h6)) rfl rfl (zah hbz hres.cells.1.symm) zau) ?_
   refine⟨Keep.to_ext ((hwY.trans hZ).trans hZ2) rfl (fun b hb=>by omega) hkz,_,rfl,?_⟩
   rw[hlkW hgo hex s hso]
   exact((hres.n (hz.e0)).keep hkz (fun b hb _=>by omega)).mono (by omega)
  |false=>
   have hso:zaZ o R q=Option.none:=by simpa using hbb
   refine zaB (t:=false) (vr0) (fun h=>by cases h) ?_
   intro _
   repeat refine c_r ?_
   refine rq ?_;intro gd K hgd hK
   try simp only[go_sem]
   refine⟨by kernel_rfl,?_⟩
   rw[show bdV Tryz.prog 39 [(0,vi 3)]=some (.agg #[vi 3,.slice Option.none 0 0,.slice Option.none 0 0,.bool false,.slice Option.none 0 0]) from by kernel_rfl]
   try simp (disch:=first|omega|assumption|rfl) only[go_sem,h6]
   refine zaE (P:=Tryz.prog) (t:=39) (l:=[vi 3,.slice Option.none 0 0,.slice Option.none 0 0,.bool false,.slice Option.none 0 0]) hCZ rfl (fun v h=>by simp at h;rcases h with rfl|rfl|rfl|rfl|rfl<;>rfl) rfl rfl ?_
   intro z hz' hbz hkz
   try simp only[go_sem]
   refine hK _ _ ?_;clear hK hgd;clear K;try clear gd
   repeat refine c_r ?_
   refine zay (.inr rfl) Tryz.ntmps20 rfl (zaL (x:=⟨w.heap.size+1,0,Option.none⟩) (k:=5) ((vq1 h6)) rfl rfl (zah hbz rfl) zau) ?_
   refine⟨Keep.to_ext (hwY.trans hZ) rfl (fun b hb=>by omega) hkz,_,rfl,?_⟩
   rw[hlkN hgo hex hso]
   exact⟨_,_,_,rfl,Rows.nil _ _ _,BlkB.nil,.inr (za7 _),Rows.nil _ _ _,BlkB.nil⟩
theorem zlw{w0 w:World}(hE0:Ext w0 w){ov lv:Value}{o:Nm}{R:List RecL}(ho:Row w ov (o.map vs))(hl:Rows 7 (RecAt w0) w lv R)(hok:∀r∈R,zbn r)(hlen:R.length≤1000000000):
  Fn Tryz.prog 19 #[ov,lv] w (fun v w'=>Ext w w'∧∃cv,v= .agg #[ov,cv]∧Rows 7 (RecAt w0) w' cv (zaP R)):=by
 obtain⟨ao,co,hov,_⟩:=id ho
 obtain⟨no,hno⟩:∃no,(o.map vs).length=no:=⟨_,rfl⟩
 rw[hno]at hov
 refine enter Tryz.func19 Tryz.ntmps19 rfl rfl ?_
 repeat refine c_r ?_
 refine rg0 ?_
 repeat refine c_r ?_
 refine zaA ?_
 intro w1 hE1 hs1 hA
 refine rq ?_;intro gd K hgd hK
 try simp only[go_sem]
 refine Fn.mono (zjf w0 w1 (hE0.trans hE1) (hl.ext hE1) hok hlen) ?_
 rintro cv w2 ⟨hcv,hE2,hcb⟩
 obtain⟨ac,cc,hcve,_⟩:=hcv.open
 try simp only[go_sem]
 refine⟨by kernel_rfl,?_⟩
 rw[hov,hcve,show bdV Tryz.prog 34 [(0,.slice ao no co),(1,.slice ac (zaP R).length cc)]=some (.agg #[.slice ao no co,.slice ac (zaP R).length cc]) from by kernel_rfl]
 try simp only[go_sem]
 refine zaE (P:=Tryz.prog) (t:=34) (l:=[.slice ao no co,.slice ac (zaP R).length cc]) (Ext.at hE2 hA) rfl (fun v h=>by simp at h;rcases h with rfl|rfl<;>rfl) rfl rfl ?_
 intro z hz' hbz hkz
 try simp only[go_sem]
 refine hK _ _ ?_;clear hK hgd;clear K;try clear gd
 repeat refine c_r ?_
 refine zay (.inr rfl) Tryz.ntmps19 rfl (zaL (x:=⟨w.heap.size,0,Option.none⟩) (k:=2) (vq0) rfl rfl (zah hbz rfl) zau) ?_
 refine⟨Keep.to_ext (hE1.trans hE2) rfl (fun b hb=>by omega) hkz,.slice ac (zaP R).length cc,by rw[hov];rfl,?_⟩
 rw[←hcve]
 exact hcv.keep hkz hcb (fun b hb _=>by omega)
theorem RZNew_ok{w0 w:World}(hE0:Ext w0 w){ov lv:Value}{o:Nm}{R:List RecL}(ho:Row w ov (o.map vs))(hl:Rows 7 (RecAt w0) w lv R)(hok:∀r∈R,zbn r)(hlen:R.length≤1000000000):
  Fn Tryz.prog 21 #[ov,lv] w (fun v w'=>Ext w w'∧∃cv,v= .agg #[ov,cv]∧Rows 7 (RecAt w0) w' cv (zaP R)):=by
 obtain⟨ao,co,hov,_⟩:=id ho
 obtain⟨no,hno⟩:∃no,(o.map vs).length=no:=⟨_,rfl⟩
 rw[hno]at hov
 refine enter Tryz.func21 Tryz.ntmps21 rfl rfl ?_
 repeat refine c_r ?_
 refine rg0 ?_
 repeat refine c_r ?_
 refine zaA ?_
 intro w1 hE1 hs1 hA
 refine rq ?_;intro gd K hgd hK
 try simp only[go_sem]
 refine Fn.mono (zhN w0 w1 (hE0.trans hE1) (hl.ext hE1) hok hlen) ?_
 rintro cv w2 ⟨hcv,hE2⟩
 obtain⟨ac,cc,hcve,_⟩:=hcv.rows.open
 try simp only[go_sem]
 refine⟨by kernel_rfl,?_⟩
 rw[hov,hcve,show bdV Tryz.prog 43 [(0,.slice ao no co),(1,.slice ac (zaP R).length cc)]=some (.agg #[.slice ao no co,.slice ac (zaP R).length cc]) from by kernel_rfl]
 try simp only[go_sem]
 refine zaE (P:=Tryz.prog) (t:=43) (l:=[.slice ao no co,.slice ac (zaP R).length cc]) (Ext.at hE2 hA) rfl (fun v h=>by simp at h;rcases h with rfl|rfl<;>rfl) rfl rfl ?_
 intro z hz' hbz hkz
 try simp only[go_sem]
 refine hK _ _ ?_;clear hK hgd;clear K;try clear gd
 repeat refine c_r ?_
 refine zay (.inr rfl) Tryz.ntmps21 rfl (zaL (x:=⟨w.heap.size,0,Option.none⟩) (k:=2) (vq0) rfl rfl (zah hbz rfl) zau) ?_
 refine⟨Keep.to_ext (hE1.trans hE2) rfl (fun b hb=>by omega) hkz,.slice ac (zaP R).length cc,by rw[hov];rfl,?_⟩
 rw[←hcve]
 exact hcv.rows.keep hkz hcv.blk (fun b hb _=>by omega)
def zcT(n:Nm):Bool:=few n && decide (zaF n=0)
theorem zbu{n:Nm}(h:zaF n=0):∀l∈n,l≠ []∧l.length≤63:=by
 intro l hl
 unfold zaF at h
 cases hf:n.find? (fun l=>decide (errL l≠0)) with
 |some x=>
  rw[hf]at h
  have:=List.find?_some hf
  simp only[decide_eq_true_eq]at this
  exact absurd h this
 |none=>
  have:=List.find?_eq_none.1 hf l hl
  simp only[decide_eq_true_eq,Decidable.not_not]at this
  unfold errL at this
  split at this
  ·cases this
  ·rename_i h0
   refine⟨h0,?_⟩
   split at this
   ·cases this
   ·omega
theorem sum_ge:∀n:Nm,n.length≤(n.map fun l=>1+l.length).sum
 | []=>Nat.zero_le _
 |a::n=>by
  have ih:=sum_ge n
  rw[List.map_cons,List.sum_cons]
  have e:(a::n).length=n.length+1:=rfl
  omega
theorem zf9{n:Nm}(h:zaF n=0):n.length≤255:=by
 have hl:=zbu h
 unfold zaF at h
 split at h
 ·rename_i x hf
  have:=List.find?_some hf
  simp only[decide_eq_true_eq]at this
  exact absurd h this
 ·split at h
  ·cases h
  ·rename_i h2
   unfold lenN at h2
   have:=sum_ge n
   omega
theorem zd4{n:Nm}(h:zaF n=0):NmG n:=
 ⟨fun l hl=>(zbu h l hl).1,fun l hl=>by have:=(zbu h l hl).2;omega,by have:=zf9 h;omega⟩
theorem zcr{n:Nm}(h:zcT n=true):NmG n:=by
 unfold zcT at h
 simp only[Bool.and_eq_true,decide_eq_true_eq]at h
 exact zd4 h.2
theorem zgP(w:World)(a:Value)(xs:Nm)(ha:Row w a (xs.map vs)):
  Fn Tryz.prog 17 #[a] w (fun v w'=>v= .bool (zcT xs)∧Ext w w'):=by
 refine enter Tryz.func17 Tryz.ntmps17 rfl rfl ?_
 repeat refine c_r ?_
 refine rg0 ?_
 repeat refine c_r ?_
 cases hf:few xs with
 |true=>
  refine rq ?_;intro gd K hgd hK
  have hg2:∀n σ b,zas gd n σ (some (2,b))=zal (ev n σ (.tmp 5)) b:=(fun n σ b=>by rw[zad,show gd 2=some 5 from(by rw[hgd];rfl)];rfl)
  try simp only[go_sem]
  refine Fn.mono (zhS w a xs ha) ?_
  rintro _ w1 ⟨rfl,hE1⟩
  rw[hf]
  try simp (disch:=first|omega|assumption|rfl) only[go_sem,↓hg2]
  refine Fn.mono (zbw w1 a xs (ha.ext hE1) (fun l hl=>by
   have:=few_lb hf l hl
   simp only[few,Bool.and_eq_true,List.all_eq_true,decide_eq_true_eq]at hf
   have:=hf.2 l hl
   omega) (by have:=few_len hf;omega)) ?_
  rintro _ w2 ⟨rfl,hE2⟩
  try simp (disch:=first|omega|assumption|rfl) only[go_sem,↓hg2]
  refine hK _ _ ?_;clear hK hgd;clear K;try clear gd
  repeat refine c_r ?_
  refine rt0 Tryz.ntmps17 ?_
  refine⟨?_,hE1.trans hE2⟩
  unfold zcT
  rw[hf,Bool.true_and]
 |false=>
  refine rq ?_;intro gd K hgd hK
  have hg2:∀n σ b,zas gd n σ (some (2,b))=zal (ev n σ (.tmp 5)) b:=(fun n σ b=>by rw[zad,show gd 2=some 5 from(by rw[hgd];rfl)];rfl)
  try simp only[go_sem]
  refine Fn.mono (zhS w a xs ha) ?_
  rintro _ w1 ⟨rfl,hE1⟩
  rw[hf]
  try simp (disch:=first|omega|assumption|rfl) only[go_sem,↓hg2]
  refine hK _ _ ?_;clear hK hgd;clear K;try clear gd
  repeat refine c_r ?_
  refine rt0 Tryz.ntmps17 ?_
  refine⟨?_,hE1⟩
  unfold zcT
  rw[hf,Bool.false_and]
theorem zlU(w:World)(t:Int):
  Fn Tryz.prog 208 #[vi t] w (fun v w'=>w'=w∧∃a b c:Int,v= .tuple #[vi a,vi b,vi c]∧((t=2∨t=5∨t=39)→a=1)∧(t=15→b=1)):=by
 refine enter Tryz.func208 Tryz.ntmps208 rfl rfl ?_
 repeat refine c_r ?_
 refine rg0 ?_
 repeat refine c_r ?_
 refine rg0 ?_
 repeat refine c_r ?_
 refine rg0 ?_
 repeat refine c_r ?_
 refine wc0 ?_ ?_
 ·intro h1
  simp only[decide_eq_true_eq]at h1
  repeat (first|refine c_r ?_|refine rg0 ?_)
  refine zay (.inr rfl) Tryz.ntmps208 rfl (zar (vr0) (zar (vr0) (zar (vr0) zau))) ?_
  exact⟨rfl,0,0,4,rfl,by omega,by omega⟩
 intro h1
 simp only[decide_eq_false_iff_not]at h1
 repeat refine c_r ?_
 refine rg0 ?_
 repeat refine c_r ?_
 refine wc0 ?_ ?_
 ·intro h2
  simp only[decide_eq_true_eq]at h2
  repeat (first|refine c_r ?_|refine rg0 ?_)
  refine zay (.inr rfl) Tryz.ntmps208 rfl (zar (vr0) (zar (vr0) (zar (vr0) zau))) ?_
  exact⟨rfl,0,0,16,rfl,by omega,by omega⟩
 intro h2
 simp only[decide_eq_false_iff_not]at h2
 refine zfN ?_
 refine zaC (Q:=fun e σ' ds' v'=>e= .normal∧ds'=[]∧v'=w∧σ' 5=vi t∧∃bb,σ' 10= .bool bb∧bb=(decide (t=2)|| (decide (t=5)|| (decide (t=12)||decide (t=39))))) ?_ ?_
 ·refine zfN ?_
  refine rg0 ?_
  refine zav ?_
  refine wc0 ?_ ?_
  ·intro h
   repeat refine c_r ?_
   exact⟨rfl,rfl,rfl,vq0,true,by simp only[go_sem];rw[h],by rw[h];rfl⟩
  intro e1
  refine zfN ?_
  refine rg0 ?_
  refine zav ?_
  refine wc0 ?_ ?_
  ·intro h
   repeat refine c_r ?_
   exact⟨rfl,rfl,rfl,vq0,true,by simp only[go_sem];rw[h],by rw[e1,h];rfl⟩
  intro e2
  refine zfN ?_
  refine rg0 ?_
  refine zav ?_
  refine wc0 ?_ ?_
  ·intro h
   repeat refine c_r ?_
   exact⟨rfl,rfl,rfl,vq0,true,by simp only[go_sem];rw[h],by rw[e1,e2,h];rfl⟩
  intro e3
  refine rg0 ?_
  exact⟨rfl,rfl,rfl,vq0,decide (t=39),vr0,by rw[e1,e2,e3];rfl⟩
 rintro _ σ1 _ v1 ⟨rfl,rfl,hv1,h5,bb,h10,hbb⟩
 rw[hv1]
 clear hv1 v1
 repeat refine c_r ?_
 refine zaB (t:=bb) ((vq1 h10)) ?_ ?_
 ·intro ht
  rw[ht]at hbb
  repeat (first|refine c_r ?_|refine rg0 ?_)
  refine zay (.inr rfl) Tryz.ntmps208 rfl (zar (vr0) (zar (vr0) (zar (vr0) zau))) ?_
  refine⟨rfl,1,0,0,rfl,fun _=>rfl,fun h=>?_⟩
  subst h
  cases hbb
 intro ht
 rw[ht]at hbb
 have hno:¬(t=2∨t=5∨t=39):=by
  rintro(rfl|rfl|rfl)<;>cases hbb
 repeat refine c_r ?_
 refine rg1 h5 ?_
 repeat refine c_r ?_
 refine wc0 ?_ ?_
 ·intro h3
  repeat (first|refine c_r ?_|refine rg0 ?_)
  refine zay (.inr rfl) Tryz.ntmps208 rfl (zar (vr0) (zar (vr0) (zar (vr0) zau))) ?_
  exact⟨rfl,1,1,0,rfl,fun _=>rfl,fun _=>rfl⟩
 intro h3
 simp only[decide_eq_false_iff_not]at h3
 repeat refine c_r ?_
 refine rg1 h5 ?_
 repeat refine c_r ?_
 refine wc0 ?_ ?_
 ·intro h4
  repeat (first|refine c_r ?_|refine rg0 ?_)
  refine zay (.inr rfl) Tryz.ntmps208 rfl (zar (vr0) (zar (vr0) (zar (vr0) zau))) ?_
  exact⟨rfl,2,5,0,rfl,fun h=>absurd h hno,fun h=>absurd h h3⟩
 intro h4
 repeat refine c_r ?_
 refine rg1 h5 ?_
 repeat refine c_r ?_
 refine wc0 ?_ ?_
 ·intro h6
  repeat (first|refine c_r ?_|refine rg0 ?_)
  refine zay (.inr rfl) Tryz.ntmps208 rfl (zar (vr0) (zar (vr0) (zar (vr0) zau))) ?_
  exact⟨rfl,0,0,0,rfl,fun h=>absurd h hno,fun h=>absurd h h3⟩
 intro h6
 repeat (first|refine c_r ?_|refine rg0 ?_)
 refine zay (.inr rfl) Tryz.ntmps208 rfl (zar (vr0) (zar (vr0) (zar (vr0) zau))) ?_
 exact⟨rfl,0,0, -1,rfl,fun h=>absurd h hno,fun h=>absurd h h3⟩
theorem zbY(b:Bool):zal undef b=false:=nr rfl
structure DatF(d:DatL):Prop where
 names:∀n∈d.names,(∀l∈n,l.length≤1000000000)∧n.length≤1000000000
 nn:d.names.length≤1000000000
 nu:d.nums.length≤1000000000
 nt:d.texts.length≤1000000000
 tl:∀l∈d.texts,l.length≤1000000000
 nr:d.raw.length≤1000000000
 n8:d.names.length≤8
def zgt(t:Int):Prop:=t=2∨t=5∨t=39
set_option maxHeartbeats 2000000 in
theorem zgN{w0 w:World}(hE0:Ext w0 w){cs:List Value}{d:DatL}(hd:DatAt w0 cs d)(hf:DatF d):
  Fn Tryz.prog 173 #[.agg cs.toArray] w (fun v w'=>Ext w w'∧∃e:Int,v=vi e∧(e=0→(∀n∈d.names,zaF n=0)∧(zgt d.ty→d.names.length=1))):=by
 obtain⟨nm,nu,tx,rw',rfl,⟨vals,⟨an,cn,rfl,hcn,hgn⟩,hvl,hvr⟩,⟨au,cu,rfl,hcu,hgu⟩,⟨at1,ct,rfl,hct,hgt⟩,⟨ar,cr,rfl,hcr,hgr⟩⟩:=hd.ex
 simp only[List.length_map]at hcu hgu hct hgt hcr hgr
 simp only[List.length_map]
 obtain⟨L,hL⟩:∃L:List Value,[vi d.ty,.slice an vals.length cn,.slice au d.nums.length cu,.slice at1 d.texts.length ct,.slice ar d.raw.length cr]=L:=⟨_,rfl⟩
 refine enter Tryz.func173 Tryz.ntmps173 rfl rfl ?_
 repeat refine c_r ?_
 refine rg0 ?_
 repeat refine c_r ?_
 refine zaA ?_
 intro w1 hE1 hs1 hA
 have p0:zaf w1 (some ⟨w.heap.size,0,Option.none⟩)=some (vi d.ty):=zac hA rfl
 have p1:zaf w1 (some ⟨w.heap.size,1,Option.none⟩)=some (.slice an vals.length cn):=zac hA rfl
 have p2:zaf w1 (some ⟨w.heap.size,2,Option.none⟩)=some (.slice au d.nums.length cu):=zac hA rfl
 have p3:zaf w1 (some ⟨w.heap.size,3,Option.none⟩)=some (.slice at1 d.texts.length ct):=zac hA rfl
 have p4:zaf w1 (some ⟨w.heap.size,4,Option.none⟩)=some (.slice ar d.raw.length cr):=zac hA rfl
 have nn:=hf.nn
 have nu:=hf.nu
 have nt:=hf.nt
 have nr:=hf.nr
 have rd:∀{x},Ext w1 x→zaf x (some ⟨w.heap.size,1,Option.none⟩)=some (.slice an vals.length cn)∧zaf x (some ⟨w.heap.size,3,Option.none⟩)=some (.slice at1 d.texts.length ct)∧zaf x (some ⟨w.heap.size,0,Option.none⟩)=some (vi d.ty)∧zaf x (some ⟨w.heap.size,2,Option.none⟩)=some (.slice au d.nums.length cu)∧zaf x (some ⟨w.heap.size,4,Option.none⟩)=some (.slice ar d.raw.length cr):=
  fun hx=>⟨zab hx p1,zab hx p3,zab hx p0,zab hx p2,zab hx p4⟩
 refine zaC (Q:=fun e σ' ds' v'=>e= .normal∧ds'=[]∧σ' 1= .pointer (some ⟨w.heap.size,0,Option.none⟩)∧v'=w1∧∃bb,σ' 17= .bool bb) ?_ ?_
 ·by_cases h1:d.ty<1
  ·refine rq ?_;intro gd K hgd hK
   have hg3:∀n σ b,zas gd n σ (some (3,b))=zal (ev n σ (.tmp 13)) b:=(fun n σ b=>by rw[zad,show gd 3=some 13 from(by rw[hgd];rfl)];rfl)
   try simp (disch:=first|omega|assumption|rfl) only[go_sem,p0,Nat.add_zero,decide_eq_true h1,↓hg3]
   refine hK _ _ ?_;clear hK hgd;clear K;try clear gd
   exact⟨rfl,rfl,vq0,rfl,_,vr0⟩
  ·refine rq ?_;intro gd K hgd hK
   have hg3:∀n σ b,zas gd n σ (some (3,b))=zal (ev n σ (.tmp 13)) b:=(fun n σ b=>by rw[zad,show gd 3=some 13 from(by rw[hgd];rfl)];rfl)
   try simp (disch:=first|omega|assumption|rfl) only[go_sem,p0,Nat.add_zero,decide_eq_false h1,↓hg3]
   refine hK _ _ ?_;clear hK hgd;clear K;try clear gd
   exact⟨rfl,rfl,vq0,rfl,_,vr0⟩
 rintro _ σ1 _ v1 ⟨rfl,rfl,h1,hv1,bb,h17⟩
 rw[hv1]
 clear hv1 v1
 repeat refine c_r ?_
 refine zaB (t:=bb) ((vq1 h17)) ?_ ?_
 ·intro _
  repeat (first|refine c_r ?_|refine rg0 ?_)
  refine rt0 Tryz.ntmps173 ?_
  exact⟨hE1,6,rfl,fun h=>by cases h⟩
 intro _
 repeat refine c_r ?_
 refine rq ?_;intro gd K hgd hK
 try simp (disch:=first|omega|assumption|rfl) only[go_sem,h1,p0,Nat.add_zero]
 refine Fn.mono (zlU w1 d.ty) ?_
 rintro _ w2 ⟨hw2,a,b,c,rfl,hca,hcb⟩
 rw[hw2]
 clear hw2 w2
 try simp only[go_sem]
 refine hK _ _ ?_;clear hK hgd;clear K;try clear gd
 repeat refine c_r ?_
 refine rg3 h1 p3 Nat.zero_add ?_
 repeat refine c_r ?_
 refine rg3 h1 p0 Nat.add_zero ?_
 repeat refine c_r ?_
 refine zaC (Q:=fun e σ' ds' v'=>e= .normal∧ds'=[]∧σ' 1= .pointer (some ⟨w.heap.size,0,Option.none⟩)∧σ' 3=vi a∧σ' 4=vi b∧σ' 5=vi c∧v'=w1∧∃bb,σ' 6= .bool bb) ?_ ?_
 ·refine wc0 ?_ ?_
  ·intro h16
   repeat refine c_r ?_
   by_cases h2:(d.texts.length:Int)≥1
   ·refine rq ?_;intro gd K hgd hK
    have hg4:∀n σ b,zas gd n σ (some (4,b))=zal (ev n σ (.tmp 36)) b:=(fun n σ b=>by rw[zad,show gd 4=some 36 from(by rw[hgd];rfl)];rfl)
    try simp (disch:=first|omega|assumption|rfl) only[go_sem,h1,p3,Nat.zero_add,decide_eq_true h2,↓hg4]
    refine hK _ _ ?_;clear hK hgd;clear K;try clear gd
    exact⟨rfl,rfl,(vq1 h1),vq0,vq0,vq0,rfl,_,vr0⟩
   ·refine rq ?_;intro gd K hgd hK
    have hg4:∀n σ b,zas gd n σ (some (4,b))=zal (ev n σ (.tmp 36)) b:=(fun n σ b=>by rw[zad,show gd 4=some 36 from(by rw[hgd];rfl)];rfl)
    try simp (disch:=first|omega|assumption|rfl) only[go_sem,h1,p3,Nat.zero_add,decide_eq_false h2,↓hg4]
    refine hK _ _ ?_;clear hK hgd;clear K;try clear gd
    exact⟨rfl,rfl,(vq1 h1),vq0,vq0,vq0,rfl,_,vr0⟩
  ·intro h16
   repeat refine c_r ?_
   exact⟨rfl,rfl,(vq1 h1),vq0,vq0,vq0,rfl,_,vr0⟩
 clear h1
 rintro _ σ2 _ v1 ⟨rfl,rfl,h1,h3,h4,h5,hv1,b6,h6⟩
 rw[hv1]
 clear hv1 v1
 repeat refine c_r ?_
 refine zaC (Q:=fun e σ' ds' v'=>e= .normal∧ds'=[]∧σ' 1= .pointer (some ⟨w.heap.size,0,Option.none⟩)∧v'=w1∧∃bb,σ' 68= .bool bb∧(bb=false→(vals.length:Int)=a∧(d.nums.length:Int)=b)) ?_ ?_
 ·by_cases hA:(vals.length:Int)=a
  rotate_left
  ·refine rq ?_;intro gd K hgd hK
   have hg5:∀n σ b,zas gd n σ (some (5,b))=zal (ev n σ (.tmp 47)) b:=(fun n σ b=>by rw[zad,show gd 5=some 47 from(by rw[hgd];rfl)];rfl);have hg12:∀n σ b,zas gd n σ (some (12,b))=zal (ev n σ (.tmp 54)) b:=(fun n σ b=>by rw[zad,show gd 12=some 54 from(by rw[hgd];rfl)];rfl);have hg15:∀n σ b,zas gd n σ (some (15,b))=zal (ev n σ (.tmp 57)) b:=(fun n σ b=>by rw[zad,show gd 15=some 57 from(by rw[hgd];rfl)];rfl);have hg23:∀n σ b,zas gd n σ (some (23,b))=zal (ev n σ (.tmp 65)) b:=(fun n σ b=>by rw[zad,show gd 23=some 65 from(by rw[hgd];rfl)];rfl)
   try simp (disch:=first|omega|assumption|rfl) only[go_sem,h1,h3,h4,h5,h6,p1,p2,p4,Nat.zero_add,decide_eq_false hA,Bool.not_true,Bool.not_false,zbY,↓hg5,↓hg12,↓hg15,↓hg23]
   refine hK _ _ ?_;clear hK hgd;clear K;try clear gd
   exact⟨rfl,rfl,(vq1 h1),rfl,_,vr0,fun h=>by cases h⟩
  by_cases hB:(d.nums.length:Int)=b
  rotate_left
  ·refine rq ?_;intro gd K hgd hK
   have hg5:∀n σ b,zas gd n σ (some (5,b))=zal (ev n σ (.tmp 47)) b:=(fun n σ b=>by rw[zad,show gd 5=some 47 from(by rw[hgd];rfl)];rfl);have hg12:∀n σ b,zas gd n σ (some (12,b))=zal (ev n σ (.tmp 54)) b:=(fun n σ b=>by rw[zad,show gd 12=some 54 from(by rw[hgd];rfl)];rfl);have hg15:∀n σ b,zas gd n σ (some (15,b))=zal (ev n σ (.tmp 57)) b:=(fun n σ b=>by rw[zad,show gd 15=some 57 from(by rw[hgd];rfl)];rfl);have hg23:∀n σ b,zas gd n σ (some (23,b))=zal (ev n σ (.tmp 65)) b:=(fun n σ b=>by rw[zad,show gd 23=some 65 from(by rw[hgd];rfl)];rfl)
   try simp (disch:=first|omega|assumption|rfl) only[go_sem,h1,h3,h4,h5,h6,p1,p2,p4,Nat.zero_add,decide_eq_true hA,decide_eq_false hB,Bool.not_true,Bool.not_false,zbY,↓hg5,↓hg12,↓hg15,↓hg23]
   refine hK _ _ ?_;clear hK hgd;clear K;try clear gd
   exact⟨rfl,rfl,(vq1 h1),rfl,_,vr0,fun h=>by cases h⟩
  by_cases hC:c≥0
  ·by_cases hD:(d.raw.length:Int)=c
   ·refine rq ?_;intro gd K hgd hK
    have hg5:∀n σ b,zas gd n σ (some (5,b))=zal (ev n σ (.tmp 47)) b:=(fun n σ b=>by rw[zad,show gd 5=some 47 from(by rw[hgd];rfl)];rfl);have hg12:∀n σ b,zas gd n σ (some (12,b))=zal (ev n σ (.tmp 54)) b:=(fun n σ b=>by rw[zad,show gd 12=some 54 from(by rw[hgd];rfl)];rfl);have hg15:∀n σ b,zas gd n σ (some (15,b))=zal (ev n σ (.tmp 57)) b:=(fun n σ b=>by rw[zad,show gd 15=some 57 from(by rw[hgd];rfl)];rfl);have hg23:∀n σ b,zas gd n σ (some (23,b))=zal (ev n σ (.tmp 65)) b:=(fun n σ b=>by rw[zad,show gd 23=some 65 from(by rw[hgd];rfl)];rfl)
    try simp (disch:=first|omega|assumption|rfl) only[go_sem,h1,h3,h4,h5,h6,p1,p2,p4,Nat.zero_add,decide_eq_true hA,decide_eq_true hB,decide_eq_true hC,decide_eq_true hD,Bool.not_true,Bool.not_false,zbY,↓hg5,↓hg12,↓hg15,↓hg23]
    refine hK _ _ ?_;clear hK hgd;clear K;try clear gd
    exact⟨rfl,rfl,(vq1 h1),rfl,_,vr0,fun _=>⟨hA,hB⟩⟩
   ·refine rq ?_;intro gd K hgd hK
    have hg5:∀n σ b,zas gd n σ (some (5,b))=zal (ev n σ (.tmp 47)) b:=(fun n σ b=>by rw[zad,show gd 5=some 47 from(by rw[hgd];rfl)];rfl);have hg12:∀n σ b,zas gd n σ (some (12,b))=zal (ev n σ (.tmp 54)) b:=(fun n σ b=>by rw[zad,show gd 12=some 54 from(by rw[hgd];rfl)];rfl);have hg15:∀n σ b,zas gd n σ (some (15,b))=zal (ev n σ (.tmp 57)) b:=(fun n σ b=>by rw[zad,show gd 15=some 57 from(by rw[hgd];rfl)];rfl);have hg23:∀n σ b,zas gd n σ (some (23,b))=zal (ev n σ (.tmp 65)) b:=(fun n σ b=>by rw[zad,show gd 23=some 65 from(by rw[hgd];rfl)];rfl)
    try simp (disch:=first|omega|assumption|rfl) only[go_sem,h1,h3,h4,h5,h6,p1,p2,p4,Nat.zero_add,decide_eq_true hA,decide_eq_true hB,decide_eq_true hC,decide_eq_false hD,Bool.not_true,Bool.not_false,zbY,↓hg5,↓hg12,↓hg15,↓hg23]
    refine hK _ _ ?_;clear hK hgd;clear K;try clear gd
    exact⟨rfl,rfl,(vq1 h1),rfl,_,vr0,fun h=>by cases h⟩
  ·refine rq ?_;intro gd K hgd hK
   have hg5:∀n σ b,zas gd n σ (some (5,b))=zal (ev n σ (.tmp 47)) b:=(fun n σ b=>by rw[zad,show gd 5=some 47 from(by rw[hgd];rfl)];rfl);have hg12:∀n σ b,zas gd n σ (some (12,b))=zal (ev n σ (.tmp 54)) b:=(fun n σ b=>by rw[zad,show gd 12=some 54 from(by rw[hgd];rfl)];rfl);have hg15:∀n σ b,zas gd n σ (some (15,b))=zal (ev n σ (.tmp 57)) b:=(fun n σ b=>by rw[zad,show gd 15=some 57 from(by rw[hgd];rfl)];rfl);have hg23:∀n σ b,zas gd n σ (some (23,b))=zal (ev n σ (.tmp 65)) b:=(fun n σ b=>by rw[zad,show gd 23=some 65 from(by rw[hgd];rfl)];rfl)
   try simp (disch:=first|omega|assumption|rfl) only[go_sem,h1,h3,h4,h5,h6,p1,p2,p4,Nat.zero_add,decide_eq_true hA,decide_eq_true hB,decide_eq_false hC,Bool.not_true,Bool.not_false,zbY,↓hg5,↓hg12,↓hg15,↓hg23]
   refine hK _ _ ?_;clear hK hgd;clear K;try clear gd
   exact⟨rfl,rfl,(vq1 h1),rfl,_,vr0,fun _=>⟨hA,hB⟩⟩
 clear h1 h3 h4 h5 h6
 rintro _ σ3 _ v1 ⟨rfl,rfl,h1,hv1,b7,h68,hb7⟩
 rw[hv1]
 clear hv1 v1
 repeat refine c_r ?_
 refine zaB (t:=b7) ((vq1 h68)) ?_ ?_
 ·intro _
  repeat (first|refine c_r ?_|refine rg0 ?_)
  refine rt0 Tryz.ntmps173 ?_
  exact⟨hE1,2,rfl,fun h=>by cases h⟩
 intro hb
 obtain⟨hA,hB⟩:=hb7 hb
 have hlead:zgt d.ty→d.names.length=1:=fun h=>by have:=hca h;omega
 repeat refine c_r ?_
 refine rg0 ?_
 repeat refine c_r ?_
 refine zaC (Q:=fun e σ' ds' v'=>ds'=[]∧Ext w1 v'∧((e= .exit 0∧σ' 1= .pointer (some ⟨w.heap.size,0,Option.none⟩)∧∀n∈d.names,zaF n=0)∨(e= .ret∧∃e2:Int,e2≠0∧σ' 2=vi e2))) ?_ ?_
 ·refine zap (fun m σ ds A=>ds=[]∧∃(i:Nat),i+m=vals.length∧σ 7=vi i∧σ 1= .pointer (some ⟨w.heap.size,0,Option.none⟩)∧Ext w1 A∧∀j (h:j<d.names.length),j<i→zaF d.names[j]=0) vals.length ?_ ?_
  ·exact⟨rfl,0,by omega,vr0,(vq1 h1),Keep.refl _ _,fun j h hj=>absurd hj (by omega)⟩
  clear h1
  rintro m σ ds A ⟨rfl,i,him,h7,h1,hEA,hlow⟩
  obtain⟨q1,q3,q0,q2,q4⟩:=rd hEA
  repeat refine c_r ?_
  refine rg4 h7 h1 q1 Nat.zero_add ?_
  repeat refine c_r ?_
  refine wc0 ?_ ?_
  ·intro hlt
   simp only[decide_eq_true_eq]at hlt
   have hi:i<vals.length:=by omega
   have hi0:(0:Int)≤(i:Int):=by omega
   have hi1:(i:Int)<(vals.length:Int):=by omega
   have hi1':(i:Int)+1=((i+1:Nat):Int):=by push_cast;rfl
   have hgi:=hgn i hi
   obtain⟨xN,rfl⟩:=Option.isSome_iff_exists.1 (zai hgi)
   have hgi':=zab (hE0.trans (hE1.trans hEA)) hgi
   have hrow:=hvr i hi (by omega)
   obtain⟨n,hn⟩:∃n,d.names[i]'(by omega)=n:=⟨_,rfl⟩
   rw[hn]at hrow
   have hnf:=hf.names n (hn▸List.getElem_mem _)
   obtain⟨hv,hhv⟩:∃hv,vals[i]=hv:=⟨_,rfl⟩
   rw[hhv]at hgi' hrow
   repeat refine c_r ?_
   refine rq ?_;intro gd K hgd hK
   try simp (disch:=first|omega|assumption|rfl) only[go_sem,h7,h1,q1,Nat.zero_add,hi0,hi1,hgi']
   refine Fn.mono (zbw A hv n (hrow.ext (hE0.trans (hE1.trans hEA))) hnf.1 hnf.2) ?_
   rintro _ A2 ⟨rfl,hA2⟩
   try simp only[go_sem]
   refine hK _ _ ?_;clear hK hgd;clear K;try clear gd
   repeat refine c_r ?_
   refine rg0 ?_
   repeat refine c_r ?_
   by_cases h0:zaF n=0
   ·rw[h0]
    refine zaB (t:=false) (vr0) (fun h=>by cases h) ?_
    intro _
    repeat refine c_r ?_
    refine rg2 h7 hi1' ?_
    repeat refine c_r ?_
    refine⟨m - 1,by omega,rfl,i+1,by omega,vq0,(vq1 h1),hEA.trans hA2,fun j hj hji=>?_⟩
    by_cases hj2:j=i
    ·subst hj2;rw[hn];exact h0
    ·exact hlow j hj (by omega)
   ·refine zaB (t:=!decide (zaF n=0)) (vr0) ?_ (fun h=>by rw[decide_eq_false h0]at h;cases h)
    intro _
    repeat refine c_r ?_
    refine rg0 ?_
    repeat refine c_r ?_
    exact⟨rfl,hEA.trans hA2,.inr ⟨rfl,zaF n,h0,vq0⟩⟩
  ·intro hge
   simp only[decide_eq_false_iff_not]at hge
   repeat refine c_r ?_
   refine⟨rfl,hEA,.inl ⟨rfl,(vq1 h1),fun n hn=>?_⟩⟩
   obtain⟨j,hj,rfl⟩:=List.getElem_of_mem hn
   exact hlow j hj (by omega)
 clear h1
 rintro e σ4 _ A ⟨rfl,hEA,⟨rfl,h1,hall⟩| ⟨rfl,e2,he2,h2⟩⟩
 rotate_left
 ·repeat refine c_r ?_
  refine rt1 h2 Tryz.ntmps173 ?_
  exact⟨hE1.trans hEA,e2,rfl,fun h=>absurd h he2⟩
 have fin:∀e:Int,e=0→(∀n∈d.names,zaF n=0)∧(zgt d.ty→d.names.length=1):=fun e _=>⟨hall,hlead⟩
 obtain⟨q1,q3,q0,q2,q4⟩:=rd hEA
 repeat refine c_r ?_
 have hvl0:(d.names.length:Int)=a:=by omega
 refine zaC (Q:=fun e σ' ds' v'=>e= .normal∧ds'=[]∧σ' 1= .pointer (some ⟨w.heap.size,0,Option.none⟩)∧v'=A∧∃bb,σ' 94= .bool bb) ?_ ?_
 ·by_cases h15:d.ty=15
  ·have hb1:=hcb h15
   have hnu1:(0:Int)<(d.nums.length:Int):=by omega
   have hz0:(0:Int)≤0:=by omega
   have hg0:=hgu 0 (by omega)
   obtain⟨xU,rfl⟩:=Option.isSome_iff_exists.1 (zai hg0)
   rw[zak]at hg0
   have hg0':=zab (hE0.trans (hE1.trans hEA)) hg0
   rw[List.getElem_map]at hg0'
   refine rq ?_;intro gd K hgd hK
   have hg3:∀n σ b,zas gd n σ (some (3,b))=zal (ev n σ (.tmp 88)) b:=(fun n σ b=>by rw[zad,show gd 3=some 88 from(by rw[hgd];rfl)];rfl)
   try simp (disch:=first|omega|assumption|rfl) only[go_sem,h1,q0,q2,Nat.add_zero,Nat.zero_add,decide_eq_true h15,hnu1,hz0,hg0',Nat.zero_mul,zak,Int.toNat_zero,↓hg3]
   refine hK _ _ ?_;clear hK hgd;clear K;try clear gd
   exact⟨rfl,rfl,(vq1 h1),rfl,_,vr0⟩
  ·refine rq ?_;intro gd K hgd hK
   have hg3:∀n σ b,zas gd n σ (some (3,b))=zal (ev n σ (.tmp 88)) b:=(fun n σ b=>by rw[zad,show gd 3=some 88 from(by rw[hgd];rfl)];rfl)
   try simp (disch:=first|omega|assumption|rfl) only[go_sem,h1,q0,Nat.add_zero,decide_eq_false h15,↓hg3]
   refine hK _ _ ?_;clear hK hgd;clear K;try clear gd
   exact⟨rfl,rfl,(vq1 h1),rfl,_,vr0⟩
 clear h1
 rintro _ σ5 _ v1 ⟨rfl,rfl,h1,hv1,b94,h94⟩
 rw[hv1]
 clear hv1 v1
 repeat refine c_r ?_
 refine zaB (t:=b94) ((vq1 h94)) ?_ ?_
 ·intro _
  repeat (first|refine c_r ?_|refine rg0 ?_)
  refine rt0 Tryz.ntmps173 ?_
  exact⟨hE1.trans hEA,7,rfl,fun h=>by cases h⟩
 intro _
 repeat refine c_r ?_
 refine rg0 ?_
 repeat refine c_r ?_
 refine zaC (Q:=fun e σ' ds' v'=>ds'=[]∧v'=A∧((e= .exit 2∧σ' 1= .pointer (some ⟨w.heap.size,0,Option.none⟩))∨(e= .ret∧σ' 2=vi 3))) ?_ ?_
 ·refine zap (fun m σ ds B=>ds=[]∧∃(i:Nat),i+m=d.texts.length∧σ 9=vi i∧σ 1= .pointer (some ⟨w.heap.size,0,Option.none⟩)∧B=A) d.texts.length ?_ ?_
  ·exact⟨rfl,0,by omega,vr0,(vq1 h1),rfl⟩
  clear h1
  rintro m σ ds B ⟨rfl,i,him,h9,h1,hB2⟩
  rw[hB2]
  clear hB2 B
  repeat refine c_r ?_
  refine rg4 h9 h1 q3 Nat.zero_add ?_
  repeat refine c_r ?_
  refine wc0 ?_ ?_
  ·intro hlt
   simp only[decide_eq_true_eq]at hlt
   have hi:i<d.texts.length:=by omega
   have hi0:(0:Int)≤(i:Int):=by omega
   have hi1:(i:Int)<(d.texts.length:Int):=by omega
   have hi1':(i:Int)+1=((i+1:Nat):Int):=by push_cast;rfl
   have hgi:=hgt i hi
   obtain⟨xT,rfl⟩:=Option.isSome_iff_exists.1 (zai hgi)
   have hgi':=zab (hE0.trans (hE1.trans hEA)) hgi
   rw[List.getElem_map]at hgi'
   have htl:=hf.tl _ (List.getElem_mem hi)
   repeat refine c_r ?_
   refine rg7 h9 h1 q3 Nat.zero_add hi0 hi1 hgi' ?_
   repeat refine c_r ?_
   refine wc0 ?_ ?_
   ·intro hgt2
    repeat refine c_r ?_
    refine rg0 ?_
    repeat refine c_r ?_
    exact⟨rfl,rfl,.inr ⟨rfl,vq0⟩⟩
   ·intro hgt2
    repeat refine c_r ?_
    refine rg2 h9 hi1' ?_
    repeat refine c_r ?_
    exact⟨m - 1,by omega,rfl,i+1,by omega,vq0,(vq1 h1),rfl⟩
  ·intro hge
   repeat refine c_r ?_
   exact⟨rfl,rfl,.inl ⟨rfl,(vq1 h1)⟩⟩
 clear h1
 rintro e σ6 _ v1 ⟨rfl,hv1,⟨rfl,h1⟩| ⟨rfl,h2⟩⟩
 rotate_left
 ·rw[hv1]
  repeat refine c_r ?_
  refine rt1 h2 Tryz.ntmps173 ?_
  exact⟨hE1.trans hEA,3,rfl,fun h=>by cases h⟩
 rw[hv1]
 clear hv1 v1
 repeat refine c_r ?_
 refine rg3 h1 q4 Nat.zero_add ?_
 repeat refine c_r ?_
 refine wc0 ?_ ?_
 ·intro _
  repeat (first|refine c_r ?_|refine rg0 ?_)
  refine rt0 Tryz.ntmps173 ?_
  exact⟨hE1.trans hEA,3,rfl,fun h=>by cases h⟩
 intro _
 repeat (first|refine c_r ?_|refine rg0 ?_)
 refine rt0 Tryz.ntmps173 ?_
 exact⟨hE1.trans hEA,0,rfl,fin 0⟩
structure DatX(w0:World)(B:Nat)(A:World)(nm:Value)(cs:List Value)(d:DatL):Prop where
 ex:∃nu tx rw vals,cs=[vi d.ty,nm,nu,tx,rw]∧Row A nm vals∧vals.length=d.names.length∧(∀i (h:i<vals.length) (h':i<d.names.length),Row w0 vals[i] (d.names[i].map vs))∧Row w0 nu (d.nums.map v32)∧Row w0 tx (d.texts.map vs)∧Row w0 rw (d.raw.map zag)
 blk:BlkB B A nm
theorem DatX.at{w0 A:World}{B:Nat}{nm:Value}{cs:List Value}{d:DatL}(h:DatX w0 B A nm cs d)(hE:Ext w0 A):DatAt A cs d:=by
 obtain⟨nu,tx,rw,vals,e,h1,h2,h3,h4,h5,h6⟩:=h.ex
 exact⟨nm,nu,tx,rw,e,⟨vals,h1,h2,fun i a b=>(h3 i a b).ext hE⟩,h4.ext hE,h5.ext hE,h6.ext hE⟩
theorem DatX.keep{w0 A x:World}{B:Nat}{nm:Value}{cs:List Value}{d:DatL}(h:DatX w0 B A nm cs d){S:Nat→Prop}(hk:Keep S A x)(hS:∀a n c,nm= .slice (some a) n c→¬S a.block):DatX w0 B x nm cs d:=by
 obtain⟨nu,tx,rw,vals,e,h1,h2,h3,h4,h5,h6⟩:=h.ex
 exact⟨⟨nu,tx,rw,vals,e,h1.blocks fun a n c hv=>hk.block _ (h.blk a n c hv).2 (hS a n c hv),h2,h3,h4,h5,h6⟩,h.blk.ext hk.size⟩
theorem DatX.mono{w0 A:World}{B B':Nat}{nm:Value}{cs:List Value}{d:DatL}(h:DatX w0 B A nm cs d)(hB:B'≤B):DatX w0 B' A nm cs d:=⟨h.ex,h.blk.mono hB⟩
set_option maxHeartbeats 1000000 in
theorem DOf_ok{w0 w:World}(hE0:Ext w0 w){cs:List Value}{d:DatL}(hd:DatAt w0 cs d)(hnn:d.names.length≤1000000000):
  Fn Tryz.prog 78 #[.agg cs.toArray] w (fun v w'=>Ext w w'∧∃cs' nm,v= .agg cs'.toArray∧DatX w0 w.heap.size w' nm cs' d):=by
 obtain⟨nm,nu,tx,rw',rfl,⟨vals,⟨an,cn,rfl,hcn,hgn⟩,hvl,hvr⟩,hnu,htx,hrw⟩:=hd.ex
 obtain⟨au,cu,rfl,_⟩:=id hnu
 obtain⟨at1,ct,rfl,_⟩:=id htx
 obtain⟨ar,cr,rfl,_⟩:=id hrw
 refine enter Tryz.func78 Tryz.ntmps78 rfl rfl ?_
 repeat refine c_r ?_
 refine rg0 ?_
 repeat refine c_r ?_
 rw[zam]
 refine zaH ?_
 intro w1 hE1 hs1 hA hC
 have p0:zaf w1 (some ⟨w.heap.size,0,Option.none⟩)=some (vi d.ty):=zac hA rfl
 have p1:zaf w1 (some ⟨w.heap.size,1,Option.none⟩)=some (.slice an vals.length cn):=zac hA rfl
 have p2:zaf w1 (some ⟨w.heap.size,2,Option.none⟩)=some (.slice au (d.nums.map v32).length cu):=zac hA rfl
 have p3:zaf w1 (some ⟨w.heap.size,3,Option.none⟩)=some (.slice at1 (d.texts.map vs).length ct):=zac hA rfl
 have p4:zaf w1 (some ⟨w.heap.size,4,Option.none⟩)=some (.slice ar (d.raw.map zag).length cr):=zac hA rfl
 refine rq ?_;intro gd K hgd hK
 try simp (disch:=first|omega|assumption|rfl) only[go_sem,p0,p2,p3,p4,Nat.add_zero,Nat.zero_add]
 refine⟨by kernel_rfl,?_⟩
 rw[show bdV Tryz.prog 132 [(0,vi d.ty),(2,.slice au (d.nums.map v32).length cu),(3,.slice at1 (d.texts.map vs).length ct),(4,.slice ar (d.raw.map zag).length cr)]=some (.agg #[vi d.ty,.slice Option.none 0 0,.slice au (d.nums.map v32).length cu,.slice at1 (d.texts.map vs).length ct,.slice ar (d.raw.map zag).length cr]) from by kernel_rfl]
 try simp only[go_sem]
 have hB3:=zaw w1 (.cells #[vi 0,.slice Option.none 0 0,.slice Option.none 0 0,.slice Option.none 0 0,.slice Option.none 0 0] 132 (0,0))
 have hE4:=Ext.alloc w1 (.cells #[vi 0,.slice Option.none 0 0,.slice Option.none 0 0,.slice Option.none 0 0,.slice Option.none 0 0] 132 (0,0))
 have hs4:=zam w1 (.cells #[vi 0,.slice Option.none 0 0,.slice Option.none 0 0,.slice Option.none 0 0,.slice Option.none 0 0] 132 (0,0))
 revert hB3 hE4 hs4
 generalize w1.alloc (.cells #[vi 0,.slice Option.none 0 0,.slice Option.none 0 0,.slice Option.none 0 0,.slice Option.none 0 0] 132 (0,0))=w2
 intro hB3 hE4 hs4
 refine zaE (P:=Tryz.prog) (t:=132) (l:=[vi d.ty,.slice Option.none 0 0,.slice au (d.nums.map v32).length cu,.slice at1 (d.texts.map vs).length ct,.slice ar (d.raw.map zag).length cr]) hB3 rfl (fun v h=>by simp at h;rcases h with rfl|rfl|rfl|rfl|rfl<;>rfl) rfl rfl ?_
 intro w3 hs5 hB5 hk5
 try simp only[go_sem]
 refine hK _ _ ?_;clear hK hgd;clear K;try clear gd
 have hE13:Ext w1 w3:=Keep.to_ext hE4 rfl (fun b hb=>by omega) hk5
 obtain⟨b3,hb3⟩:∃b3,w1.heap.size=b3:=⟨_,rfl⟩
 rw[hb3]at hB5
 have hs3:w3.heap.size=b3+1:=by omega
 repeat refine c_r ?_
 refine rg0 ?_
 repeat refine c_r ?_
 rw[hb3]
 refine zap (fun m σ ds A=>ds=[]∧∃(i:Nat) (nv:Value),i+m=vals.length∧σ 4=vi i∧σ 1= .pointer (some ⟨w.heap.size,0,Option.none⟩)∧σ 2= .pointer (some ⟨w.heap.size+1,0,Option.none⟩)∧σ 3= .pointer (some ⟨b3,0,Option.none⟩)∧A.heap[b3]? =some (.cells [vi d.ty,nv,.slice au (d.nums.map v32).length cu,.slice at1 (d.texts.map vs).length ct,.slice ar (d.raw.map zag).length cr].toArray 132 (0,0))∧Own w3.heap.size A 22 nv (vals.take i)∧Ext w1 A∧w3.heap.size≤A.heap.size) vals.length ?_ ?_
 ·exact⟨rfl,0,.slice Option.none 0 0,by omega,vr0,vq0,vq0,vq0,hB5,Own.nil _ _ _,hE13,Nat.le_refl _⟩
 rintro m σ ds A ⟨rfl,i,nv,him,h4,h1,h2,h3,hb,hown,hEA,hsA⟩
 have q1:=zab hEA p1
 have s1:=hE1.size
 repeat refine c_r ?_
 refine rg4 h4 h1 q1 Nat.zero_add ?_
 repeat refine c_r ?_
 refine wc0 ?_ ?_
 ·intro hlt
  simp only[decide_eq_true_eq]at hlt
  have hi:i<vals.length:=by omega
  have hi0:(0:Int)≤(i:Int):=by omega
  have hi1:(i:Int)<(vals.length:Int):=by omega
  have hi1':(i:Int)+1=((i+1:Nat):Int):=by push_cast;rfl
  have hgi:=hgn i hi
  obtain⟨xN,rfl⟩:=Option.isSome_iff_exists.1 (zai hgi)
  obtain⟨xi,hxi⟩:∃xi,adr (some xN) i=some xi:=⟨_,rfl⟩
  rw[hxi]at hgi
  have hgA:=zab (hE0.trans (hE1.trans hEA)) hgi
  have hxb:xi.block<w3.heap.size:=by
   have:=zct (show w0.cell? xi=some _ from hgi)
   have:=(hE0.trans (hE1.trans hE13)).size
   omega
  have hrow:=hvr i hi (by omega)
  obtain⟨hv,hhv⟩:∃hv,vals[i]=hv:=⟨_,rfl⟩
  rw[hhv]at hgA hrow
  obtain⟨ha,hc,hve,_⟩:=id hrow
  have hone:one hv=true:=by rw[hve];rfl
  have htk:vals.take (i+1)=vals.take i++ [hv]:=by rw[zao hi,hhv]
  have hnv:zaf A (some ⟨b3,1,Option.none⟩)=some nv:=zcl hb rfl
  have hvals:(vals.take i).length≤1000000000:=by rw[List.length_take];omega
  repeat refine c_r ?_
  refine zaN (fun i=>i==10) [(0,true),(1,true),(2,true),(3,true),(4,true),(5,true),(6,true),(7,false),(8,false),(9,true),(10,false)] (zbB w3.heap.size) mixed (by kernel_rfl) ?_;intro gd K x hgd hx hxe hK;have hx0:=zfM hxe;clear hxe
  have hgx:=zab hx0 hgA
  have hnx:=zab hx0 hnv
  have q1x:=zab hx0 q1
  have hxs:=hx.size
  simp (disch:=first|omega|assumption|rfl) only[go_sem,h4,h1,h3,q1x,hgx,hnx,hi0,hi1,hxi,Nat.zero_add,Nat.mul_one]
  refine⟨zco (by omega),zco (by omega),zc0 hxb,?_⟩
  refine zgc (z:= .slice Option.none 0 0) (v:=hv) (by rfl) (by rfl) (by rfl) (by rfl) (by rw[hve];rfl) ?_
  intro w5 hE5 hs5 ho5
  refine⟨.inr hE5.keep,?_⟩
  simp (disch:=first|omega|assumption|rfl) only[go_sem]
  have hx5:=hx0.trans hE5
  have hx5s:=hx5.size
  refine zdU (hown.ext hx5) ho5.row rfl rfl rfl rfl rfl rfl (vr0) (vr0) (fun q hq=>by rw[List.mem_singleton.1 hq];exact hone) (by rw[List.length_singleton];omega) (by decide) (by omega) ?_
  intro v7 w7 ho7 hE7 hk7 hb7
  refine⟨.inr (hk7.mono fun b _ hb=>by have:=(hown.ge hb).1;show _≤_;omega),?_⟩
  simp (disch:=first|omega|assumption|rfl) only[go_sem,h3]
  have hk7s:=hk7.size
  obtain⟨a7,c7,hv7⟩:=ho7.slice
  have hb3w:w7.heap[b3]? =some (.cells [vi d.ty,nv,.slice au (d.nums.map v32).length cu,.slice at1 (d.texts.map vs).length ct,.slice ar (d.raw.map zag).length cr].toArray 132 (0,0)):=(hk7.block b3 (by omega) (fun h=>by have:=(hown.ge h).1;omega)).trans (Ext.at hx5 hb)
  refine zaV (P:=Tryz.prog) (t:=93) (j:=1) (l:=[vi d.ty,nv,.slice au (d.nums.map v32).length cu,.slice at1 (d.texts.map vs).length ct,.slice ar (d.raw.map zag).length cr]) hb3w (by simp) (by rw[hv7];rfl) rfl rfl ?_
  intro z hz' hbz hkz
  refine⟨.inl rfl,?_⟩
  simp (disch:=first|omega|assumption|rfl) only[go_sem]
  refine hK _ _ ?_;clear hK hgd;clear K;try clear gd
  have hEz:Ext w1 z:=Keep.to_ext (hE7 w1 (hEA.trans hx5) (by omega)) rfl (fun b hb=>by omega) hkz
  repeat refine c_r ?_
  refine rg2 h4 hi1' ?_
  repeat refine c_r ?_
  exact⟨m - 1,by omega,rfl,i+1,v7,by omega,vq0,(vq1 h1),(vq1 h2),(vq1 h3),hbz,by rw[htk];exact ho7.keep hkz (fun b hb h=>by have:=(ho7.ge hb).1;omega),hEz,by omega⟩
 ·intro hge
  simp only[decide_eq_false_iff_not]at hge
  have hi:i=vals.length:=by omega
  rw[hi,List.take_length]at hown
  obtain⟨na,nc,hnv⟩:=hown.slice
  repeat refine c_r ?_
  refine rq ?_;intro gd K hgd hK
  have d5:=zah (n:=5) hb rfl
  try simp (disch:=first|omega|assumption|rfl) only[go_sem,h3,h2,d5]
  refine zaE (P:=Tryz.prog) (t:=132) (l:=[vi d.ty,nv,.slice au (d.nums.map v32).length cu,.slice at1 (d.texts.map vs).length ct,.slice ar (d.raw.map zag).length cr]) (Ext.at hEA hC) rfl (fun v h=>by
   simp at h
   rcases h with rfl|rfl|rfl|rfl|rfl
   ·rfl
   ·rw[hnv];rfl
   ·rfl
   ·rfl
   ·rfl) rfl rfl ?_
  intro z hz' hbz hkz
  try simp only[go_sem]
  refine hK _ _ ?_;clear hK hgd;clear K;try clear gd
  repeat refine c_r ?_
  refine zay (.inr rfl) Tryz.ntmps78 rfl (zaL (x:=⟨w.heap.size+1,0,Option.none⟩) (k:=5) ((vq1 h2)) rfl rfl (zah hbz rfl) zau) ?_
  have hEz:Ext w z:=Keep.to_ext (hE1.trans hEA) rfl (fun b hb=>by omega) hkz
  have hownz:=hown.keep hkz (fun b hb h=>by have:=(hown.ge hb).1;omega)
  refine⟨hEz,_,nv,rfl,⟨⟨_,_,_,vals,rfl,hownz.row,hvl,hvr,hnu,htx,hrw⟩,fun a n c hv=>?_⟩⟩
  have:=hownz.ge (b:=a.block) (by rw[hv];rfl)
  omega
theorem DatAt.open{w:World}{cs:List Value}{d:DatL}(h:DatAt w cs d):∃a1 n1 c1 a2 n2 c2 a3 n3 c3 a4 n4 c4,cs=[vi d.ty,.slice a1 n1 c1,.slice a2 n2 c2,.slice a3 n3 c3,.slice a4 n4 c4]:=by
 obtain⟨nm,nu,tx,rw',rfl,⟨vals,⟨an,cn,rfl,_⟩,_⟩,⟨au,cu,rfl,_⟩,⟨at1,ct,rfl,_⟩,⟨ar,cr,rfl,_⟩⟩:=h.ex
 exact⟨_,_,_,_,_,_,_,_,_,_,_,_,rfl⟩
theorem DatX.open{w0 A:World}{B:Nat}{nm:Value}{cs:List Value}{d:DatL}(h:DatX w0 B A nm cs d):∃a1 n1 c1 a2 n2 c2 a3 n3 c3 a4 n4 c4,cs=[vi d.ty,.slice a1 n1 c1,.slice a2 n2 c2,.slice a3 n3 c3,.slice a4 n4 c4]:=by
 obtain⟨nu,tx,rw,vals,e,⟨a1,c1,rfl,_⟩,h2,h3,⟨a4,c4,rfl,_⟩,⟨a5,c5,rfl,_⟩,⟨a6,c6,rfl,_⟩⟩:=h.ex
 exact⟨_,_,_,_,_,_,_,_,_,_,_,_,e⟩
structure RecX(w0:World)(B:Nat)(A:World)(nm:Value)(cs:List Value)(r:RecL):Prop where
 ex:∃ow ds,cs=ow::v32 r.ttl::ds∧Row w0 ow (r.owner.map vs)∧DatX w0 B A nm ds r.dat
theorem RecX.at{w0 A:World}{B:Nat}{nm:Value}{cs:List Value}{r:RecL}(h:RecX w0 B A nm cs r)(hE:Ext w0 A):RecAt A cs r:=by
 obtain⟨ow,ds,e,h1,h2⟩:=h.ex
 exact⟨ow,ds,e,h1.ext hE,h2.at hE⟩
theorem RecX.keep{w0 A x:World}{B:Nat}{nm:Value}{cs:List Value}{r:RecL}(h:RecX w0 B A nm cs r){S:Nat→Prop}(hk:Keep S A x)(hS:∀a n c,nm= .slice (some a) n c→¬S a.block):RecX w0 B x nm cs r:=by
 obtain⟨ow,ds,e,h1,h2⟩:=h.ex
 exact⟨ow,ds,e,h1,h2.keep hk hS⟩
theorem RecX.mono{w0 A:World}{B B':Nat}{nm:Value}{cs:List Value}{r:RecL}(h:RecX w0 B A nm cs r)(hB:B'≤B):RecX w0 B' A nm cs r:=by
 obtain⟨ow,ds,e,h1,h2⟩:=h.ex
 exact⟨ow,ds,e,h1,h2.mono hB⟩
theorem RecX.blk{w0 A:World}{B:Nat}{nm:Value}{cs:List Value}{r:RecL}(h:RecX w0 B A nm cs r):BlkB B A nm:=by
 obtain⟨ow,ds,e,h1,h2⟩:=h.ex
 exact h2.blk
theorem RecX.cells{w0 A:World}{B:Nat}{nm:Value}{cs:List Value}{r:RecL}(h:RecX w0 B A nm cs r):cs.length=7∧∀q∈cs,one q=true:=by
 obtain⟨ow,ds,e,⟨a,c,rfl,_⟩,h2⟩:=h.ex
 obtain⟨b1,m1,e1,b2,m2,e2,b3,m3,e3,b4,m4,e4,hds⟩:=h2.open
 rw[e,hds]
 refine⟨rfl,fun q hq=>?_⟩
 simp at hq
 rcases hq with rfl|rfl|rfl|rfl|rfl|rfl|rfl<;>rfl
set_option maxHeartbeats 1000000 in
theorem zlE{w0 w:World}(hE0:Ext w0 w){cs:List Value}{r:RecL}(hr:RecAt w0 cs r)(hnn:r.dat.names.length≤1000000000):
  Fn Tryz.prog 76 #[.agg cs.toArray] w (fun v w'=>Ext w w'∧∃cs' nm,v= .agg cs'.toArray∧RecX w0 w.heap.size w' nm cs' r):=by
 obtain⟨ow,ds,rfl,h1,h2⟩:=hr.ex
 obtain⟨oa,oc,how,_⟩:=id h1
 obtain⟨on,hon⟩:∃on,(r.owner.map vs).length=on:=⟨_,rfl⟩
 rw[hon]at how
 obtain⟨b1,m1,e1,b2,m2,e2,b3,m3,e3,b4,m4,e4,hds⟩:=h2.open
 rw[hds,how]
 refine enter Tryz.func76 Tryz.ntmps76 rfl rfl ?_
 repeat refine c_r ?_
 refine rg0 ?_
 repeat refine c_r ?_
 rw[zam]
 refine zaH ?_
 intro w1 hE1 hs1 hA hC
 have p0:zaf w1 (some ⟨w.heap.size,0,Option.none⟩)=some (.slice oa on oc):=zac hA rfl
 have p1:zaf w1 (some ⟨w.heap.size,1,Option.none⟩)=some (v32 r.ttl):=zac hA rfl
 have p2:zat w1 (some ⟨w.heap.size,2,Option.none⟩) 5=some [vi r.dat.ty,.slice b1 m1 e1,.slice b2 m2 e2,.slice b3 m3 e3,.slice b4 m4 e4]:=by
  have h7:=zah (n:=7) (l:=[.slice oa on oc,v32 r.ttl,vi r.dat.ty,.slice b1 m1 e1,.slice b2 m2 e2,.slice b3 m3 e3,.slice b4 m4 e4]) hA rfl
  have:=za9 (m:=2) (k:=5) h7
  rwa [za6]at this
 refine zaN (fun i=>i==8) [(0,true),(1,true),(2,true),(3,true),(4,true),(5,true),(6,false),(7,true),(8,false)] NoS mixed (by kernel_rfl) ?_;intro gd K x hgd hx hxe hK;clear hxe
 have p0x:=zab hx p0
 have p1x:=zab hx p1
 have p2x:=zae hx p2
 have hxs:=hx.size
 simp (disch:=first|omega|assumption|rfl) only[go_sem,p0x,p1x,p2x,Nat.add_zero,Nat.zero_add]
 rw[←hds]
 refine Fn.mono (DOf_ok (hE0.trans (hE1.trans hx)) h2 hnn) ?_
 rintro _ w2 ⟨hE2,cs',nm',rfl,hd'⟩
 refine⟨.inr hE2,?_⟩
 obtain⟨b1',m1',e1',b2',m2',e2',b3',m3',e3',b4',m4',e4',hds'⟩:=hd'.open
 rw[hds']
 simp (disch:=first|omega|assumption|rfl) only[go_sem,p0x,p1x,p2x,Nat.add_zero,Nat.zero_add]
 refine⟨by kernel_rfl,?_⟩
 rw[show bdV Tryz.prog 139 [(0,.slice oa on oc),(1,v32 r.ttl),(2,.agg [vi r.dat.ty,.slice b1' m1' e1',.slice b2' m2' e2',.slice b3' m3' e3',.slice b4' m4' e4'].toArray)]=some (.agg #[.slice oa on oc,v32 r.ttl,vi r.dat.ty,.slice b1' m1' e1',.slice b2' m2' e2',.slice b3' m3' e3',.slice b4' m4' e4']) from by kernel_rfl]
 simp (disch:=first|omega|assumption|rfl) only[go_sem]
 refine zaE (P:=Tryz.prog) (t:=139) (l:=[.slice oa on oc,v32 r.ttl,vi r.dat.ty,.slice b1' m1' e1',.slice b2' m2' e2',.slice b3' m3' e3',.slice b4' m4' e4']) (Ext.at (hx.trans hE2) hC) rfl (fun v h=>by simp at h;rcases h with rfl|rfl|rfl|rfl|rfl|rfl|rfl<;>rfl) rfl rfl ?_
 intro z hz' hbz hkz
 refine⟨.inl rfl,?_⟩
 simp (disch:=first|omega|assumption|rfl) only[go_sem]
 refine hK _ _ ?_;clear hK hgd;clear K;try clear gd
 repeat refine c_r ?_
 refine zay (.inr rfl) Tryz.ntmps76 rfl (zaL (x:=⟨w.heap.size+1,0,Option.none⟩) (k:=7) (vq0) rfl rfl (zah hbz rfl) zau) ?_
 have hEz:Ext w z:=Keep.to_ext (hE1.trans (hx.trans hE2)) rfl (fun b hb=>by omega) hkz
 refine⟨hEz,_,nm',rfl,⟨ow,cs',?_,h1,?_⟩⟩
 ·rw[how,hds']
 ·exact(hd'.keep hkz (fun a n c hv=>by have:=hd'.blk a n c hv;omega)).mono (by omega)
abbrev OX:=RecL×(Value×List Value)
def oxC(cs:List Value)(x:OX):Prop:=cs=x.2.2∧cs.length=7∧∀q∈cs,one q=true
theorem ziK:zdb 7 oxC:=⟨fun h=>h.2.1,fun h=>h.2.2⟩
structure OI(w0:World)(B:Nat)(A:World)(ov:Value)(G:List OX):Prop where
 own:Owns 7 oxC B A 139 ov G
 row:∀x∈G,RecX w0 B A x.2.1 x.2.2 x.1∧∀a n c,x.2.1= .slice (some a) n c→some a.block≠ov.ownBlock
theorem OI.ext{w0 A A':World}{B:Nat}{ov:Value}{G:List OX}(h:OI w0 B A ov G)(hE:Ext A A'):OI w0 B A' ov G:=
 ⟨h.own.ext hE,fun x hx=>by
  obtain⟨h1,h2⟩:=h.row x hx
  exact⟨h1.keep hE (fun a n c hv h=>h),h2⟩⟩
theorem OI.app{w0 A A':World}{B:Nat}{ov v':Value}{G:List OX}{s:OX}(h:OI w0 B A ov G)(hs:RecX w0 B A s.2.1 s.2.2 s.1∧∀a n c,s.2.1= .slice (some a) n c→some a.block≠ov.ownBlock)
  (ho:Owns 7 oxC B A' 139 v' (G++ [s])) (hk:Keep (fun b=>some b=ov.ownBlock) A A') (hb:∀b,some b=v'.ownBlock→some b=ov.ownBlock∨A.heap.size≤b):OI w0 B A' v' (G++ [s]):=by
 refine⟨ho,fun y hy=>?_⟩
 have hy2:RecX w0 B A y.2.1 y.2.2 y.1∧∀a n c,y.2.1= .slice (some a) n c→some a.block≠ov.ownBlock:=by
  rcases List.mem_append.1 hy with hy|hy
  ·exact h.row y hy
  ·rw[List.mem_singleton.1 hy];exact hs
 obtain⟨h1,h2⟩:=hy2
 refine⟨h1.keep hk h2,fun a n c hv e=>?_⟩
 rcases hb _ e with e|e
 ·exact h2 a n c hv e
 ·have:=(h1.blk a n c hv).2;omega
set_option maxHeartbeats 1000000 in
theorem zhP{w0 w:World}(hE0:Ext w0 w){lv:Value}{R:List RecL}(hl:Rows 7 (RecAt w0) w lv R)(hnn:∀r∈R,r.dat.names.length≤1000000000)(hlen:R.length≤1000000000):
  Fn Tryz.prog 22 #[lv] w (fun v w'=>Ext w w'∧∃G:List OX,OI w0 w.heap.size w' v G∧G.map Prod.fst=R):=by
 obtain⟨aR,cR,rfl,hcR,hgR⟩:=hl.open
 refine enter Tryz.func22 Tryz.ntmps22 rfl rfl ?_
 repeat refine c_r ?_
 refine rg0 ?_
 repeat refine c_r ?_
 refine rg0 ?_
 repeat refine c_r ?_
 refine rg0 ?_
 repeat refine c_r ?_
 refine zap (fun m σ ds A=>ds=[]∧∃(i:Nat) (ov:Value) (G:List OX),i+m=R.length∧σ 4=vi i∧σ 3=ov∧σ 0= .slice aR R.length cR∧Ext w A∧OI w0 w.heap.size A ov G∧G.map Prod.fst=R.take i) R.length ?_ ?_
 ·exact⟨rfl,0,.slice Option.none 0 0,[],by omega,vr0,vq0,vq0,Keep.refl _ _,⟨Owns.nil _ _ _ _ _,fun x h=>absurd h (by simp)⟩,rfl⟩
 rintro m σ ds A ⟨rfl,i,ov,G,him,h4,h3,h0,hEA,hOI,hG⟩
 repeat refine c_r ?_
 refine rg2 h4 h0 ?_
 repeat refine c_r ?_
 refine wc0 ?_ ?_
 ·intro hlt
  simp only[decide_eq_true_eq]at hlt
  have hi:i<R.length:=by omega
  have hi0:(0:Int)≤(i:Int):=by omega
  have hi1:(i:Int)<(R.length:Int):=by omega
  have hi1':(i:Int)+1=((i+1:Nat):Int):=by push_cast;rfl
  have hGl:G.length=i:=by
   have:=congrArg List.length hG
   simp at this;omega
  obtain⟨cr,hcr,hRr⟩:=hgR i hi
  obtain⟨r,hr⟩:∃r,R[i]=r:=⟨_,rfl⟩
  rw[hr]at hRr
  have hrn:=hnn r (hr▸List.getElem_mem hi)
  obtain⟨xR,rfl⟩:=Option.isSome_iff_exists.1 (zan hcr)
  obtain⟨xi,hxi⟩:∃xi,adr (some xR) (i*7)=some xi:=⟨_,rfl⟩
  rw[hxi]at hcr
  have hcA:=zae hEA hcr
  repeat refine c_r ?_
  refine rq ?_;intro gd K hgd hK
  try simp (disch:=first|omega|assumption|rfl) only[go_sem,h3,h0,h4,hi0,hi1,hxi,hcA]
  refine Fn.mono (zlE (hE0.trans hEA) hRr hrn) ?_
  rintro _ A2 ⟨hA2,cs',nm',rfl,hx⟩
  have hA2s:=hA2.size
  have hEAs:=hEA.size
  try simp only[go_sem]
  refine zaT (l:=cs') (a:=((r,(nm',cs')):OX)) ziK rfl rfl rfl rfl ⟨rfl,hx.cells.1,hx.cells.2⟩ (by decide) ?_
  intro A3 hA3 hs3 ho3
  try simp (disch:=first|omega|assumption|rfl) only[go_sem,h3]
  refine zaI ziK ((hOI.ext hA2).ext hA3).own ho3.rows rfl rfl rfl rfl rfl rfl (by decide) (vr0) (vr0) (by simp;omega) (by decide) (by omega) ?_
  intro v7 A4 ho7 hE7 hk7 hb7
  try simp only[go_sem]
  refine hK _ _ ?_;clear hK hgd;clear K;try clear gd
  have hnew:=((hOI.ext hA2).ext hA3).app (s:=((r,(nm',cs')):OX)) ⟨(hx.keep hA3 (fun a n c hv h=>h)).mono hEAs,fun a n c hv e=>by
   have h8:=(hx.blk a n c hv).1
   have h9:=(hOI.own.ge e).2
   omega⟩ ho7 hk7 hb7
  repeat refine c_r ?_
  refine rg2 h4 hi1' ?_
  repeat refine c_r ?_
  exact⟨m - 1,by omega,rfl,i+1,v7,_,by omega,vq0,vq0,(vq1 h0),hE7 w ((hEA.trans hA2).trans hA3) (Nat.le_refl _),hnew,by rw[List.map_append,hG,zao hi,hr];rfl⟩
 ·intro hge
  simp only[decide_eq_false_iff_not]at hge
  have hi:i=R.length:=by omega
  rw[hi,List.take_length]at hG
  repeat refine c_r ?_
  refine rg1 h3 ?_
  repeat refine c_r ?_
  refine rt0 Tryz.ntmps22 ?_
  exact⟨hEA,G,hOI,hG⟩
theorem OI.rows{w0 A:World}{B:Nat}{ov:Value}{G:List OX}(h:OI w0 B A ov G)(hE:Ext w0 A):Rows 7 (RecAt A) A ov (G.map Prod.fst):=
 h.own.rows.mapM (C':=RecAt A) Prod.fst fun cs x hx hc=>by
  rw[hc.1]
  exact(h.row x hx).1.at hE
theorem zjd{w0 w:World}(hE0:Ext w0 w){lv:Value}{R:List RecL}(hl:Rows 7 (RecAt w0) w lv R)(hnn:∀r∈R,r.dat.names.length≤1000000000)(hlen:R.length≤1000000000):
  Fn Tryz.prog 22 #[lv] w (fun v w'=>Ext w w'∧Rows 7 (RecAt w') w' v R):=by
 refine Fn.mono (zhP hE0 hl hnn hlen) ?_
 rintro v w' ⟨hE,G,hOI,rfl⟩
 exact⟨hE,hOI.rows (hE0.trans hE)⟩
theorem zhM{w0 w:World}(hE0:Ext w0 w){cs:List Value}{r:RecL}(hr:RecAt w0 cs r)(hf:DatF r.dat)(ho:(∀l∈r.owner,l.length≤1000000000)∧r.owner.length≤1000000000):
  Fn Tryz.prog 122 #[.agg cs.toArray] w (fun v w'=>Ext w w'∧∃e:Int,v=vi e∧(e=0→zaF r.owner=0∧(∀n∈r.dat.names,zaF n=0)∧(zgt r.dat.ty→r.dat.names.length=1))):=by
 obtain⟨ow,ds,rfl,h1,h2⟩:=hr.ex
 obtain⟨b1,m1,e1,b2,m2,e2,b3,m3,e3,b4,m4,e4,hds⟩:=h2.open
 rw[hds]
 refine enter Tryz.func122 Tryz.ntmps122 rfl rfl ?_
 repeat refine c_r ?_
 refine rg0 ?_
 repeat refine c_r ?_
 refine zaA ?_
 intro w1 hE1 hs1 hA
 have p0:zaf w1 (some ⟨w.heap.size,0,Option.none⟩)=some ow:=zac hA rfl
 have p1:zaf w1 (some ⟨w.heap.size,1,Option.none⟩)=some (v32 r.ttl):=zac hA rfl
 have p2:zat w1 (some ⟨w.heap.size,2,Option.none⟩) 5=some ds:=by
  have h7:=zah (n:=7) (l:=[ow,v32 r.ttl,vi r.dat.ty,.slice b1 m1 e1,.slice b2 m2 e2,.slice b3 m3 e3,.slice b4 m4 e4]) hA rfl
  have:=za9 (m:=2) (k:=5) h7
  rw[za6]at this
  rw[hds];exact this
 refine rq ?_;intro gd K hgd hK
 try simp (disch:=first|omega|assumption|rfl) only[go_sem,p0,Nat.add_zero]
 refine Fn.mono (zbw w1 ow r.owner (h1.ext (hE0.trans hE1)) ho.1 ho.2) ?_
 rintro _ w2 ⟨rfl,hE2⟩
 try simp only[go_sem]
 refine hK _ _ ?_;clear hK hgd;clear K;try clear gd
 have hE12:=hE1.trans hE2
 have p1':=zab hE2 p1
 have p2':=zae hE2 p2
 repeat refine c_r ?_
 refine rg0 ?_
 repeat refine c_r ?_
 by_cases h0:zaF r.owner=0
 rotate_left
 ·refine zaB (t:=!decide (zaF r.owner=0)) (vr0) ?_ (fun h=>by rw[decide_eq_false h0]at h;cases h)
  intro _
  repeat refine c_r ?_
  refine rg0 ?_
  repeat refine c_r ?_
  refine rt0 Tryz.ntmps122 ?_
  exact⟨hE12,_,rfl,fun h=>absurd h h0⟩
 refine zaB (t:=!decide (zaF r.owner=0)) (vr0) (fun h=>by rw[decide_eq_true h0]at h;cases h) ?_
 intro _
 repeat refine c_r ?_
 refine rg2 p1' Nat.zero_add ?_
 repeat refine c_r ?_
 refine wc0 ?_ ?_
 ·intro _
  repeat (first|refine c_r ?_|refine rg0 ?_)
  refine rt0 Tryz.ntmps122 ?_
  exact⟨hE12,7,rfl,fun h=>by cases h⟩
 intro _
 repeat refine c_r ?_
 refine rq ?_;intro gd K hgd hK
 try simp (disch:=first|omega|assumption|rfl) only[go_sem,p2',Nat.zero_add]
 refine Fn.mono (zgN (hE0.trans hE12) h2 hf) ?_
 rintro _ w3 ⟨hE3,e,rfl,he⟩
 try simp only[go_sem]
 refine hK _ _ ?_;clear hK hgd;clear K;try clear gd
 repeat refine c_r ?_
 refine rt0 Tryz.ntmps122 ?_
 exact⟨hE12.trans hE3,e,rfl,fun h=>⟨h0,he h⟩⟩
theorem few_f{n:Nm}(h:few n=true):(∀l∈n,l.length≤1000000000)∧n.length≤1000000000:=by
 simp only[few,Bool.and_eq_true,List.all_eq_true,decide_eq_true_eq]at h
 exact⟨fun l hl=>by have:=h.2 l hl;omega,by omega⟩
set_option maxHeartbeats 1000000 in
theorem DFew_ok{w0 w:World}(hE0:Ext w0 w){cs:List Value}{d:DatL}(hd:DatAt w0 cs d):
  Fn Tryz.prog 172 #[.agg cs.toArray] w (fun v w'=>Ext w w'∧∃b:Bool,v= .bool b∧(b=true→DatF d)):=by
 obtain⟨nm,nu,tx,rw',rfl,⟨vals,⟨an,cn,rfl,hcn,hgn⟩,hvl,hvr⟩,⟨au,cu,rfl,hcu,hgu⟩,⟨at1,ct,rfl,hct,hgt⟩,⟨ar,cr,rfl,hcr,hgr⟩⟩:=hd.ex
 simp only[List.length_map]at hcu hgu hct hgt hcr hgr
 simp only[List.length_map]
 refine enter Tryz.func172 Tryz.ntmps172 rfl rfl ?_
 repeat refine c_r ?_
 refine rg0 ?_
 repeat refine c_r ?_
 refine zaA ?_
 intro w1 hE1 hs1 hA
 have p1:zaf w1 (some ⟨w.heap.size,1,Option.none⟩)=some (.slice an vals.length cn):=zac hA rfl
 have p2:zaf w1 (some ⟨w.heap.size,2,Option.none⟩)=some (.slice au d.nums.length cu):=zac hA rfl
 have p3:zaf w1 (some ⟨w.heap.size,3,Option.none⟩)=some (.slice at1 d.texts.length ct):=zac hA rfl
 have p4:zaf w1 (some ⟨w.heap.size,4,Option.none⟩)=some (.slice ar d.raw.length cr):=zac hA rfl
 refine zaC (Q:=fun e σ' ds' v'=>e= .normal∧ds'=[]∧σ' 1= .pointer (some ⟨w.heap.size,0,Option.none⟩)∧v'=w1∧∃bb,σ' 26= .bool bb∧(bb=false→vals.length≤8∧d.nums.length≤12∧d.texts.length≤40∧d.raw.length≤1100)) ?_ ?_
 ·by_cases hA1:(vals.length:Int)>8
  ·refine rq ?_;intro gd K hgd hK
   have hg4:∀n σ b,zas gd n σ (some (4,b))=zal (ev n σ (.tmp 9)) b:=(fun n σ b=>by rw[zad,show gd 4=some 9 from(by rw[hgd];rfl)];rfl);have hg10:∀n σ b,zas gd n σ (some (10,b))=zal (ev n σ (.tmp 15)) b:=(fun n σ b=>by rw[zad,show gd 10=some 15 from(by rw[hgd];rfl)];rfl);have hg16:∀n σ b,zas gd n σ (some (16,b))=zal (ev n σ (.tmp 21)) b:=(fun n σ b=>by rw[zad,show gd 16=some 21 from(by rw[hgd];rfl)];rfl)
   try simp (disch:=first|omega|assumption|rfl) only[go_sem,p1,Nat.zero_add,decide_eq_true hA1,zbY,↓hg4,↓hg10,↓hg16]
   refine hK _ _ ?_;clear hK hgd;clear K;try clear gd
   exact⟨rfl,rfl,vq0,rfl,_,vr0,fun h=>by cases h⟩
  by_cases hA2:(d.nums.length:Int)>12
  ·refine rq ?_;intro gd K hgd hK
   have hg4:∀n σ b,zas gd n σ (some (4,b))=zal (ev n σ (.tmp 9)) b:=(fun n σ b=>by rw[zad,show gd 4=some 9 from(by rw[hgd];rfl)];rfl);have hg10:∀n σ b,zas gd n σ (some (10,b))=zal (ev n σ (.tmp 15)) b:=(fun n σ b=>by rw[zad,show gd 10=some 15 from(by rw[hgd];rfl)];rfl);have hg16:∀n σ b,zas gd n σ (some (16,b))=zal (ev n σ (.tmp 21)) b:=(fun n σ b=>by rw[zad,show gd 16=some 21 from(by rw[hgd];rfl)];rfl)
   try simp (disch:=first|omega|assumption|rfl) only[go_sem,p1,p2,Nat.zero_add,decide_eq_false hA1,decide_eq_true hA2,zbY,↓hg4,↓hg10,↓hg16]
   refine hK _ _ ?_;clear hK hgd;clear K;try clear gd
   exact⟨rfl,rfl,vq0,rfl,_,vr0,fun h=>by cases h⟩
  by_cases hA3:(d.texts.length:Int)>40
  ·refine rq ?_;intro gd K hgd hK
   have hg4:∀n σ b,zas gd n σ (some (4,b))=zal (ev n σ (.tmp 9)) b:=(fun n σ b=>by rw[zad,show gd 4=some 9 from(by rw[hgd];rfl)];rfl);have hg10:∀n σ b,zas gd n σ (some (10,b))=zal (ev n σ (.tmp 15)) b:=(fun n σ b=>by rw[zad,show gd 10=some 15 from(by rw[hgd];rfl)];rfl);have hg16:∀n σ b,zas gd n σ (some (16,b))=zal (ev n σ (.tmp 21)) b:=(fun n σ b=>by rw[zad,show gd 16=some 21 from(by rw[hgd];rfl)];rfl)
   try simp (disch:=first|omega|assumption|rfl) only[go_sem,p1,p2,p3,Nat.zero_add,decide_eq_false hA1,decide_eq_false hA2,decide_eq_true hA3,zbY,↓hg4,↓hg10,↓hg16]
   refine hK _ _ ?_;clear hK hgd;clear K;try clear gd
   exact⟨rfl,rfl,vq0,rfl,_,vr0,fun h=>by cases h⟩
  by_cases hA4:(d.raw.length:Int)>1100
  ·refine rq ?_;intro gd K hgd hK
   have hg4:∀n σ b,zas gd n σ (some (4,b))=zal (ev n σ (.tmp 9)) b:=(fun n σ b=>by rw[zad,show gd 4=some 9 from(by rw[hgd];rfl)];rfl);have hg10:∀n σ b,zas gd n σ (some (10,b))=zal (ev n σ (.tmp 15)) b:=(fun n σ b=>by rw[zad,show gd 10=some 15 from(by rw[hgd];rfl)];rfl);have hg16:∀n σ b,zas gd n σ (some (16,b))=zal (ev n σ (.tmp 21)) b:=(fun n σ b=>by rw[zad,show gd 16=some 21 from(by rw[hgd];rfl)];rfl)
   try simp (disch:=first|omega|assumption|rfl) only[go_sem,p1,p2,p3,p4,Nat.zero_add,decide_eq_false hA1,decide_eq_false hA2,decide_eq_false hA3,decide_eq_true hA4,zbY,↓hg4,↓hg10,↓hg16]
   refine hK _ _ ?_;clear hK hgd;clear K;try clear gd
   exact⟨rfl,rfl,vq0,rfl,_,vr0,fun h=>by cases h⟩
  ·refine rq ?_;intro gd K hgd hK
   have hg4:∀n σ b,zas gd n σ (some (4,b))=zal (ev n σ (.tmp 9)) b:=(fun n σ b=>by rw[zad,show gd 4=some 9 from(by rw[hgd];rfl)];rfl);have hg10:∀n σ b,zas gd n σ (some (10,b))=zal (ev n σ (.tmp 15)) b:=(fun n σ b=>by rw[zad,show gd 10=some 15 from(by rw[hgd];rfl)];rfl);have hg16:∀n σ b,zas gd n σ (some (16,b))=zal (ev n σ (.tmp 21)) b:=(fun n σ b=>by rw[zad,show gd 16=some 21 from(by rw[hgd];rfl)];rfl)
   try simp (disch:=first|omega|assumption|rfl) only[go_sem,p1,p2,p3,p4,Nat.zero_add,decide_eq_false hA1,decide_eq_false hA2,decide_eq_false hA3,decide_eq_false hA4,zbY,↓hg4,↓hg10,↓hg16]
   refine hK _ _ ?_;clear hK hgd;clear K;try clear gd
   exact⟨rfl,rfl,vq0,rfl,_,vr0,fun _=>⟨by omega,by omega,by omega,by omega⟩⟩
 rintro _ σ1 _ v1 ⟨rfl,rfl,h1,hv1,bb,h26,hbb⟩
 rw[hv1]
 clear hv1 v1
 repeat refine c_r ?_
 refine zaB (t:=bb) ((vq1 h26)) ?_ ?_
 ·intro _
  repeat (first|refine c_r ?_|refine rg0 ?_)
  refine rt0 Tryz.ntmps172 ?_
  exact⟨hE1,false,rfl,fun h=>by cases h⟩
 intro hb
 obtain⟨ln,lu,lt,lr⟩:=hbb hb
 repeat refine c_r ?_
 refine rg0 ?_
 repeat refine c_r ?_
 refine zaC (Q:=fun e σ' ds' v'=>ds'=[]∧Ext w1 v'∧((e= .exit 0∧σ' 1= .pointer (some ⟨w.heap.size,0,Option.none⟩)∧∀n∈d.names,few n=true)∨(e= .ret∧σ' 2= .bool false))) ?_ ?_
 ·refine zap (fun m σ ds A=>ds=[]∧∃(i:Nat),i+m=vals.length∧σ 3=vi i∧σ 1= .pointer (some ⟨w.heap.size,0,Option.none⟩)∧Ext w1 A∧∀j (h:j<d.names.length),j<i→few d.names[j]=true) vals.length ?_ ?_
  ·exact⟨rfl,0,by omega,vr0,(vq1 h1),Keep.refl _ _,fun j h hj=>absurd hj (by omega)⟩
  clear h1
  rintro m σ ds A ⟨rfl,i,him,h3,h1,hEA,hlow⟩
  have q1:=zab hEA p1
  repeat refine c_r ?_
  refine rg4 h3 h1 q1 Nat.zero_add ?_
  repeat refine c_r ?_
  refine wc0 ?_ ?_
  ·intro hlt
   simp only[decide_eq_true_eq]at hlt
   have hi:i<vals.length:=by omega
   have hi0:(0:Int)≤(i:Int):=by omega
   have hi1:(i:Int)<(vals.length:Int):=by omega
   have hi1':(i:Int)+1=((i+1:Nat):Int):=by push_cast;rfl
   have hgi:=hgn i hi
   obtain⟨xN,rfl⟩:=Option.isSome_iff_exists.1 (zai hgi)
   have hgi':=zab (hE0.trans (hE1.trans hEA)) hgi
   have hrow:=hvr i hi (by omega)
   obtain⟨n,hn⟩:∃n,d.names[i]'(by omega)=n:=⟨_,rfl⟩
   rw[hn]at hrow
   obtain⟨hv,hhv⟩:∃hv,vals[i]=hv:=⟨_,rfl⟩
   rw[hhv]at hgi' hrow
   repeat refine c_r ?_
   refine rq ?_;intro gd K hgd hK
   try simp (disch:=first|omega|assumption|rfl) only[go_sem,h3,h1,q1,Nat.zero_add,hi0,hi1,hgi']
   refine Fn.mono (zhS A hv n (hrow.ext (hE0.trans (hE1.trans hEA)))) ?_
   rintro _ A2 ⟨rfl,hA2⟩
   try simp only[go_sem]
   refine hK _ _ ?_;clear hK hgd;clear K;try clear gd
   repeat refine c_r ?_
   refine zaB (t:=!few n) (vr0) ?_ ?_
   ·intro _
    repeat refine c_r ?_
    refine rg0 ?_
    repeat refine c_r ?_
    exact⟨rfl,hEA.trans hA2,.inr ⟨rfl,vq0⟩⟩
   ·intro hfn
    repeat refine c_r ?_
    refine rg2 h3 hi1' ?_
    repeat refine c_r ?_
    refine⟨m - 1,by omega,rfl,i+1,by omega,vq0,(vq1 h1),hEA.trans hA2,fun j hj hji=>?_⟩
    by_cases hj2:j=i
    ·subst hj2;rw[hn];simpa using hfn
    ·exact hlow j hj (by omega)
  ·intro hge
   simp only[decide_eq_false_iff_not]at hge
   repeat refine c_r ?_
   refine⟨rfl,hEA,.inl ⟨rfl,(vq1 h1),fun n hn=>?_⟩⟩
   obtain⟨j,hj,rfl⟩:=List.getElem_of_mem hn
   exact hlow j hj (by omega)
 clear h1
 rintro e σ4 _ A ⟨rfl,hEA,⟨rfl,h1,hall⟩| ⟨rfl,h2⟩⟩
 rotate_left
 ·repeat refine c_r ?_
  refine rt1 h2 Tryz.ntmps172 ?_
  exact⟨hE1.trans hEA,false,rfl,fun h=>by cases h⟩
 have q3:=zab hEA p3
 repeat refine c_r ?_
 refine rg0 ?_
 repeat refine c_r ?_
 refine zaC (Q:=fun e σ' ds' v'=>ds'=[]∧v'=A∧((e= .exit 2∧σ' 1= .pointer (some ⟨w.heap.size,0,Option.none⟩)∧∀l∈d.texts,l.length≤300)∨(e= .ret∧σ' 2= .bool false))) ?_ ?_
 ·refine zap (fun m σ ds B=>ds=[]∧∃(i:Nat),i+m=d.texts.length∧σ 4=vi i∧σ 1= .pointer (some ⟨w.heap.size,0,Option.none⟩)∧B=A∧∀j (h:j<d.texts.length),j<i→d.texts[j].length≤300) d.texts.length ?_ ?_
  ·exact⟨rfl,0,by omega,vr0,(vq1 h1),rfl,fun j h hj=>absurd hj (by omega)⟩
  clear h1
  rintro m σ ds B ⟨rfl,i,him,h4,h1,hB2,hlow⟩
  rw[hB2]
  clear hB2 B
  repeat refine c_r ?_
  refine rg4 h4 h1 q3 Nat.zero_add ?_
  repeat refine c_r ?_
  refine wc0 ?_ ?_
  ·intro hlt
   simp only[decide_eq_true_eq]at hlt
   have hi:i<d.texts.length:=by omega
   have hi0:(0:Int)≤(i:Int):=by omega
   have hi1:(i:Int)<(d.texts.length:Int):=by omega
   have hi1':(i:Int)+1=((i+1:Nat):Int):=by push_cast;rfl
   have hgi:=hgt i hi
   obtain⟨xT,rfl⟩:=Option.isSome_iff_exists.1 (zai hgi)
   have hgi':=zab (hE0.trans (hE1.trans hEA)) hgi
   rw[List.getElem_map]at hgi'
   repeat refine c_r ?_
   refine rg7 h4 h1 q3 Nat.zero_add hi0 hi1 hgi' ?_
   repeat refine c_r ?_
   refine wc0 ?_ ?_
   ·intro hgt2
    repeat refine c_r ?_
    refine rg0 ?_
    repeat refine c_r ?_
    exact⟨rfl,rfl,.inr ⟨rfl,vq0⟩⟩
   ·intro hgt2
    simp only[decide_eq_false_iff_not]at hgt2
    repeat refine c_r ?_
    refine rg2 h4 hi1' ?_
    repeat refine c_r ?_
    refine⟨m - 1,by omega,rfl,i+1,by omega,vq0,(vq1 h1),rfl,fun j hj hji=>?_⟩
    by_cases hj2:j=i
    ·subst hj2;omega
    ·exact hlow j hj (by omega)
  ·intro hge
   simp only[decide_eq_false_iff_not]at hge
   repeat refine c_r ?_
   refine⟨rfl,rfl,.inl ⟨rfl,(vq1 h1),fun l hl=>?_⟩⟩
   obtain⟨j,hj,rfl⟩:=List.getElem_of_mem hl
   exact hlow j hj (by omega)
 clear h1
 rintro e σ6 _ v1 ⟨rfl,hv1,⟨rfl,h1,htl⟩| ⟨rfl,h2⟩⟩
 rotate_left
 ·rw[hv1]
  repeat refine c_r ?_
  refine rt1 h2 Tryz.ntmps172 ?_
  exact⟨hE1.trans hEA,false,rfl,fun h=>by cases h⟩
 rw[hv1]
 clear hv1 v1
 repeat (first|refine c_r ?_|refine rg0 ?_)
 refine rt0 Tryz.ntmps172 ?_
 exact⟨hE1.trans hEA,true,rfl,fun _=>⟨fun n hn=>few_f (hall n hn),by omega,by omega,by omega,fun l hl=>by have:=htl l hl;omega,by omega,by omega⟩⟩
set_option maxHeartbeats 1000000 in
theorem RsFew_ok{w0 w:World}(hE0:Ext w0 w){lv:Value}{R:List RecL}(hl:Rows 7 (RecAt w0) w lv R):
  Fn Tryz.prog 121 #[lv] w (fun v w'=>Ext w w'∧∃b:Bool,v= .bool b∧(b=true→R.length≤60∧∀r∈R,few r.owner=true∧DatF r.dat)):=by
 obtain⟨aR,cR,rfl,hcR,hgR⟩:=hl.open
 refine enter Tryz.func121 Tryz.ntmps121 rfl rfl ?_
 repeat refine c_r ?_
 refine rg0 ?_
 repeat refine c_r ?_
 refine rg0 ?_
 repeat refine c_r ?_
 refine wc0 ?_ ?_
 ·intro _
  repeat (first|refine c_r ?_|refine rg0 ?_)
  refine rt0 Tryz.ntmps121 ?_
  exact⟨Keep.refl _ _,false,rfl,fun h=>by cases h⟩
 intro h60
 simp only[decide_eq_false_iff_not]at h60
 repeat refine c_r ?_
 refine rg0 ?_
 repeat refine c_r ?_
 refine zap (fun m σ ds A=>ds=[]∧∃(i:Nat),i+m=R.length∧σ 3=vi i∧σ 0= .slice aR R.length cR∧Ext w A∧∀j (h:j<R.length),j<i→few R[j].owner=true∧DatF R[j].dat) R.length ?_ ?_
 ·exact⟨rfl,0,by omega,vr0,vq0,Keep.refl _ _,fun j h hj=>absurd hj (by omega)⟩
 rintro m σ ds A ⟨rfl,i,him,h3,h0,hEA,hlow⟩
 repeat refine c_r ?_
 refine rg2 h3 h0 ?_
 repeat refine c_r ?_
 refine wc0 ?_ ?_
 ·intro hlt
  simp only[decide_eq_true_eq]at hlt
  have hi:i<R.length:=by omega
  have hi0:(0:Int)≤(i:Int):=by omega
  have hi1:(i:Int)<(R.length:Int):=by omega
  have hi1':(i:Int)+1=((i+1:Nat):Int):=by push_cast;rfl
  obtain⟨cr,hcr,hRr⟩:=hgR i hi
  obtain⟨r,hr⟩:∃r,R[i]=r:=⟨_,rfl⟩
  rw[hr]at hRr
  obtain⟨ow,dsc,hcrE,o1,o2,g0,g1,g2,gd⟩:=hRr.cells
  obtain⟨xR,rfl⟩:=Option.isSome_iff_exists.1 (zan hcr)
  obtain⟨xi,hxi⟩:∃xi,adr (some xR) (i*7)=some xi:=⟨_,rfl⟩
  rw[hxi]at hcr
  obtain⟨xd,hxd⟩:∃xd,adr (some xi) 2=some xd:=⟨_,rfl⟩
  have rc:∀{x},Ext w x→zaf x (some xi)=some ow∧zat x (some xd) 5=some dsc:=fun {x} hx=>by
   have hcx:=zae hx hcr
   have e0:=zaj hcx g0
   have e5:=za9 (m:=2) (k:=5) hcx
   rw[zak]at e0
   rw[hxd,gd]at e5
   exact⟨e0,e5⟩
  obtain⟨c0,_⟩:=rc hEA
  have hwA:=hE0.trans hEA
  repeat refine c_r ?_
  refine zaC (Q:=fun e σ' ds' v'=>e= .normal∧ds'=[]∧σ' 3=vi i∧σ' 0= .slice (some xR) R.length cR∧Ext A v'∧∃bb,σ' 28= .bool bb∧(bb=false→few r.owner=true∧DatF r.dat)) ?_ ?_
  ·cases hf:few r.owner with
   |false=>
    refine rq ?_;intro gd K hgd hK
    have hg7:∀n σ b,zas gd n σ (some (7,b))=zal (ev n σ (.tmp 20)) b:=(fun n σ b=>by rw[zad,show gd 7=some 20 from(by rw[hgd];rfl)];rfl)
    try simp (disch:=first|omega|assumption|rfl) only[go_sem,h0,h3,hi0,hi1,hxi,c0,zak]
    refine Fn.mono (zhS A ow r.owner (o1.ext hwA)) ?_
    rintro _ A2 ⟨rfl,hA2⟩
    rw[hf]
    try simp (disch:=first|omega|assumption|rfl) only[go_sem,Bool.not_false,↓hg7]
    refine hK _ _ ?_;clear hK hgd;clear K;try clear gd
    exact⟨rfl,rfl,(vq1 h3),(vq1 h0),hA2,_,vr0,fun h=>by cases h⟩
   |true=>
    refine rq ?_;intro gd K hgd hK
    have hg7:∀n σ b,zas gd n σ (some (7,b))=zal (ev n σ (.tmp 20)) b:=(fun n σ b=>by rw[zad,show gd 7=some 20 from(by rw[hgd];rfl)];rfl)
    try simp (disch:=first|omega|assumption|rfl) only[go_sem,h0,h3,hi0,hi1,hxi,c0,zak]
    refine Fn.mono (zhS A ow r.owner (o1.ext hwA)) ?_
    rintro _ A2 ⟨rfl,hA2⟩
    rw[hf]
    obtain⟨_,c5⟩:=rc (hEA.trans hA2)
    try simp (disch:=first|omega|assumption|rfl) only[go_sem,h0,h3,hi0,hi1,hxi,hxd,c5,Bool.not_true,↓hg7]
    refine Fn.mono (DFew_ok (hwA.trans hA2) o2) ?_
    rintro _ A3 ⟨hA3,b,rfl,hb⟩
    try simp (disch:=first|omega|assumption|rfl) only[go_sem,↓hg7]
    refine hK _ _ ?_;clear hK hgd;clear K;try clear gd
    exact⟨rfl,rfl,(vq1 h3),(vq1 h0),hA2.trans hA3,_,vr0,fun h=>⟨rfl,hb (by simpa using h)⟩⟩
  clear h3 h0
  rintro _ σ1 _ A1 ⟨rfl,rfl,h3,h0,hA1,bb,h28,hbb⟩
  repeat refine c_r ?_
  refine zaB (t:=bb) ((vq1 h28)) ?_ ?_
  ·intro _
   repeat (first|refine c_r ?_|refine rg0 ?_)
   refine rt0 Tryz.ntmps121 ?_
   exact⟨hEA.trans hA1,false,rfl,fun h=>by cases h⟩
  ·intro ht
   repeat refine c_r ?_
   refine rg2 h3 hi1' ?_
   repeat refine c_r ?_
   refine⟨m - 1,by omega,rfl,i+1,by omega,vq0,(vq1 h0),hEA.trans hA1,fun j hj hji=>?_⟩
   by_cases hj2:j=i
   ·subst hj2;rw[hr];exact hbb ht
   ·exact hlow j hj (by omega)
 ·intro hge
  simp only[decide_eq_false_iff_not]at hge
  repeat (first|refine c_r ?_|refine rg0 ?_)
  refine rt0 Tryz.ntmps121 ?_
  refine⟨hEA,true,rfl,fun _=>⟨by omega,fun r hr=>?_⟩⟩
  obtain⟨j,hj,rfl⟩:=List.getElem_of_mem hr
  exact hlow j hj (by omega)
structure zeF(R:List RecL):Prop where
 len:R.length≤60
 few:∀r∈R,few r.owner=true∧DatF r.dat
 own:∀r∈R,zaF r.owner=0
 names:∀r∈R,∀n∈r.dat.names,zaF n=0
 lead:∀r∈R,zgt r.dat.ty→r.dat.names.length=1
set_option maxHeartbeats 1000000 in
theorem zlC{w0 w:World}(hE0:Ext w0 w){lv:Value}{R:List RecL}(hl:Rows 7 (RecAt w0) w lv R):
  Fn Tryz.prog 55 #[lv] w (fun v w'=>Ext w w'∧∃b:Bool,v= .bool b∧(b=true→zeF R)):=by
 obtain⟨aR,cR,rfl,hcR,hgR⟩:=hl.open
 refine enter Tryz.func55 Tryz.ntmps55 rfl rfl ?_
 repeat refine c_r ?_
 refine rg0 ?_
 repeat refine c_r ?_
 refine rq ?_;intro gd K hgd hK
 try simp only[go_sem]
 refine Fn.mono (RsFew_ok hE0 hl) ?_
 rintro _ w1 ⟨hE1,b,rfl,hb⟩
 try simp only[go_sem]
 refine hK _ _ ?_;clear hK hgd;clear K;try clear gd
 repeat refine c_r ?_
 refine zaB (t:=!b) (vr0) ?_ ?_
 ·intro _
  repeat (first|refine c_r ?_|refine rg0 ?_)
  refine rt0 Tryz.ntmps55 ?_
  exact⟨hE1,false,rfl,fun h=>by cases h⟩
 intro hb2
 obtain⟨hRl,hRf⟩:=hb (by simpa using hb2)
 repeat refine c_r ?_
 refine rg0 ?_
 repeat refine c_r ?_
 refine zap (fun m σ ds A=>ds=[]∧∃(i:Nat),i+m=R.length∧σ 3=vi i∧σ 0= .slice aR R.length cR∧Ext w A∧∀j (h:j<R.length),j<i→zaF R[j].owner=0∧(∀n∈R[j].dat.names,zaF n=0)∧(zgt R[j].dat.ty→R[j].dat.names.length=1)) R.length ?_ ?_
 ·exact⟨rfl,0,by omega,vr0,vq0,hE1,fun j h hj=>absurd hj (by omega)⟩
 rintro m σ ds A ⟨rfl,i,him,h3,h0,hEA,hlow⟩
 repeat refine c_r ?_
 refine rg2 h3 h0 ?_
 repeat refine c_r ?_
 refine wc0 ?_ ?_
 ·intro hlt
  simp only[decide_eq_true_eq]at hlt
  have hi:i<R.length:=by omega
  have hi0:(0:Int)≤(i:Int):=by omega
  have hi1:(i:Int)<(R.length:Int):=by omega
  have hi1':(i:Int)+1=((i+1:Nat):Int):=by push_cast;rfl
  obtain⟨cr,hcr,hRr⟩:=hgR i hi
  obtain⟨r,hr⟩:∃r,R[i]=r:=⟨_,rfl⟩
  rw[hr]at hRr
  obtain⟨f1,f2⟩:=hRf r (hr▸List.getElem_mem hi)
  obtain⟨xR,rfl⟩:=Option.isSome_iff_exists.1 (zan hcr)
  obtain⟨xi,hxi⟩:∃xi,adr (some xR) (i*7)=some xi:=⟨_,rfl⟩
  rw[hxi]at hcr
  have hcA:=zae hEA hcr
  have hwA:=hE0.trans hEA
  repeat refine c_r ?_
  refine rq ?_;intro gd K hgd hK
  try simp (disch:=first|omega|assumption|rfl) only[go_sem,h0,h3,hi0,hi1,hxi,hcA]
  refine Fn.mono (zlE hwA hRr f2.nn) ?_
  rintro _ A2 ⟨hA2,cs',nm',rfl,hx⟩
  try simp only[go_sem]
  refine Fn.mono (zhM (Keep.refl _ A2) (hx.at (hwA.trans hA2)) f2 (few_f f1)) ?_
  rintro _ A3 ⟨hA3,e,rfl,he⟩
  try simp only[go_sem]
  refine hK _ _ ?_;clear hK hgd;clear K;try clear gd
  repeat refine c_r ?_
  by_cases h0e:e=0
  ·refine zaB (t:=!decide (e=0)) (vr0) (fun h=>by rw[decide_eq_true h0e]at h;cases h) ?_
   intro _
   repeat refine c_r ?_
   refine rg2 h3 hi1' ?_
   repeat refine c_r ?_
   refine⟨m - 1,by omega,rfl,i+1,by omega,vq0,(vq1 h0),hEA.trans (hA2.trans hA3),fun j hj hji=>?_⟩
   by_cases hj2:j=i
   ·subst hj2;rw[hr];exact he h0e
   ·exact hlow j hj (by omega)
  ·refine zaB (t:=!decide (e=0)) (vr0) ?_ (fun h=>by rw[decide_eq_false h0e]at h;cases h)
   intro _
   repeat (first|refine c_r ?_|refine rg0 ?_)
   refine rt0 Tryz.ntmps55 ?_
   exact⟨hEA.trans (hA2.trans hA3),false,rfl,fun h=>by cases h⟩
 ·intro hge
  simp only[decide_eq_false_iff_not]at hge
  repeat (first|refine c_r ?_|refine rg0 ?_)
  refine rt0 Tryz.ntmps55 ?_
  have hall:∀r∈R,zaF r.owner=0∧(∀n∈r.dat.names,zaF n=0)∧(zgt r.dat.ty→r.dat.names.length=1):=fun r hr=>by
   obtain⟨j,hj,rfl⟩:=List.getElem_of_mem hr
   exact hlow j hj (by omega)
  exact⟨hEA,true,rfl,fun _=>⟨hRl,hRf,fun r hr=>(hall r hr).1,fun r hr=>(hall r hr).2.1,fun r hr=>(hall r hr).2.2⟩⟩
theorem ZGood_ok{w0 w:World}(hE0:Ext w0 w){ov lv:Value}{o:Nm}{R:List RecL}(ho:Row w ov (o.map vs))(hl:Rows 7 (RecAt w0) w lv R):
  Fn Tryz.prog 16 #[ov,lv] w (fun v w'=>Ext w w'∧∃b:Bool,v= .bool b∧(b=true→zcT o=true∧zeF R)):=by
 refine enter Tryz.func16 Tryz.ntmps16 rfl rfl ?_
 repeat refine c_r ?_
 refine rg0 ?_
 repeat refine c_r ?_
 cases hg:zcT o with
 |false=>
  refine rq ?_;intro gd K hgd hK
  have hg2:∀n σ b,zas gd n σ (some (2,b))=zal (ev n σ (.tmp 7)) b:=(fun n σ b=>by rw[zad,show gd 2=some 7 from(by rw[hgd];rfl)];rfl)
  try simp only[go_sem]
  refine Fn.mono (zgP w ov o ho) ?_
  rintro _ w1 ⟨rfl,hE1⟩
  rw[hg]
  try simp (disch:=first|omega|assumption|rfl) only[go_sem,↓hg2]
  refine hK _ _ ?_;clear hK hgd;clear K;try clear gd
  repeat refine c_r ?_
  refine rt0 Tryz.ntmps16 ?_
  exact⟨hE1,false,rfl,fun h=>by cases h⟩
 |true=>
  refine rq ?_;intro gd K hgd hK
  have hg2:∀n σ b,zas gd n σ (some (2,b))=zal (ev n σ (.tmp 7)) b:=(fun n σ b=>by rw[zad,show gd 2=some 7 from(by rw[hgd];rfl)];rfl)
  try simp only[go_sem]
  refine Fn.mono (zgP w ov o ho) ?_
  rintro _ w1 ⟨rfl,hE1⟩
  rw[hg]
  try simp (disch:=first|omega|assumption|rfl) only[go_sem,↓hg2]
  refine Fn.mono (zlC (hE0.trans hE1) (hl.ext hE1)) ?_
  rintro _ w2 ⟨hE2,b,rfl,hb⟩
  try simp (disch:=first|omega|assumption|rfl) only[go_sem,↓hg2]
  refine hK _ _ ?_;clear hK hgd;clear K;try clear gd
  repeat refine c_r ?_
  refine rt0 Tryz.ntmps16 ?_
  exact⟨hE1.trans hE2,b,rfl,fun h=>⟨rfl,hb h⟩⟩
end Go.Proofs.YtopbbjdembnfdaaGreat
