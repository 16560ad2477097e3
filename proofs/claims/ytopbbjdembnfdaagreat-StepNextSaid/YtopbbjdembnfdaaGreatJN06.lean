/-
  Texts of a proof, joined: E5, E6, E7, B4, B5, B6, M5cm, E8, K23, B0, L2, B1.
  Conditions: none.
-/
import Derived.Test.YtopbbjdembnfdaaGreatJN05
import Derived.Test.YtopbbjdembnfdaaGreatJN01
import Derived.Test.YtopbbjdembnfdaaGreatJN02
import Derived.Lib.Builder
import Derived.Lib.AppendStr
import Derived.Lib.UnsafeStr
import Derived.Test.YtopbbjdembnfdaaGreatProg
import Derived.Shelf.Small.Strs
import Derived.Shelf.Strings.Builder1
set_option linter.unusedVariables false
set_option linter.unusedSimpArgs false
set_option linter.defProp false
set_option linter.unnecessarySimpa false
namespace Go.Proofs.YtopbbjdembnfdaaGreat
open Go
set_option maxRecDepth 10000
theorem Row.keepB{w x:World}{v:Value}{l:List Value}{S:Nat→Prop}{B:Nat}(h:Row w v l)(hk:Keep S w x)(hB:BlkB B w v)(hS:∀b,B≤b→b<w.heap.size→¬S b):Row x v l:=
 h.blocks fun a n c hv=>hk.block _ (hB a n c hv).2 (hS _ (hB a n c hv).1 (hB a n c hv).2)
theorem Own.blk{B:Nat}{w:World}{e:TypeId}{v:Value}{l:List Value}(h:Own B w e v l):BlkB B w v:=fun a n c hv=>(h.rowB).2 a n c hv
theorem zde{w:World}{v:Value}{n:Nm}(hr:Row w v (n.map vs))(hlen:n.length≤1000000000000):
  Fn Tryz.prog 84 #[v] w (fun u w'=>Own w.heap.size w' 9 u (n.map vs)∧Ext w w'):=by
 have hr':=hr
 obtain⟨a,c,rfl,hc,hl⟩:=hr
 refine enter Tryz.func84 Tryz.ntmps84 rfl rfl ?_
 repeat refine c_r ?_
 refine rg0 ?_
 repeat refine c_r ?_
 refine rq ?_;intro gd K hgd hK
 try simp only[go_sem]
 refine zla (by rfl) (by rfl) (by rfl) ?_
 try simp only[go_sem]
 refine hK _ _ ?_;clear hK hgd;clear K;try clear gd
 repeat refine c_r ?_
 cases a with
 |none=>
  have:n=[]:=by
   cases n with
   |nil=>rfl
   |cons x L=>have:=hl 0 (by simp);simp[zaf,adr]at this
  subst this
  refine wc0 ?_ ?_
  ·intro _
   repeat refine c_r ?_
   refine rg0 ?_
   repeat refine c_r ?_
   refine rt0 Tryz.ntmps84 ?_
   exact⟨Own.nil _ _ _,Keep.refl _ _⟩
  ·intro h;cases h
 |some a=>
  refine wc0 ?_ ?_
  ·intro h;cases h
  intro _
  repeat refine c_r ?_
  refine rq ?_;intro gd K hgd hK
  try simp only[go_sem]
  refine zlq (z:=vs []) (by rfl) (by rfl) (by rfl) (by rfl) ?_
  intro w1 hE1 hs1 ho1
  try simp only[go_sem]
  refine zdU (B:=w.heap.size) ho1 (hr'.ext hE1) (by rfl) (by rfl) (by rfl) (by rfl) (by rfl) (by rfl) (by rfl) (by rfl) (zfd _) (by simp;omega) (by decide) (by omega) ?_
  intro v' w2 ho2 hE2 _ _
  try simp only[go_sem]
  refine hK _ _ ?_;clear hK hgd;clear K;try clear gd
  repeat refine c_r ?_
  refine rt0 Tryz.ntmps84 ?_
  exact⟨by simpa using ho2,hE2 w hE1 (Nat.le_refl _)⟩
theorem ziV{α:Type}{p:α→Bool}{l pre suf:List α}{x:α}(h:l=pre++x::suf)(hp:∀y∈pre,p y=false)(hx:p x=true):l.find? p=some x:=by
 rw[h,List.find?_append]
 have:pre.find? p=Option.none:=by
  rw[List.find?_eq_none]
  intro y hy
  rw[hp y hy];exact Bool.false_ne_true
 rw[this]
 simp[hx]
theorem zf3{α:Type}{p:α→Bool}{l:List α}(hp:∀y∈l,p y=false):l.find? p=Option.none:=by
 rw[List.find?_eq_none]
 intro y hy
 rw[hp y hy];exact Bool.false_ne_true
theorem CutOf_ok{w0 w:World}{ov lv nv:Value}{o n:Nm}{R:List RecL}(hz:ZnAt w0 w ov lv o R)(hn:Row w nv (n.map vs))(hok:NmS n):
  Fn Tryz.prog 27 #[.agg #[ov,lv],nv] w (fun v w'=>Ext w w'∧∃cv,v= .tuple #[cv,.bool (cutL o R n).isSome]∧Row w' cv (((cutL o R n).getD []).map vs)):=by
 obtain⟨ao,co,hov,_⟩:=id hz.org
 obtain⟨al,cl,hlv,_⟩:=hz.recs.open
 obtain⟨an,cn,hnv,_⟩:=id hn
 rw[List.length_map]at hov hnv
 rw[hov,hlv,hnv]
 refine enter Tryz.func27 Tryz.ntmps27 rfl rfl ?_
 repeat refine c_r ?_
 refine rg0 ?_
 repeat refine c_r ?_
 rw[←hov,←hlv,←hnv]
 simp only[zam]
 refine zdt ?_
 intro w1 hE1 hs1 hA hB hC
 have p0:zaf w1 (some ⟨w.heap.size,0,Option.none⟩)=some ov:=zac hA rfl
 have hz1:=hz.ext hE1
 refine rq ?_;intro gd K hgd hK
 try simp (disch:=first|omega|assumption|rfl) only[go_sem,p0,Nat.add_zero]
 refine Fn.mono (zcQ _ _ _ _ _ (hn.ext hE1) hz1.org hok.lb hz.lb (by have:=hok.len;omega) (by have:=hz.ol;omega)) ?_
 rintro _ w2 ⟨rfl,hE2⟩
 try simp only[go_sem]
 refine hK _ _ ?_;clear hK hgd;clear K;try clear gd
 have hB2:=hE2.at hB
 have hC2:=hE2.at hC
 have hEw2:=hE1.trans hE2
 have fin:∀{σ':Sto} {Z:World} {cv:Value} {b:Bool},σ' 4= .pointer (some ⟨w.heap.size+1,0,Option.none⟩)→σ' 5= .pointer (some ⟨w.heap.size+1+1,0,Option.none⟩)→Z.heap[w.heap.size+1]? =some (.cells #[cv] 23 (0,0))→Z.heap[w.heap.size+1+1]? =some (.cells #[.bool b] 4 (0,0))→
   resV Tryz.prog 30 σ' Z [.cell 4 23,.cell 5 4]=some [cv,.bool b]:=fun h4 h5 c4 c5=>
  zgj (x:=⟨w.heap.size+1,0,Option.none⟩) ((vq1 h4)) rfl rfl (zac c4 rfl) (zgj (x:=⟨w.heap.size+1+1,0,Option.none⟩) ((vq1 h5)) rfl rfl (zac c5 rfl) zau)
 repeat refine c_r ?_
 refine wc0 ?_ ?_
 ·intro hu
  simp only[Bool.not_eq_true']at hu
  have hcut:cutL o R n=Option.none:=by unfold cutL;rw[hu];rfl
  repeat refine c_r ?_
  refine rq ?_;intro gd K hgd hK
  try simp only[go_sem]
  refine zaV (P:=Tryz.prog) (t:=23) (j:=0) (l:=[.slice Option.none 0 0]) hB2 (by simp) rfl rfl rfl ?_
  intro z1 hz1' hbz1 hkz1
  try simp only[go_sem]
  refine zaV (P:=Tryz.prog) (t:=4) (j:=0) (l:=[.bool false]) ((hkz1.block _ (by have:=hE2.size;omega) (by omega)).trans hC2) (by simp) rfl rfl rfl ?_
  intro z2 hz2' hbz2 hkz2
  try simp only[go_sem]
  refine hK _ _ ?_;clear hK hgd;clear K;try clear gd
  have hkz:Keep (fun b=>b=w.heap.size+1∨b=w.heap.size+1+1) w2 z2:=(hkz1.mono (fun b _ h=> .inl h)).trans (hkz2.mono (fun b _ h=> .inr h))
  have c4:=(hkz2.block (w.heap.size+1) (by have:=hE2.size;omega) (by omega)).trans hbz1
  repeat refine c_r ?_
  refine zay (.inr rfl) Tryz.ntmps27 rfl (fin (vq0) (vq0) (by simpa using c4) (by simpa using hbz2)) ?_
  exact⟨Keep.to_ext hEw2 rfl (fun b hb=>by omega) hkz,_,by rw[hcut];rfl,by rw[hcut];exact⟨Option.none,0,rfl,Nat.le_refl _,fun j h=>absurd h (by simp)⟩⟩
 intro hu
 simp only[Bool.not_eq_false']at hu
 have hA2:=hE2.at hA
 have d2:=zah (n:=2) (l:=[ov,lv]) hA2 rfl
 repeat refine c_r ?_
 refine rq ?_;intro gd K hgd hK
 try simp (disch:=first|omega|assumption|rfl) only[go_sem,d2]
 refine Fn.mono (ziv ⟨_,_,_,hnv⟩) ?_
 rintro _ w3 ⟨rfl,hE3,hs3,hbz,hbn⟩
 try simp only[go_sem]
 refine hK _ _ ?_;clear hK hgd;clear K;try clear gd
 have hEw3:=hEw2.trans hE3
 have hz3:=hz.ext hEw3
 have hn3:=hn.ext hEw3
 have s1:=hE1.size
 have s2:=hE2.size
 have hA3:=hE3.at hA2
 have hB3:=hE3.at hB2
 have hC3:=hE3.at hC2
 repeat refine c_r ?_
 refine zdH (g:=125) (cap:=#[.pointer (some ⟨w2.heap.size+1,0,Option.none⟩),.pointer (some ⟨w2.heap.size,0,Option.none⟩)]) (vq0) rfl (zlj (C:=fun b=>b=w.heap.size+1∨b=w.heap.size+1+1) hbn hbz hn3 hz3.org (by omega) (by omega) hz.ol hok.len) (Keep.refl _ _) (Nat.le_refl _) (fun b hb=>by omega)
  (fun x B args h=>by obtain⟨v,h,_⟩:=h;rw[h];rfl)
  (fun pre B=>Ext w3 B∧∀x∈pre,cutP o R x=false)
  (fun c pre B=>c= .ret∧∃pre' x cv,pre=pre'++ [x]∧cutP o R x=true∧(∀y∈pre',cutP o R y=false)∧Ext w B∧B.heap[w.heap.size+1]? =some (.cells #[cv] 23 (0,0))∧B.heap[w.heap.size+1+1]? =some (.cells #[.bool true] 4 (0,0))∧Row B cv (x.map vs)∧BlkB (w3.heap.size+2) B cv) ?_ ?_ ?_ ?_ ?_ ?_
 ·rintro pre B B' ⟨hEB,hp⟩ hk
  exact⟨Keep.to_ext hEB rfl (fun b hb=>by unfold two at hb;omega) hk,hp⟩
 ·rintro c pre B B' ⟨rfl,pre',x,cv,rfl,h1,h2,hEB,c4,c5,hr,hb⟩ hk
  exact⟨rfl,pre',x,cv,rfl,h1,h2,Keep.to_ext hEB rfl (fun b hb=>by unfold two at hb;omega) hk,(hk.block _ (Array.getElem?_eq_some_iff.1 c4).1 (by unfold two;omega)).trans c4,(hk.block _ (Array.getElem?_eq_some_iff.1 c5).1 (by unfold two;omega)).trans c5,hr.keepB hk hb (fun b hb _=>by unfold two;omega),hb.ext hk.size⟩
 ·exact⟨Keep.refl _ _,fun x h=>absurd h (by simp)⟩
 ·rintro lp pre x suf B args hxs hszB ⟨hEB,hp⟩ ⟨xv,rfl,hxr⟩
  have hxn:∃k,k≤n.length∧x=n.drop k:=by
   have:x∈za8 o n:=by rw[hxs];simp
   unfold za8 at this
   split at this
   ·obtain⟨i,hi,h⟩:=zbH.1 this
    exact⟨i,by omega,h⟩
   ·cases this
  obtain⟨kx,hkx,rfl⟩:=hxn
  obtain⟨x,hx⟩:∃x,n.drop kx=x:=⟨_,rfl⟩
  have hxok:NmS x:=hx▸hok.drop kx
  rw[hx]at hxr hxs ⊢
  obtain⟨ax,cx,hxv,_⟩:=id hxr
  rw[List.length_map]at hxv
  have hol:=hz.ol
  have hxl:=hxok.len
  refine rq ?_;intro gd K hgd hK
  try simp only[go_sem]
  refine hK _ _ ?_;clear hK hgd;clear K;try clear gd
  refine zav ?_
  refine⟨rfl,KeepB.refl _ _ _,fun Y hY=>?_⟩
  have hEY:Ext w3 Y:=Keep.to_ext hEB rfl (fun b hb=>by unfold two at hb;omega) hY
  have hzY:=hz3.ext hEY
  have p0:zaf Y (some ⟨w.heap.size,0,Option.none⟩)=some ov:=zac (hEY.at hA3) rfl
  have d2:=zah (n:=2) (l:=[ov,lv]) (hEY.at hA3) rfl
  have hYs:=hY.size
  rw[hov]at p0
  repeat refine c_r ?_
  refine zaC (Q:=fun e σ' ds' v'=>e= .normal∧ds'=[]∧σ' 6=xv∧σ' 4= .pointer (some ⟨w.heap.size+1,0,Option.none⟩)∧σ' 5= .pointer (some ⟨w.heap.size+1+1,0,Option.none⟩)∧Ext Y v'∧σ' 26= .bool (cutP o R x)) ?_ ?_
  ·by_cases hl:(o.length:Int)<(x.length:Int)
   ·refine rq ?_;intro gd K hgd hK
    have hg6:∀n σ b,zas gd n σ (some (6,b))=zal (ev n σ (.tmp 22)) b:=(fun n σ b=>by rw[zad,show gd 6=some 22 from(by rw[hgd];rfl)];rfl)
    try simp (disch:=first|omega|assumption|rfl) only[go_sem,hxv,p0,d2,decide_eq_true hl,Nat.add_zero,↓hg6]
    rw[←hxv]
    refine Fn.mono (Has_ok hzY (hxr.ext hEY) hxok) ?_
    rintro _ Y2 ⟨rfl,hY2⟩
    try simp only[go_sem]
    refine hK _ _ ?_;clear hK hgd;clear K;try clear gd
    refine⟨rfl,rfl,vq0,vq0,vq0,hY2,?_⟩
    unfold cutP hasL
    rw[show decide (o.length<x.length)=true from decide_eq_true (by omega),Bool.true_and]
    simp only[go_sem]
   ·refine rq ?_;intro gd K hgd hK
    have hg6:∀n σ b,zas gd n σ (some (6,b))=zal (ev n σ (.tmp 22)) b:=(fun n σ b=>by rw[zad,show gd 6=some 22 from(by rw[hgd];rfl)];rfl)
    try simp (disch:=first|omega|assumption|rfl) only[go_sem,hxv,p0,decide_eq_false hl,Nat.add_zero,↓hg6]
    rw[←hxv]
    refine hK _ _ ?_;clear hK hgd;clear K;try clear gd
    refine⟨rfl,rfl,vq0,vq0,vq0,Keep.refl _ _,?_⟩
    unfold cutP hasL
    rw[show decide (o.length<x.length)=false from decide_eq_false (by omega),Bool.false_and]
    simp only[go_sem]
  rintro _ σ1 _ Y1 ⟨rfl,rfl,h6,h4,h5,hY1,h26⟩
  repeat refine c_r ?_
  refine zaB (t:=cutP o R x) ((vq1 h26)) ?_ ?_
  ·intro ht
   repeat refine c_r ?_
   refine rq ?_;intro gd K hgd hK
   try simp (disch:=first|omega|assumption|rfl) only[go_sem,h6,h4,h5]
   refine Fn.mono (zde (hxr.ext (hEY.trans hY1)) hxok.len) ?_
   rintro u Y2 ⟨hou,hY2⟩
   try simp only[go_sem]
   obtain⟨au,cu,hu'⟩:=hou.slice
   have hur:=hou.row
   have hub:=hou.blk
   rw[hu']at hur hub
   rw[List.length_map]at hu' hur hub
   rw[hu']
   obtain⟨_,_,he,hcc,hgg⟩:=id hur
   injection he with e1 e2 e3
   subst e1 e3
   rw[List.length_map]at hcc
   refine Fn.mono (P_cs.Clip_ok hcc) ?_
   rintro _ y0 ⟨rfl,hy0⟩
   try simp (disch:=first|omega|assumption|rfl) only[go_sem,h4,h5]
   rw[hy0]
   clear hy0 y0
   have hYY:=(hEY.trans hY1).trans hY2
   have s5:=hY1.size
   have s6:=hY2.size
   refine zaV (P:=Tryz.prog) (t:=23) (j:=0) (l:=[.slice Option.none 0 0]) (Ext.at hYY hB3) (by simp) rfl rfl rfl ?_
   intro z1 hz1' hbz1 hkz1
   try simp (disch:=first|omega|assumption|rfl) only[go_sem,h5]
   refine zaV (P:=Tryz.prog) (t:=4) (j:=0) (l:=[.bool false]) ((hkz1.block _ (by omega) (by omega)).trans (Ext.at hYY hC3)) (by simp) rfl rfl rfl ?_
   intro z2 hz2' hbz2 hkz2
   try simp only[go_sem]
   refine hK _ _ ?_;clear hK hgd;clear K;try clear gd
   have hkz:Keep (fun b=>b=w.heap.size+1∨b=w.heap.size+1+1) Y2 z2:=(hkz1.mono (fun b _ h=> .inl h)).trans (hkz2.mono (fun b _ h=> .inr h))
   have c4:=(hkz2.block (w.heap.size+1) (by omega) (by omega)).trans hbz1
   have hrc:Row Y2 (.slice au x.length x.length) (x.map vs):=⟨au,x.length,by rw[List.length_map],by rw[List.length_map];exact Nat.le_refl _,hgg⟩
   have hbc:BlkB (w3.heap.size+2) Y2 (.slice au x.length x.length):=hub.same.mono (by omega)
   repeat refine c_r ?_
   refine⟨⟨rfl,pre,x,_,rfl,ht,hp,Keep.to_ext (hEw3.trans hYY) rfl (fun b hb=>by omega) hkz,by simpa using c4,by simpa using hbz2,hrc.keepB hkz hbc (fun b hb _=>by omega),hbc.ext hkz.size⟩,KeepB.trans ((hY1.trans hY2).toB (by omega) (fun _ _ h=>h.elim)) (hkz.toB (by omega) (fun i _ h=>h))⟩
  ·intro ht
   repeat refine c_r ?_
   refine⟨⟨hEY.trans hY1,fun y hy=>?_⟩,hY1.toB (by omega) (fun _ _ h=>h.elim)⟩
   rcases List.mem_append.1 hy with hy|hy
   ·exact hp y hy
   ·rw[List.mem_singleton.1 hy];exact ht
 ·intro B hszB ⟨hEB,hp⟩ hD
  have hcut:cutL o R n=Option.none:=by unfold cutL;rw[hu];exact zf3 hp
  repeat refine c_r ?_
  refine rq ?_;intro gd K hgd hK
  try simp only[go_sem]
  refine zaV (P:=Tryz.prog) (t:=23) (j:=0) (l:=[.slice Option.none 0 0]) (hEB.at hB3) (by simp) rfl rfl rfl ?_
  intro z1 hz1' hbz1 hkz1
  try simp only[go_sem]
  refine zaV (P:=Tryz.prog) (t:=4) (j:=0) (l:=[.bool false]) ((hkz1.block _ (by omega) (by omega)).trans (hEB.at hC3)) (by simp) rfl rfl rfl ?_
  intro z2 hz2' hbz2 hkz2
  try simp only[go_sem]
  refine hK _ _ ?_;clear hK hgd;clear K;try clear gd
  have hkz:Keep (fun b=>b=w.heap.size+1∨b=w.heap.size+1+1) B z2:=(hkz1.mono (fun b _ h=> .inl h)).trans (hkz2.mono (fun b _ h=> .inr h))
  have c4:=(hkz2.block (w.heap.size+1) (by omega) (by omega)).trans hbz1
  repeat refine c_r ?_
  refine zbW (.inr rfl) Tryz.ntmps27 rfl ((hkz.block _ (by omega) (by omega)).trans hD) ?_
  intro Z hkZ hsZ
  refine⟨_,fin (vq0) (vq0) ((hkZ.block _ (by omega) (by omega)).trans (by simpa using c4)) ((hkZ.block _ (by omega) (by omega)).trans (by simpa using hbz2)),Keep.to_ext (Keep.to_ext (hEw3.trans hEB) rfl (fun b hb=>by omega) hkz) rfl (fun b hb=>by omega) hkZ,_,by rw[hcut];rfl,by rw[hcut];exact⟨Option.none,0,rfl,Nat.le_refl _,fun j h=>absurd h (by simp)⟩⟩
 ·rintro c pre x0 suf B hszB hxs ⟨rfl,pre',x,cv,hpre,h1,h2,hEB,c4,c5,hr,hb⟩ hD
  obtain⟨rfl,h3⟩:=List.append_inj' hpre rfl
  have hx0:x0=x:=by simpa using h3
  subst hx0
  have hcut:cutL o R n=some x0:=by unfold cutL;rw[hu];exact ziV hxs h2 h1
  repeat refine c_r ?_
  refine zbW (.inr rfl) Tryz.ntmps27 rfl hD ?_
  intro Z hkZ hsZ
  refine⟨_,fin (vq0) (vq0) ((hkZ.block _ (by omega) (by omega)).trans c4) ((hkZ.block _ (by omega) (by omega)).trans c5),Keep.to_ext hEB rfl (fun b hb=>by omega) hkZ,cv,by rw[hcut];rfl,by rw[hcut];exact hr.keepB hkZ hb (fun b hb _=>by omega)⟩
theorem zd5{id:Nat}{Q:Post}{e:Exit}{σ:Sto}{ds:List Deferred}{w:World}(he:e= .normal∨e= .exit id)(h:Q .normal σ ds w):zcS id Q e σ ds w:=by
 rcases he with rfl|rfl
 ·exact zbI h
 ·exact zbV h
theorem Where_ok{w0 w:World}{ov lv nv:Value}{o n:Nm}{R:List RecL}(hz:ZnAt w0 w ov lv o R)(hn:Row w nv (n.map vs))(hok:NmS n):
  Fn Tryz.prog 58 #[.agg #[ov,lv],nv] w (fun v w'=>v=vi (zeY o R n)∧Ext w w'):=by
 obtain⟨ao,co,hov,_⟩:=id hz.org
 obtain⟨al,cl,hlv,_⟩:=hz.recs.open
 obtain⟨an,cn,hnv,_⟩:=id hn
 rw[List.length_map]at hov hnv
 rw[hov,hlv,hnv]
 refine enter Tryz.func58 Tryz.ntmps58 rfl rfl ?_
 repeat refine c_r ?_
 refine rg0 ?_
 repeat refine c_r ?_
 rw[←hov,←hlv,←hnv]
 refine zaA ?_
 intro w1 hE1 hs1 hA
 have p0:zaf w1 (some ⟨w.heap.size,0,Option.none⟩)=some ov:=zac hA rfl
 have hz1:=hz.ext hE1
 refine rq ?_;intro gd K hgd hK
 try simp (disch:=first|omega|assumption|rfl) only[go_sem,p0,Nat.add_zero]
 refine Fn.mono (zcQ _ _ _ _ _ (hn.ext hE1) hz1.org hok.lb hz.lb (by have:=hok.len;omega) (by have:=hz.ol;omega)) ?_
 rintro _ w2 ⟨rfl,hE2⟩
 try simp only[go_sem]
 refine hK _ _ ?_;clear hK hgd;clear K;try clear gd
 repeat refine c_r ?_
 refine wc0 ?_ ?_
 ·intro hu
  simp only[Bool.not_eq_true']at hu
  repeat (first|refine c_r ?_|refine rg0 ?_)
  refine rt0 Tryz.ntmps58 ?_
  exact⟨by unfold zeY;rw[hu];rfl,hE1.trans hE2⟩
 intro hu
 simp only[Bool.not_eq_false']at hu
 have d2:=zah (n:=2) (l:=[ov,lv]) (hE2.at hA) rfl
 repeat refine c_r ?_
 refine rq ?_;intro gd K hgd hK
 try simp (disch:=first|omega|assumption|rfl) only[go_sem,d2]
 refine Fn.mono (CutOf_ok (hz1.ext hE2) (hn.ext (hE1.trans hE2)) hok) ?_
 rintro _ w3 ⟨hE3,cv,rfl,hcv⟩
 try simp only[go_sem]
 refine hK _ _ ?_;clear hK hgd;clear K;try clear gd
 obtain⟨ac,cc,hcv',_⟩:=id hcv
 rw[List.length_map]at hcv'
 have hE:=(hE1.trans hE2).trans hE3
 cases hc:cutL o R n with
 |none=>
  rw[hc]at hcv' hcv
  repeat (first|refine c_r ?_|refine rg0 ?_)
  refine wc0 ?_ ?_
  ·intro _
   repeat (first|refine c_r ?_|refine rg0 ?_)
   refine rt0 Tryz.ntmps58 ?_
   exact⟨by unfold zeY;rw[hu,hc];rfl,hE⟩
  ·intro h;simp at h
 |some c=>
  rw[hc]at hcv' hcv
  simp only[Option.getD_some]at hcv'
  repeat refine c_r ?_
  refine rg0 ?_
  repeat refine c_r ?_
  refine wc0 ?_ ?_
  ·intro h;simp at h
  intro _
  repeat refine c_r ?_
  refine rg2 hcv' hnv ?_
  repeat refine c_r ?_
  refine wc0 ?_ ?_
  ·intro hl
   simp only[decide_eq_true_eq]at hl
   repeat (first|refine c_r ?_|refine rg0 ?_)
   refine rt0 Tryz.ntmps58 ?_
   refine⟨?_,hE⟩
   unfold zeY
   rw[hu,hc]
   simp only[if_true]
   rw[if_pos (by omega)]
  ·intro hl
   simp only[decide_eq_false_iff_not]at hl
   repeat (first|refine c_r ?_|refine rg0 ?_)
   refine rt0 Tryz.ntmps58 ?_
   refine⟨?_,hE⟩
   unfold zeY
   rw[hu,hc]
   simp only[if_true]
   rw[if_neg (by omega)]
theorem zgW{α:Type}{p:α→Bool}{l pre suf:List α}{x:α}(h:l=pre++x::suf)(hp:∀y∈pre,p y=true)(hx:p x=false):l.takeWhile p=pre:=by
 rw[h,List.takeWhile_append_of_pos hp,List.takeWhile_cons_of_neg (by rw[hx];exact Bool.false_ne_true),List.append_nil]
theorem zgh{α:Type}{p:α→Bool}{l:List α}(hp:∀y∈l,p y=true):l.takeWhile p=l:=by
 have:=List.takeWhile_append_of_pos (l₂:=[]) hp
 simpa using this
theorem ziu{w0 w:World}{ov lv nv:Value}{o n:Nm}{R:List RecL}(hz:ZnAt w0 w ov lv o R)(hn:Row w nv (n.map vs))(hok:NmS n):
  Fn Tryz.prog 134 #[.agg #[ov,lv],nv] w (fun v w'=>Row w' v ((zbM o R n).map vs)∧Ext w w'):=by
 obtain⟨ao,co,hov,_⟩:=id hz.org
 obtain⟨al,cl,hlv,_⟩:=hz.recs.open
 obtain⟨an,cn,hnv,_⟩:=id hn
 rw[List.length_map]at hov hnv
 rw[hov,hlv,hnv]
 refine enter Tryz.func134 Tryz.ntmps134 rfl rfl ?_
 repeat refine c_r ?_
 refine rg0 ?_
 repeat refine c_r ?_
 rw[←hov,←hlv,←hnv]
 refine zaA ?_
 intro w1 hE1 hs1 hA
 refine rq ?_;intro gd K hgd hK
 try simp only[go_sem]
 refine zlq (z:=vs []) (by rfl) (by rfl) (by rfl) (by rfl) ?_
 intro w2 hE2 hs2 ho2
 try simp only[go_sem]
 have hB3:=zaw w2 (.cells #[.slice Option.none 0 0] 23 (0,0))
 have hE3:=Ext.alloc w2 (.cells #[.slice Option.none 0 0] 23 (0,0))
 have hs3:=zam w2 (.cells #[.slice Option.none 0 0] 23 (0,0))
 revert hB3 hE3 hs3
 generalize w2.alloc (.cells #[.slice Option.none 0 0] 23 (0,0))=w3
 intro hB3 hE3 hs3
 refine zaV (P:=Tryz.prog) (t:=23) (j:=0) (l:=[.slice Option.none 0 0]) hB3 (by simp) rfl rfl rfl ?_
 intro w4 hs4 hB4 hk4
 try simp only[go_sem]
 refine hK _ _ ?_;clear hK hgd;clear K;try clear gd
 obtain⟨b5,hb5⟩:∃b5,w2.heap.size=b5:=⟨_,rfl⟩
 rw[hb5]at hB4 hk4 hs3 ⊢
 have hE14:Ext w1 w4:=Keep.to_ext (hE2.trans hE3) rfl (fun b hb=>by have:=hE2.size;omega) hk4
 have hE4:=hE1.trans hE14
 have hA4:=hE14.at hA
 have hro4:Row w4 (.slice (some ⟨w1.heap.size,0,Option.none⟩) 0 0) (([]:Nm).map vs):=⟨_,_,rfl,Nat.le_refl _,fun j h=>absurd h (by simp)⟩
 simp only[List.set_cons_zero]at hB4
 have hbw:w.heap.size<b5:=by have:=hE2.size;omega
 have hb4:b5<w4.heap.size:=by omega
 have p0:zaf w4 (some ⟨w.heap.size,0,Option.none⟩)=some ov:=zac hA4 rfl
 have hz4:=hz.ext hE4
 have hn4:=hn.ext hE4
 clear hk4 hs4 hB3 hE3 hs3 ho2 hs2
 repeat refine c_r ?_
 refine rq ?_;intro gd K hgd hK
 try simp (disch:=first|omega|assumption|rfl) only[go_sem,p0,Nat.add_zero]
 refine Fn.mono (zcQ _ _ _ _ _ hn4 hz4.org hok.lb hz.lb (by have:=hok.len;omega) (by have:=hz.ol;omega)) ?_
 rintro _ w5 ⟨rfl,hE5⟩
 try simp only[go_sem]
 refine hK _ _ ?_;clear hK hgd;clear K;try clear gd
 repeat refine c_r ?_
 refine wc0 ?_ ?_
 ·intro hu
  simp only[Bool.not_eq_true']at hu
  have q5:zaf w5 (some ⟨b5,0,Option.none⟩)=some (.slice (some ⟨w1.heap.size,0,Option.none⟩) 0 0):=zab hE5 (zac hB4 rfl)
  repeat (first|refine c_r ?_| (refine zcj (by rfl) ?_;intro gd K hgd hK;simp (disch:=first|omega|assumption|rfl) only[go_sem,q5];refine hK _ _ ?_;clear hK hgd;clear K gd))
  refine rt0 Tryz.ntmps134 ?_
  refine⟨?_,hE4.trans hE5⟩
  have:zbM o R n=[]:=by unfold zbM;rw[hu];rfl
  rw[this];exact hro4.ext hE5
 intro hu
 simp only[Bool.not_eq_false']at hu
 have d2:=zah (n:=2) (l:=[ov,lv]) (hE5.at hA4) rfl
 have hz5:=hz4.ext hE5
 repeat refine c_r ?_
 refine rq ?_;intro gd K hgd hK
 try simp (disch:=first|omega|assumption|rfl) only[go_sem,d2]
 refine Fn.mono (ziv ⟨_,_,_,hnv⟩) ?_
 rintro _ w6 ⟨rfl,hE6,hs6,hbz,hbn⟩
 try simp only[go_sem]
 refine hK _ _ ?_;clear hK hgd;clear K;try clear gd
 have hE46:=hE5.trans hE6
 have hz6:=hz5.ext hE6
 have hn6:=hn4.ext hE46
 have hA6:=Ext.at hE46 hA4
 have hB6:=Ext.at hE46 hB4
 have s5:=hE5.size
 have s6:=hE4.size
 have hdm:∀{x},x∈za8 o n→NmS x:=fun {x} hx=>by
  unfold za8 at hx
  split at hx
  ·obtain⟨i,hi,h⟩:=zbH.1 hx
   rw[h];exact hok.drop i
  ·cases hx
 repeat refine c_r ?_
 refine zaC (Q:=fun e σ' ds' v'=>(e= .normal∨e= .exit 0)∧ds'=[{target:= .collected w6.heap.size,args:=#[]}]∧v'.heap[w6.heap.size]? =some (.deferred (some []))∧σ' 5= .pointer (some ⟨b5,0,Option.none⟩)∧∃xv,v'.heap[b5]? =some (.cells #[xv] 23 (0,0))∧Row w xv ((zbM o R n).map vs)∧KeepB w6.heap.size (fun b=>b=b5) w6 v') ?_ ?_
 ·refine zdH (g:=125) (cap:=#[.pointer (some ⟨w5.heap.size+1,0,Option.none⟩),.pointer (some ⟨w5.heap.size,0,Option.none⟩)]) (vq0) rfl (zlj (C:=fun b=>b=b5) hbn hbz hn hz6.org (by omega) (by omega) hz.ol hok.len) (Keep.refl _ _) (Nat.le_refl _) (fun b hb=>by omega)
   (fun x B args h=>by obtain⟨v,h,_⟩:=h;rw[h];rfl)
   (fun pre B=>KeepB w6.heap.size (fun b=>b=b5) w6 B∧(∀x∈pre,zaM o R x=true)∧∃xv,B.heap[b5]? =some (.cells #[xv] 23 (0,0))∧Row w xv ((pre.getLast?.getD []).map vs))
   (fun c pre B=>c= .exit 0∧KeepB w6.heap.size (fun b=>b=b5) w6 B∧∃pre' x,pre=pre'++ [x]∧zaM o R x=false∧(∀y∈pre',zaM o R y=true)∧∃xv,B.heap[b5]? =some (.cells #[xv] 23 (0,0))∧Row w xv ((pre'.getLast?.getD []).map vs)) ?_ ?_ ?_ ?_ ?_ ?_
  ·rintro pre B B' ⟨hK,hp,xv,hb,hr⟩ hk
   exact⟨hK.trans (hk.toB (by have:=hK.size;omega) (fun i hi h=>by unfold two at h;omega)),hp,xv,(hk.block _ (Array.getElem?_eq_some_iff.1 hb).1 (by unfold two;omega)).trans hb,hr⟩
  ·rintro c pre B B' ⟨rfl,hK,pre',x,rfl,h1,h2,xv,hb,hr⟩ hk
   exact⟨rfl,hK.trans (hk.toB (by have:=hK.size;omega) (fun i hi h=>by unfold two at h;omega)),pre',x,rfl,h1,h2,xv,(hk.block _ (Array.getElem?_eq_some_iff.1 hb).1 (by unfold two;omega)).trans hb,hr⟩
  ·exact⟨KeepB.refl _ _ _,fun x h=>absurd h (by simp),_,hB6,by
    obtain⟨a,c,e,h1,h2⟩:=hro4
    exact⟨a,c,e,h1,fun j h=>absurd h (by simp)⟩⟩
  ·rintro lp pre x suf B args hxs hszB ⟨hK,hp,xv0,hb,hr⟩ ⟨xv,rfl,hxr⟩
   have hxok:NmS x:=hdm (by rw[hxs];simp)
   refine rq ?_;intro gd K hgd hK
   try simp only[go_sem]
   refine hK _ _ ?_;clear hK hgd;clear K;try clear gd
   refine zav ?_
   refine⟨rfl,KeepB.refl _ _ _,fun Y hY=>?_⟩
   have hKY:KeepB w6.heap.size (fun b=>b=b5) w6 Y:=hK.trans (hY.toB (by have:=hK.size;omega) (fun i hi h=>by unfold two at h;omega))
   have hEY:Ext w4 w6:=hE46
   have hbY:=(hY.block _ (Array.getElem?_eq_some_iff.1 hb).1 (by unfold two;omega)).trans hb
   have hAY:Y.heap[w.heap.size]? =some (.cells #[ov,lv] 34 (0,0)):=(hKY.block _ (by omega) (by omega)).trans hA6
   have hwY:Ext w Y:=zc2 (hE4.trans hE46) hKY (by omega) (fun b hb=>by omega)
   have d2:=zah (n:=2) (l:=[ov,lv]) hAY rfl
   have hYs:=hKY.size
   have hYB:=hY.size
   have hzY:=hz.ext hwY
   have hxY:Row Y xv (x.map vs):=hxr.ext hwY
   repeat refine c_r ?_
   refine rq ?_;intro gd K hgd hK
   try simp (disch:=first|omega|assumption|rfl) only[go_sem,d2]
   refine Fn.mono (zhT hzY hxY hxok) ?_
   rintro _ Y2 ⟨rfl,hY2⟩
   try simp only[go_sem]
   refine hK _ _ ?_;clear hK hgd;clear K;try clear gd
   have hKY2:=hKY.trans (hY2.toB (n0:=w6.heap.size) (C:=fun b=>b=b5) (by omega) (fun _ _ h=>h.elim))
   have hbY2:=Ext.at hY2 hbY
   repeat refine c_r ?_
   refine wc0 ?_ ?_
   ·intro hne
    simp only[Bool.not_eq_true']at hne
    repeat refine c_r ?_
    exact⟨⟨rfl,hKY2,pre,x,rfl,hne,hp,xv0,hbY2,hr⟩,hY2.toB (by omega) (fun _ _ h=>h.elim)⟩
   ·intro hex
    simp only[Bool.not_eq_false']at hex
    obtain⟨ax,nx,cx,hxv⟩:∃a n c,xv= .slice a n c:=by
     obtain⟨a,c,h,_⟩:=hxr
     exact⟨_,_,_,h⟩
    repeat refine c_r ?_
    refine rq ?_;intro gd K hgd hK
    try simp only[go_sem]
    refine zaV (P:=Tryz.prog) (t:=23) (j:=0) (l:=[xv0]) hbY2 (by simp) (by rw[hxv];rfl) rfl rfl ?_
    intro z1 hz1' hbz1 hkz1
    try simp only[go_sem]
    refine hK _ _ ?_;clear hK hgd;clear K;try clear gd
    repeat refine c_r ?_
    have hkz:=hkz1.toB (n0:=w6.heap.size) (C:=fun b=>b=b5) (by have:=hY2.size;omega) (fun i _ h=>h)
    refine⟨⟨hKY2.trans hkz,fun y hy=>?_,xv,by simpa using hbz1,by simpa using hxr⟩,(hY2.toB (by omega) (fun _ _ h=>h.elim)).trans (hkz1.toB (by have:=hY2.size;omega) (fun i _ h=>h))⟩
    rcases List.mem_append.1 hy with hy|hy
    ·exact hp y hy
    ·rw[List.mem_singleton.1 hy];exact hex
  ·intro B hszB ⟨hK,hp,xv,hb,hr⟩ hD
   refine⟨.inl rfl,rfl,hD,vq0,xv,hb,?_,hK⟩
   have:zbM o R n=(za8 o n).getLast?.getD []:=by unfold zbM;rw[hu,zgh hp];rfl
   rw[this];exact hr
  ·rintro c pre x0 suf B hszB hxs ⟨rfl,hK,pre',x,hpre,h1,h2,xv,hb,hr⟩ hD
   obtain⟨rfl,h3⟩:=List.append_inj' hpre rfl
   have hx0:x0=x:=by simpa using h3
   subst hx0
   refine zfC ?_
   refine⟨.inr rfl,rfl,hD,vq0,xv,hb,?_,hK⟩
   have:zbM o R n=pre.getLast?.getD []:=by unfold zbM;rw[hu,zgW hxs h2 h1];rfl
   rw[this];exact hr
 ·rintro e σ' _ v' ⟨he,rfl,hD,h5,xv,hb,hr,hK⟩
  refine zd5 he ?_
  have hwv:Ext w v':=zc2 (hE4.trans hE46) hK (by omega) (fun b hb=>by omega)
  have q5:zaf v' (some ⟨b5,0,Option.none⟩)=some xv:=zac hb rfl
  have hel:(zbM o R n).length≤1000000000000:=by
   unfold zbM
   rw[hu]
   simp only[if_true]
   cases hq:((za8 o n).takeWhile (zaM o R)).getLast? with
   |none=>simp
   |some x=>
    have h1:=List.mem_of_getLast? hq
    exact(hdm ((List.takeWhile_sublist _).subset h1)).len
  repeat refine c_r ?_
  refine rq ?_;intro gd K hgd hK
  try simp (disch:=first|omega|assumption|rfl) only[go_sem,h5,q5]
  refine Fn.mono (zde (hr.ext hwv) hel) ?_
  rintro u Y2 ⟨hou,hY2⟩
  try simp only[go_sem]
  obtain⟨au,cu,hu'⟩:=hou.slice
  have hur:=hou.row
  have hub:=hou.blk
  rw[hu']at hur hub
  rw[List.length_map]at hu' hur hub
  rw[hu']
  obtain⟨_,_,he,hcc,hgg⟩:=id hur
  injection he with e1 e2 e3
  subst e1 e3
  rw[List.length_map]at hcc
  refine Fn.mono (P_cs.Clip_ok hcc) ?_
  rintro _ y0 ⟨rfl,hy0⟩
  try simp only[go_sem]
  rw[hy0]
  clear hy0 y0
  refine hK _ _ ?_;clear hK hgd;clear K;try clear gd
  repeat refine c_r ?_
  have hrc:Row Y2 (.slice au (zbM o R n).length (zbM o R n).length) ((zbM o R n).map vs):=⟨au,(zbM o R n).length,by rw[List.length_map],by rw[List.length_map];exact Nat.le_refl _,hgg⟩
  have s7:=hK.size
  refine zdQ (v:= .slice au (zbM o R n).length (zbM o R n).length) (.inr rfl) (by rfl) Tryz.ntmps134 (vq0) (Ext.at hY2 hD) ?_
  intro Z hkZ hsZ
  have hlt:w6.heap.size<v'.heap.size:=(Array.getElem?_eq_some_iff.1 hD).1
  exact⟨hrc.keepB hkZ (hub.same.mono (B':=w6.heap.size+1) (by omega)) (fun b hb _=>by omega),Keep.to_ext (hwv.trans hY2) rfl (fun b hb=>by omega) hkZ⟩
theorem zeS{o n:Nm}{R:List RecL}:(zbM o R n).length≤n.length:=by
 unfold zbM
 split
 ·cases hq:((za8 o n).takeWhile (zaM o R)).getLast? with
  |none=>simp
  |some x=>
   have h1:=(List.takeWhile_sublist _).subset (List.mem_of_getLast? hq)
   unfold za8 at h1
   split at h1
   ·obtain⟨i,hi,h⟩:=zbH.1 h1
    simp only[Option.getD_some]
    rw[h];simp
   ·cases h1
 ·simp
theorem zld{o n:Nm}{R:List RecL}(hn:LB n):LB (zbM o R n):=by
 unfold zbM
 split
 ·cases hq:((za8 o n).takeWhile (zaM o R)).getLast? with
  |none=>intro l hl;cases hl
  |some x=>
   have h1:=(List.takeWhile_sublist _).subset (List.mem_of_getLast? hq)
   unfold za8 at h1
   split at h1
   ·obtain⟨i,hi,h⟩:=zbH.1 h1
    simp only[Option.getD_some]
    rw[h];exact hn.drop i
   ·cases h1
 ·intro l hl;cases hl
theorem zhY{o n:Nm}{R:List RecL}(h:NmS n)(hl:n.length≤1000000):NmS (zbq o R n):=by
 refine⟨fun l hl=>?_,?_⟩
 ·rcases List.mem_cons.1 hl with rfl|hl
  ·decide
  ·exact zld h.lb l hl
 ·have:=zeS (o:=o) (R:=R) (n:=n)
  unfold zbq
  rw[List.length_cons];omega
theorem zlz{w0 w:World}{ov lv nv:Value}{o n:Nm}{R:List RecL}(hz:ZnAt w0 w ov lv o R)(hn:Row w nv (n.map vs))(hok:NmS n)(hnl:n.length≤1000000):
  Fn Tryz.prog 65 #[.agg #[ov,lv],nv] w (fun v w'=>Ext w w'∧∃sv,v= .tuple #[sv,.bool (zaZ o R n).isSome]∧Row w' sv (((zaZ o R n).getD []).map vs)):=by
 obtain⟨ao,co,hov,_⟩:=id hz.org
 obtain⟨al,cl,hlv,_⟩:=hz.recs.open
 have hst:=zhY (o:=o) (R:=R) hok hnl
 rw[hov,hlv]
 refine enter Tryz.func65 Tryz.ntmps65 rfl rfl ?_
 repeat refine c_r ?_
 refine rg0 ?_
 repeat refine c_r ?_
 rw[←hov,←hlv]
 refine zaA ?_
 intro w1 hE1 hs1 hA
 have d2:=zah (n:=2) (l:=[ov,lv]) hA rfl
 have hz1:=hz.ext hE1
 refine rq ?_;intro gd K hgd hK
 try simp (disch:=first|omega|assumption|rfl) only[go_sem,d2]
 refine Fn.mono (ziu hz1 (hn.ext hE1) hok) ?_
 rintro ev w2 ⟨hev,hE2⟩
 try simp only[go_sem]
 refine Fn.mono (Child_ok w2 ev starL (zbM o R n) hev (by have:=zeS (o:=o) (R:=R) (n:=n);omega)) ?_
 rintro sv w3 ⟨hsv,hE3⟩
 try simp only[go_sem]
 have hsr:Row w3 sv ((zbq o R n).map vs):=hsv.1
 obtain⟨as1,cs1,hsv',_⟩:=id hsr
 have hB3:=zaw w3 (.cells #[.slice Option.none 0 0] 23 (0,0))
 have hE4:=Ext.alloc w3 (.cells #[.slice Option.none 0 0] 23 (0,0))
 have hs4:=zam w3 (.cells #[.slice Option.none 0 0] 23 (0,0))
 revert hB3 hE4 hs4
 generalize w3.alloc (.cells #[.slice Option.none 0 0] 23 (0,0))=w4
 intro hB3 hE4 hs4
 refine zaV (P:=Tryz.prog) (t:=23) (j:=0) (l:=[.slice Option.none 0 0]) hB3 (by simp) (by rw[hsv'];rfl) rfl rfl ?_
 intro w5 hs5 hB5 hk5
 try simp only[go_sem]
 refine hK _ _ ?_;clear hK hgd;clear K;try clear gd
 simp only[List.set_cons_zero]at hB5
 have hE35:Ext w3 w5:=Keep.to_ext hE4 rfl (fun b hb=>by omega) hk5
 have hE15:=(hE2.trans hE3).trans hE35
 have hz5:=hz1.ext hE15
 have p1:zaf w5 (some ⟨w.heap.size,1,Option.none⟩)=some lv:=zac (Ext.at hE15 hA) rfl
 have q1:zaf w5 (some ⟨w3.heap.size,0,Option.none⟩)=some sv:=zac hB5 rfl
 repeat refine c_r ?_
 refine rq ?_;intro gd K hgd hK
 try simp (disch:=first|omega|assumption|rfl) only[go_sem,p1,Nat.zero_add]
 refine Fn.mono (zdK (cap:=[.pointer (some ⟨w3.heap.size,0,Option.none⟩)]) hz5.recs (zhV hz5.e0 hB5 (hsr.ext hE35) hst hz.ok) hz.rl) ?_
 rintro _ w6 ⟨rfl,hE6⟩
 try simp only[go_sem]
 refine hK _ _ ?_;clear hK hgd;clear K;try clear gd
 have hE:=(hE1.trans hE15).trans hE6
 have q1':=zab hE6 q1
 have hany:(R.any fun r=>decide (zaq r.owner=zaq (zbq o R n)))=ownsL R (zbq o R n):=rfl
 rw[hany]
 repeat refine c_r ?_
 refine wc0 ?_ ?_
 ·intro h
  simp only[Bool.not_eq_true']at h
  repeat refine c_r ?_
  refine rg0 ?_
  repeat refine c_r ?_
  have hso:zaZ o R n=Option.none:=by unfold zaZ;rw[h];rfl
  refine zay (.inr rfl) Tryz.ntmps65 rfl (zar (v:= .slice Option.none 0 0) (vr0) (zar (v:= .bool false) (vr0) zau)) ?_
  exact⟨hE,_,by rw[hso];rfl,by rw[hso];exact⟨Option.none,0,rfl,Nat.le_refl _,fun j h=>absurd h (by simp)⟩⟩
 ·intro h
  simp only[Bool.not_eq_false']at h
  repeat refine c_r ?_
  refine rg1 q1' ?_
  repeat refine c_r ?_
  have hso:zaZ o R n=some (zbq o R n):=by unfold zaZ;rw[h];rfl
  refine zay (.inr rfl) Tryz.ntmps65 rfl (zar (v:=sv) (vr0) (zar (v:= .bool true) (vr0) zau)) ?_
  exact⟨hE,_,by rw[hso];rfl,by rw[hso];exact hsr.ext (hE35.trans hE6)⟩
theorem Glue_ok{w0 w:World}{ov lv hv:Value}{o h:Nm}{R:List RecL}(hz:ZnAt w0 w ov lv o R)(hn:Row w hv (h.map vs))(hok:NmS h):
  Fn Tryz.prog 130 #[.agg #[ov,lv],hv] w (fun v w'=>Ext w w'∧Rows 5 (DatAt w0) w' v (zbd R h)∧BlkB w.heap.size w' v):=by
 obtain⟨ao,co,hov,_⟩:=id hz.org
 obtain⟨al,cl,hlv,_⟩:=hz.recs.open
 rw[hov,hlv]
 refine enter Tryz.func130 Tryz.ntmps130 rfl rfl ?_
 repeat refine c_r ?_
 refine rg0 ?_
 repeat refine c_r ?_
 rw[←hov,←hlv]
 refine zaA ?_
 intro w1 hE1 hs1 hA
 refine rg0 ?_
 repeat refine c_r ?_
 refine rq ?_;intro gd K hgd hK
 try simp only[go_sem]
 refine bs_two (z:=vi 0) (by rfl) (by rfl) (by rfl) (by rfl) (by rfl) (by rfl) ?_
 intro w2 hE2 hs2 ho2
 try simp only[go_sem]
 refine hK _ _ ?_;clear hK hgd;clear K;try clear gd
 have hro:=ho2.row
 have hE12:=hE1.trans hE2
 repeat refine c_r ?_
 refine zap (fun m σ ds A=>ds=[]∧∃(i:Nat) (gv:Value),i+m=2∧σ 12=vi i∧σ 11=vi (2:Nat)∧σ 10= .slice (some ⟨w1.heap.size,0,Option.none⟩) 2 2∧σ 1=hv∧σ 2= .pointer (some ⟨w.heap.size,0,Option.none⟩)∧σ 5=gv∧Ext w2 A∧Owns 5 (DatAt w0) w2.heap.size A 59 gv ((([1,28]:List Int).take i).flatMap (datC R h))) 2 ?_ ?_
 ·exact⟨rfl,0,.slice Option.none 0 0,by omega,vr0,vr0,vq0,vq0,vq0,vq0,Keep.refl _ _,Owns.nil _ _ _ _ _⟩
 rintro m σ ds A ⟨rfl,i,gv,him,h12,h11,h10,h1,h2,h5,hEA,hgv⟩
 have hE2A:=hE12.trans hEA
 have hzA:=hz.ext hE2A
 repeat refine c_r ?_
 refine rq ?_;intro gd K hgd hK;simp (disch:=first|omega|assumption|rfl) only[go_sem,h12,h11];refine hK _ _ ?_;clear hK hgd;clear K gd
 repeat refine c_r ?_
 refine wc0 ?_ ?_
 ·intro hlt
  simp only[decide_eq_true_eq]at hlt
  have hi2:i<2:=by omega
  have hi0:(0:Int)≤(i:Int):=by omega
  have hi1:(i:Int)<((2:Nat):Int):=by omega
  have hi1':(i:Int)+1=((i+1:Nat):Int):=by push_cast;rfl
  obtain⟨t,ht⟩:∃t,([1,28]:List Int)[i]'(by simpa using hi2)=t:=⟨_,rfl⟩
  have hcell:zaf A (some ⟨w1.heap.size,i,Option.none⟩)=some (vi t):=by
   obtain⟨a,c,e,hc,hg⟩:=hro.ext hEA
   injection e with e1 e2 e3
   have:=hg i (by simpa using hi2)
   rw[←e1,za6,Nat.zero_add]at this
   rw[this,←ht]
   have hcase:i=0∨i=1:=by omega
   rcases hcase with rfl|rfl<;>rfl
  have hfl:(([1,28]:List Int).take (i+1)).flatMap (datC R h)=(([1,28]:List Int).take i).flatMap (datC R h)++datC R h t:=by
   rw[zao (by simpa using hi2),List.flatMap_append,ht];simp
  have p1:zaf A (some ⟨w.heap.size,1,Option.none⟩)=some lv:=zac (Ext.at (hE2.trans hEA) hA) rfl
  repeat refine c_r ?_
  refine rq ?_;intro gd K hgd hK
  try simp (disch:=first|omega|assumption|rfl) only[go_sem,h10,h12,hi0,hi1,hcell,Nat.zero_add]
  refine hK _ _ ?_;clear hK hgd;clear K;try clear gd
  repeat refine c_r ?_
  refine rq ?_;intro gd K hgd hK
  try simp (disch:=first|omega|assumption|rfl) only[go_sem,h1,h2,p1,Nat.zero_add]
  refine Fn.mono (Of_ok hzA.e0 hzA.recs (hn.ext hE2A) hok.lb (by have:=hok.len;omega) hz.ok hz.rl) ?_
  rintro _ A1 ⟨hE3,ow,ty,tl,dv,rfl,how,_,hdv,hdb⟩
  try simp only[go_sem]
  have hB3:=zaw A1 (.cells #[.slice Option.none 0 0,vi 0,v32 0,.slice Option.none 0 0] 209 (0,0))
  have hE4:=Ext.alloc A1 (.cells #[.slice Option.none 0 0,vi 0,v32 0,.slice Option.none 0 0] 209 (0,0))
  have hs4:=zam A1 (.cells #[.slice Option.none 0 0,vi 0,v32 0,.slice Option.none 0 0] 209 (0,0))
  revert hB3 hE4 hs4
  generalize A1.alloc (.cells #[.slice Option.none 0 0,vi 0,v32 0,.slice Option.none 0 0] 209 (0,0))=A2
  intro hB3 hE4 hs4
  obtain⟨ad,cd,hdv',_⟩:=hdv.open
  refine zaE (P:=Tryz.prog) (t:=209) (l:=[ow,vi ty,v32 tl,dv]) hB3 rfl (fun v h=>by
   simp at h
   rcases h with rfl|rfl|rfl|rfl
   ·exact how
   ·rfl
   ·rfl
   ·rw[hdv'];rfl) rfl rfl ?_
  intro A3 hs5 hB5 hk5
  try simp only[go_sem]
  refine hK _ _ ?_;clear hK hgd;clear K;try clear gd
  have hE5:Ext A1 A3:=Keep.to_ext hE4 rfl (fun b hb=>by omega) hk5
  have hEAA:=(hEA.trans hE3).trans hE5
  have q3:zaf A3 (some ⟨A1.heap.size,3,Option.none⟩)=some dv:=zcl hB5 rfl
  repeat refine c_r ?_
  refine rq ?_;intro gd K hgd hK
  try simp (disch:=first|omega|assumption|rfl) only[go_sem,h5,q3,Nat.zero_add]
  have hlen1:∀u:Int,(datC R h u).length≤1000000000:=fun u=>by
   have h1:=zcb (R.filter (isL h u))
   have h2:=List.length_filter_le (isL h u) R
   have h3:=hz.rl
   unfold datC ofC
   rw[List.length_map];omega
  have hlen2:((([1,28]:List Int).take i).flatMap (datC R h)).length≤2000000000:=by
   have a1:=hlen1 1
   have a2:=hlen1 28
   have hcase:i=0∨i=1:=by omega
   rcases hcase with rfl|rfl
   ·simp
   ·simp;omega
  refine zaI (zaR w0) (((hgv.ext hE3).ext hE5)) (hdv.ext hE5) (by rfl) (by rfl) (by rfl) (by rfl) (by rfl) (by rfl) (by decide) (by rfl) (by rfl) (by have:=hlen1 t;unfold datC at this hlen2 ⊢;omega) (by decide) hEAA.size ?_
  intro gv' A4 hgv' hE6 _ _
  try simp only[go_sem]
  refine hK _ _ ?_;clear hK hgd;clear K;try clear gd
  repeat refine c_r ?_
  refine rg2 h12 hi1' ?_
  repeat refine c_r ?_
  exact⟨m - 1,by omega,rfl,i+1,gv',by omega,vq0,by simp only[go_sem,h11],(vq1 h10),(vq1 h1),(vq1 h2),vq0,hE6 w2 hEAA (Nat.le_refl _),by rw[hfl];exact hgv'⟩
 ·intro hge
  simp only[decide_eq_false_iff_not]at hge
  have hi:i=2:=by omega
  subst hi
  have hgl:(([1,28]:List Int).take 2).flatMap (datC R h)=zbd R h:=by simp[zbd]
  rw[hgl]at hgv
  obtain⟨ag,cg,hgv',hcg,_⟩:=hgv.rows.open
  rw[hgv']at hgv
  repeat refine c_r ?_
  refine rq ?_;intro gd K hgd hK
  try simp (disch:=first|omega|assumption|rfl) only[go_sem,h5]
  rw[hgv']
  refine Fn.mono (P_cd.Clip_ok hcg) ?_
  rintro _ y0 ⟨rfl,hy0⟩
  try simp only[go_sem]
  rw[hy0]
  clear hy0 y0
  refine hK _ _ ?_;clear hK hgd;clear K;try clear gd
  repeat refine c_r ?_
  refine rt0 Tryz.ntmps130 ?_
  have h3:=hgv.rows.take (m:=(zbd R h).length) (c2:=(zbd R h).length) (Nat.le_refl _) (Nat.le_refl _)
  rw[List.take_length]at h3
  exact⟨hE2A,h3,hgv.blk.same.mono hE12.size⟩
def errL(l:Lab):Int:=if l=[] then 8 else if 63<l.length then 3 else 0
def lenN(n:Nm):Nat:=1+(n.map fun l=>1+l.length).sum
def zaF(n:Nm):Int:=match n.find? (fun l=>decide (errL l≠0)) with
 |some l=>errL l
 |Option.none=>if 255<lenN n then 3 else 0
theorem zlO(w:World)(l:Lab)(hl:l.length≤9000000000000000000):Fn Tryz.prog 168 #[vs l] w (fun v w'=>v=vi (errL l)∧Ext w w'):=by
 refine enter Tryz.func168 Tryz.ntmps168 rfl rfl ?_
 repeat refine c_r ?_
 refine rg0 ?_
 repeat refine c_r ?_
 refine rg0 ?_
 repeat refine c_r ?_
 refine wc0 ?_ ?_
 ·intro h
  simp only[decide_eq_true_eq]at h
  repeat (first|refine c_r ?_|refine rg0 ?_)
  refine rt0 Tryz.ntmps168 ?_
  exact⟨by unfold errL;rw[if_pos h],Keep.refl _ _⟩
 intro h
 simp only[decide_eq_false_iff_not]at h
 repeat refine c_r ?_
 refine rg0 ?_
 repeat refine c_r ?_
 refine wc0 ?_ ?_
 ·intro h2
  simp only[decide_eq_true_eq]at h2
  repeat (first|refine c_r ?_|refine rg0 ?_)
  refine rt0 Tryz.ntmps168 ?_
  exact⟨by unfold errL;rw[if_neg h,if_pos (by omega)],Keep.refl _ _⟩
 ·intro h2
  simp only[decide_eq_false_iff_not]at h2
  repeat (first|refine c_r ?_|refine rg0 ?_)
  refine rt0 Tryz.ntmps168 ?_
  exact⟨by unfold errL;rw[if_neg h,if_neg (by omega)],Keep.refl _ _⟩
theorem zfP(w:World)(l:Lab)(hl:l.length≤9000000000000000000):Fn Tryz.prog 123 #[vs l] w (fun v w'=>v=vi (errL l)∧Ext w w'):=by
 refine enter Tryz.func123 Tryz.ntmps123 rfl rfl ?_
 repeat refine c_r ?_
 refine rg0 ?_
 repeat refine c_r ?_
 refine rg0 ?_
 repeat refine c_r ?_
 refine wc0 ?_ ?_
 ·intro h
  simp only[decide_eq_true_eq]at h
  repeat (first|refine c_r ?_|refine rg0 ?_)
  refine rt0 Tryz.ntmps123 ?_
  exact⟨by unfold errL;rw[if_pos h],Keep.refl _ _⟩
 intro h
 simp only[decide_eq_false_iff_not]at h
 repeat refine c_r ?_
 refine rg0 ?_
 repeat refine c_r ?_
 refine wc0 ?_ ?_
 ·intro h2
  simp only[decide_eq_true_eq]at h2
  repeat (first|refine c_r ?_|refine rg0 ?_)
  refine rt0 Tryz.ntmps123 ?_
  exact⟨by unfold errL;rw[if_neg h,if_pos (by omega)],Keep.refl _ _⟩
 ·intro h2
  simp only[decide_eq_false_iff_not]at h2
  repeat (first|refine c_r ?_|refine rg0 ?_)
  refine rt0 Tryz.ntmps123 ?_
  exact⟨by unfold errL;rw[if_neg h,if_neg (by omega)],Keep.refl _ _⟩
theorem sum_take{n:Nm}{i:Nat}(hi:i<n.length)(f:Lab→Nat):((n.take (i+1)).map f).sum=((n.take i).map f).sum+f n[i]:=by
 rw[zao hi,List.map_append,List.sum_append,List.map_cons,List.map_nil,List.sum_cons,List.sum_nil,Nat.add_zero]
theorem ze4:∀(k:Nm),(∀l∈k,l.length≤1000000000)→(k.map fun l=>1+l.length).sum≤1000000001*k.length
 | [],_=>by simp
 |x::k,h=>by
  have h3:=ze4 k (fun l hl=>h l (List.mem_cons_of_mem _ hl))
  have h4:=h x (List.mem_cons_self ..)
  rw[List.map_cons,List.sum_cons,List.length_cons];omega
theorem RLen_ok(w:World)(nv:Value)(n:Nm)(hn:Row w nv (n.map vs))(hl:∀l∈n,l.length≤1000000000)(hnl:n.length≤1000000000):
  Fn Tryz.prog 124 #[nv] w (fun v w'=>v=vi (lenN n)∧Ext w w'):=by
 obtain⟨an,cn,rfl,hcn,hgn⟩:=hn
 simp only[List.length_map]at hcn hgn
 rw[List.length_map]
 refine enter Tryz.func124 Tryz.ntmps124 rfl rfl ?_
 repeat refine c_r ?_
 refine rg0 ?_
 repeat refine c_r ?_
 refine rg0 ?_
 repeat refine c_r ?_
 refine rg0 ?_
 repeat refine c_r ?_
 refine zap (fun m σ ds A=>ds=[]∧∃(i:Nat),i+m=n.length∧σ 4=vi i∧σ 0= .slice an n.length cn∧σ 3=vi (lenN (n.take i))∧Ext w A) n.length ?_ ?_
 ·exact⟨rfl,0,by omega,vr0,vq0,vr0,Keep.refl _ _⟩
 rintro m σ ds A ⟨rfl,i,him,h4,h0,h3,hEA⟩
 repeat refine c_r ?_
 refine rg2 h4 h0 ?_
 repeat refine c_r ?_
 refine wc0 ?_ ?_
 ·intro hlt
  simp only[decide_eq_true_eq]at hlt
  have hi:i<n.length:=by omega
  have hi0:(0:Int)≤(i:Int):=by omega
  have hi1:(i:Int)<(n.length:Int):=by omega
  have hi1':(i:Int)+1=((i+1:Nat):Int):=by push_cast;rfl
  have hg:=zab hEA (hgn i (by simpa using hi))
  rw[List.getElem_map]at hg
  obtain⟨xn,rfl⟩:=Option.isSome_iff_exists.1 (zai hg)
  have hb:=ze4 (n.take i) (fun l hl'=>hl l (List.mem_of_mem_take hl'))
  rw[List.length_take]at hb
  have hb2:=hl n[i] (List.getElem_mem hi)
  have hs:((n.take (i+1)).map fun l=>1+l.length).sum=((n.take i).map fun l=>1+l.length).sum+(1+n[i].length):=sum_take hi _
  have hlen:((lenN (n.take i):Nat):Int)+1+((n[i]).length:Int)=((lenN (n.take (i+1)):Nat):Int):=by unfold lenN;rw[hs];omega
  have hln:lenN (n.take i)≤2000000000000000000:=by
   unfold lenN
   have:min i n.length≤1000000000:=by omega
   omega
  repeat refine c_r ?_
  refine rg7 h0 h3 h4 hi0 hi1 hg hlen ?_
  repeat refine c_r ?_
  refine rg2 h4 hi1' ?_
  repeat refine c_r ?_
  exact⟨m - 1,by omega,rfl,i+1,by omega,vq0,(vq1 h0),vq0,hEA⟩
 ·intro hge
  simp only[decide_eq_false_iff_not]at hge
  rw[List.take_of_length_le (by omega)]at h3
  repeat refine c_r ?_
  refine rg1 h3 ?_
  repeat refine c_r ?_
  refine rt1 h3 Tryz.ntmps124 ?_
  exact⟨rfl,hEA⟩
def encL(x:Lab)(_:World)(args:Array Value):Prop:=args=#[vs x]
theorem revDrop{n:Nm}{k:Nat}(hk:k<n.length):(n.take (k+1)).reverse=n[k]::(n.take k).reverse:=by
 rw[zao hk];simp
theorem labelsIt{W0:World}{C:Nat→Prop}{bn:Nat}{nv:Value}{n:Nm}(hbn:W0.heap[bn]? =some (.cells #[nv] 23 (0,0)))(hn:Row W0 nv (n.map vs))(hC1:¬C bn)(hCw:n≠ []→∀b,C b→b<W0.heap.size→∀a m c,nv= .slice (some a) m c→a.block≠b)(hnl:n.length≤1000000000000)
  (hnb:n≠ []→∀a m c,nv= .slice (some a) m c→a.block<W0.heap.size):
  Iter Tryz.prog 234 #[.pointer (some ⟨bn,0,Option.none⟩)] W0 W0.heap.size C n.reverse encL:=by
 intro lp J Jx W hW hnW hJ hJx hY h0
 obtain⟨an,cn,rfl,hcn,hgn⟩:=hn
 simp only[List.length_map]at hcn hgn hbn hCw hnb
 have hln:=(Array.getElem?_eq_some_iff.1 hbn).1
 have p0:zaf W (some ⟨bn,0,Option.none⟩)=some (.slice an n.length cn):=zab hW (zac hbn rfl)
 refine enter Tryz.func234 Tryz.ntmps234 rfl rfl ?_
 repeat refine c_r ?_
 refine rg2 p0 Nat.add_zero ?_
 repeat refine c_r ?_
 refine zap (fun m σ ds v=>ds=[]∧∃(pre:List Lab) (k:Nat),n.reverse=pre++(n.take k).reverse∧k≤m∧k≤n.length∧σ 3=vi ((k:Int) - 1)∧σ 0= .func (.yield lp) #[] #[]∧σ 1= .pointer (some ⟨bn,0,Option.none⟩)∧J pre v∧KeepB W0.heap.size C W v) n.length ?_ ?_
 ·exact⟨rfl,[],n.length,by simp,Nat.le_refl _,Nat.le_refl _,vq0,vq0,vq0,h0,KeepB.refl _ _ _⟩
 rintro m σ ds v ⟨rfl,pre,k,hd,hkm,hkn,h3,hs0,hs1,hjj,hKB⟩
 have p1:zaf v (some ⟨bn,0,Option.none⟩)=some (.slice an n.length cn):=zdp hKB hln hC1 p0
 repeat refine c_r ?_
 refine rg1 h3 ?_
 repeat refine c_r ?_
 refine wc0 ?_ ?_
 ·intro hge
  simp only[decide_eq_true_eq,ge_iff_le]at hge
  obtain⟨j,rfl⟩:∃j,k=j+1:=⟨k - 1,by omega⟩
  have hj:j<n.length:=by omega
  have ej:((j+1:Nat):Int) - 1=(j:Int):=by omega
  rw[ej]at h3
  have hj0:(0:Int)≤(j:Int):=by omega
  have hj1:(j:Int)<(n.length:Int):=by omega
  have hg:=hgn j (by simpa using hj)
  rw[List.getElem_map]at hg
  obtain⟨xn,rfl⟩:=Option.isSome_iff_exists.1 (zai hg)
  have hnn:n≠ []:=List.length_pos_iff.1 (by omega)
  have hgv:zaf v (adr (some xn) j)=some (vs n[j]):=by
   have hb:=hnb hnn xn _ _ rfl
   have h1:=zab hW hg
   refine zdp hKB (by rw[zbm];exact hb) (fun hc=>?_) h1
   rw[zbm]at hc
   exact hCw hnn _ hc hb xn _ _ rfl rfl
  have hxs:n.reverse=pre++n[j]::(n.take j).reverse:=by rw[hd,revDrop hj]
  repeat refine c_r ?_
  refine rq ?_;intro gd K hgd hK
  try simp (disch:=first|omega|assumption|rfl) only[go_sem,h3,hs0,hs1,p1,hj0,hj1,hgv]
  refine Yld.mono (hY pre n[j] (n.take j).reverse v _ hxs hjj hKB rfl) ?_
  rintro u x (⟨rfl,hj',hk'⟩| ⟨rfl,hjx⟩)
  ·try simp only[go_sem]
   refine hK _ _ ?_;clear hK hgd;clear K;try clear gd
   repeat refine c_r ?_
   refine wc0 ?_ ?_
   ·intro h;simp at h
   ·intro _
    repeat refine c_r ?_
    refine rg1 h3 ?_
    refine zav ?_
    exact⟨m - 1,by omega,rfl,pre++ [n[j]],j,by rw[hxs];simp,by omega,by omega,vq0,(vq1 hs0),(vq1 hs1),hj',hKB.trans hk'⟩
  ·try simp only[go_sem]
   refine hK _ _ ?_;clear hK hgd;clear K;try clear gd
   repeat refine c_r ?_
   refine wc0 ?_ ?_
   ·intro _
    repeat refine c_r ?_
    refine zaJ (by simp) rfl (.inr ⟨_,_,_,hxs,hjx⟩)
   ·intro h;simp at h
 ·intro hge
  simp only[decide_eq_false_iff_not,ge_iff_le]at hge
  have hk0:k=0:=by omega
  subst hk0
  repeat refine c_r ?_
  refine zaJ (by simp) rfl (.inl ?_)
  rw[hd];simpa using hjj
theorem zkS{w:World}{nv:Value}(hn:∃a n c,nv= .slice a n c):
  Fn Tryz.prog 206 #[nv] w (fun v w'=>v= .func (.func 234) #[] #[.pointer (some ⟨w.heap.size,0,Option.none⟩)]∧Ext w w'∧w'.heap.size=w.heap.size+1∧w'.heap[w.heap.size]? =some (.cells #[nv] 23 (0,0))):=by
 obtain⟨an,nn,cn,rfl⟩:=hn
 refine enter Tryz.func206 Tryz.ntmps206 rfl rfl ?_
 repeat refine c_r ?_
 refine rg0 ?_
 repeat refine c_r ?_
 refine zaA ?_
 intro w1 hE1 hs1 hA
 refine rg0 ?_
 repeat refine c_r ?_
 refine rt0 Tryz.ntmps206 ?_
 exact⟨rfl,hE1,hs1,hA⟩
theorem row_lt{w:World}{nv:Value}{l:List Value}(h:Row w nv l)(h0:l≠ []):∀a m c,nv= .slice (some a) m c→a.block<w.heap.size:=by
 intro a m c hv
 obtain⟨a',c',e,hc,hg⟩:=h
 rw[hv]at e
 injection e with e1
 have h1:=hg 0 (List.length_pos_iff.2 h0)
 rw[←e1]at h1
 have:=zct (show w.cell? (a.add 0)=some _ from h1)
 rwa [zbm]at this
theorem NLen_ok(w:World)(nv:Value)(n:Nm)(hn:Row w nv (n.map vs))(hl:∀l∈n,l.length≤1000000000)(hnl:n.length≤1000000000):
  Fn Tryz.prog 169 #[nv] w (fun v w'=>v=vi (lenN n)∧Ext w w'):=by
 have hn0:=hn
 obtain⟨an,cn,hnv,_⟩:=id hn
 rw[hnv]
 refine enter Tryz.func169 Tryz.ntmps169 rfl rfl ?_
 repeat refine c_r ?_
 refine rg0 ?_
 repeat refine c_r ?_
 rw[←hnv]
 refine rq ?_;intro gd K hgd hK
 try simp only[go_sem]
 have hB3:=zaw w (.cells #[vi 0] 3 (0,0))
 have hE4:=Ext.alloc w (.cells #[vi 0] 3 (0,0))
 have hs4:=zam w (.cells #[vi 0] 3 (0,0))
 revert hB3 hE4 hs4
 generalize w.alloc (.cells #[vi 0] 3 (0,0))=w1
 intro hB3 hE4 hs4
 refine zaV (P:=Tryz.prog) (t:=3) (j:=0) (l:=[vi 0]) hB3 (by simp) rfl rfl rfl ?_
 intro w2 hs2 hB2 hk2
 try simp only[go_sem]
 refine hK _ _ ?_;clear hK hgd;clear K;try clear gd
 simp only[List.set_cons_zero]at hB2
 have hE2:Ext w w2:=Keep.to_ext hE4 rfl (fun b hb=>by omega) hk2
 repeat refine c_r ?_
 refine rq ?_;intro gd K hgd hK
 try simp only[go_sem]
 refine Fn.mono (zkS ⟨_,_,_,hnv⟩) ?_
 rintro _ w3 ⟨rfl,hE3,hs3,hbn⟩
 try simp only[go_sem]
 refine hK _ _ ?_;clear hK hgd;clear K;try clear gd
 have hE23:=hE2.trans hE3
 have hB2':=hE3.at hB2
 have hn3:=hn.ext hE23
 have hlt:n≠ []→∀a m c,nv= .slice (some a) m c→a.block<w.heap.size:=fun hnn=>row_lt hn (by simpa using hnn)
 repeat refine c_r ?_
 refine zdH (g:=234) (cap:=#[.pointer (some ⟨w2.heap.size,0,Option.none⟩)]) (vq0) rfl (labelsIt (C:=fun b=>b=w.heap.size) hbn hn3 (by omega) (fun h0 b hb _ a m c hv=>by have:=hlt h0 a m c hv;omega) (by omega) (fun h0 a m c hv=>by have:=hlt h0 a m c hv;omega)) (Keep.refl _ _) (Nat.le_refl _) (fun b hb=>by omega)
  (fun x A args h=>by rw[h];rfl)
  (fun pre A=>Ext w A∧A.heap[w.heap.size]? =some (.cells #[vi (1+(pre.map fun l=>1+l.length).sum:Nat)] 3 (0,0)))
  (fun _ _ _=>False) ?_ (fun _ _ _ _ h _=>h.elim) ?_ ?_ ?_ (fun _ _ _ _ _ _ _ h _=>h.elim)
 ·rintro pre A B ⟨h1,h2⟩ hk
  exact⟨Keep.to_ext h1 rfl (fun b hb=>by unfold two at hb;omega) hk,(hk.block _ (Array.getElem?_eq_some_iff.1 h2).1 (by unfold two;omega)).trans h2⟩
 ·exact⟨hE23,hB2'⟩
 ·rintro lp pre x suf A args hxs hszA ⟨hEA,hb⟩ rfl
  have hpl:pre.length+1≤n.length:=by
   have:=congrArg List.length hxs
   simp at this;omega
  have hpm:∀l∈pre,l.length≤1000000000:=fun l hl'=>hl l (List.mem_reverse.1 (by rw[hxs];simp[hl']))
  have hxm:x.length≤1000000000:=hl x (List.mem_reverse.1 (by rw[hxs];simp))
  have hsb:=ze4 pre hpm
  have hsum:(((1+(pre.map fun l=>1+l.length).sum:Nat):Int))+(1+(x.length:Int))=((1+((pre++ [x]).map fun l=>1+l.length).sum:Nat):Int):=by
   rw[List.map_append,List.sum_append,List.map_cons,List.map_nil,List.sum_cons,List.sum_nil];omega
  have hs2':((1+(pre.map fun l=>1+l.length).sum:Nat):Int)≤2000000000000000000:=by omega
  refine rq ?_;intro gd K hgd hK
  try simp only[go_sem]
  refine hK _ _ ?_;clear hK hgd;clear K;try clear gd
  refine zav ?_
  refine⟨rfl,KeepB.refl _ _ _,fun Y hY=>?_⟩
  have hbY:=(hY.block _ (by omega) (by unfold two;omega)).trans hb
  have hEY:Ext w Y:=Keep.to_ext hEA rfl (fun b hb=>by unfold two at hb;omega) hY
  have hsY:=hY.size
  have q0:zaf Y (some ⟨w.heap.size,0,Option.none⟩)=some (vi (1+(pre.map fun l=>1+l.length).sum:Nat)):=zac hbY rfl
  repeat refine c_r ?_
  refine rq ?_;intro gd K hgd hK
  try simp (disch:=first|omega|assumption|rfl) only[go_sem,q0,hsum]
  refine zaV (P:=Tryz.prog) (t:=3) (j:=0) (l:=[vi (1+(pre.map fun l=>1+l.length).sum:Nat)]) hbY (by simp) rfl rfl rfl ?_
  intro z hz hbz hkz
  try simp only[go_sem]
  refine hK _ _ ?_;clear hK hgd;clear K;try clear gd
  simp only[List.set_cons_zero]at hbz
  repeat refine c_r ?_
  exact⟨⟨Keep.to_ext hEY rfl (fun b hb=>by omega) hkz,hbz⟩,hkz.toB (by omega) (fun i _ h=>h)⟩
 ·intro A hszA ⟨hEA,hb⟩ hD
  have q0:zaf A (some ⟨w.heap.size,0,Option.none⟩)=some (vi (1+(n.reverse.map fun l=>1+l.length).sum:Nat)):=zac hb rfl
  have hrev:(n.reverse.map fun l=>1+l.length).sum=(n.map fun l=>1+l.length).sum:=by rw[List.map_reverse,List.sum_reverse]
  rw[hrev]at q0
  repeat refine c_r ?_
  refine rg1 q0 ?_
  repeat refine c_r ?_
  refine zdQ (v:=vi (lenN n)) (.inr rfl) (by rfl) Tryz.ntmps169 (vr0) hD ?_
  intro Z hkZ hsZ
  exact⟨rfl,Keep.to_ext hEA rfl (fun b hb=>by omega) hkZ⟩
theorem zga{n:Nm}{i:Nat}(hi:i<n.length)(h:∀j (h:j<n.length),j<i→errL n[j]=0)(he:errL n[i]≠0):zaF n=errL n[i]:=by
 unfold zaF
 have:n.find? (fun l=>decide (errL l≠0))=some n[i]:=by
  refine ziV (pre:=n.take i) (suf:=n.drop (i+1)) (zdP hi) (fun y hy=>?_) (by simpa using he)
  obtain⟨j,hj,rfl⟩:=List.getElem_of_mem hy
  rw[List.getElem_take]
  simp at hj
  simpa using h j (by omega) (by omega)
 rw[this]
theorem zfp{n:Nm}(h:∀j (h:j<n.length),errL n[j]=0):zaF n=if 255<lenN n then 3 else 0:=by
 unfold zaF
 have:n.find? (fun l=>decide (errL l≠0))=Option.none:=zf3 (fun y hy=>by
  obtain⟨j,hj,rfl⟩:=List.getElem_of_mem hy
  simpa using h j hj)
 rw[this]
theorem zbw(w:World)(nv:Value)(n:Nm)(hn:Row w nv (n.map vs))(hl:∀l∈n,l.length≤1000000000)(hnl:n.length≤1000000000):
  Fn Tryz.prog 57 #[nv] w (fun v w'=>v=vi (zaF n)∧Ext w w'):=by
 have hn0:=hn
 obtain⟨an,cn,rfl,hcn,hgn⟩:=hn
 simp only[List.length_map]at hcn hgn hn0
 rw[List.length_map]
 refine enter Tryz.func57 Tryz.ntmps57 rfl rfl ?_
 repeat refine c_r ?_
 refine rg0 ?_
 repeat refine c_r ?_
 refine rg0 ?_
 repeat refine c_r ?_
 refine zap (fun m σ ds A=>ds=[]∧∃(i:Nat),i+m=n.length∧σ 3=vi i∧σ 0= .slice an n.length cn∧Ext w A∧∀j (h:j<n.length),j<i→errL n[j]=0) n.length ?_ ?_
 ·exact⟨rfl,0,by omega,vr0,vq0,Keep.refl _ _,fun j h hj=>absurd hj (by omega)⟩
 rintro m σ ds A ⟨rfl,i,him,h3,h0,hEA,hlow⟩
 repeat refine c_r ?_
 refine rg2 h3 h0 ?_
 repeat refine c_r ?_
 refine wc0 ?_ ?_
 ·intro hlt
  simp only[decide_eq_true_eq]at hlt
  have hi:i<n.length:=by omega
  have hi0:(0:Int)≤(i:Int):=by omega
  have hi1:(i:Int)<(n.length:Int):=by omega
  have hi1':(i:Int)+1=((i+1:Nat):Int):=by push_cast;rfl
  have hg:=zab hEA (hgn i (by simpa using hi))
  rw[List.getElem_map]at hg
  obtain⟨xn,rfl⟩:=Option.isSome_iff_exists.1 (zai hg)
  repeat refine c_r ?_
  refine rq ?_;intro gd K hgd hK
  try simp (disch:=first|omega|assumption|rfl) only[go_sem,h0,h3,hi0,hi1,hg]
  refine Fn.mono (zfP A n[i] (by have:=hl n[i] (List.getElem_mem hi);omega)) ?_
  rintro _ A1 ⟨rfl,hE1⟩
  try simp only[go_sem]
  refine hK _ _ ?_;clear hK hgd;clear K;try clear gd
  repeat refine c_r ?_
  refine rg0 ?_
  repeat refine c_r ?_
  refine wc0 ?_ ?_
  ·intro hne
   simp only[Bool.not_eq_true',decide_eq_false_iff_not]at hne
   repeat (first|refine c_r ?_|refine rg0 ?_)
   refine rt0 Tryz.ntmps57 ?_
   exact⟨by rw[zga hi hlow hne],hEA.trans hE1⟩
  ·intro heq
   simp only[Bool.not_eq_false',decide_eq_true_eq]at heq
   repeat refine c_r ?_
   refine rg2 h3 hi1' ?_
   repeat refine c_r ?_
   refine⟨m - 1,by omega,rfl,i+1,by omega,vq0,(vq1 h0),hEA.trans hE1,fun j hj hji=>?_⟩
   by_cases hj2:j=i
   ·subst hj2;exact heq
   ·exact hlow j hj (by omega)
 ·intro hge
  simp only[decide_eq_false_iff_not]at hge
  have hgood:=zfp (n:=n) (fun j hj=>hlow j hj (by omega))
  repeat refine c_r ?_
  refine rq ?_;intro gd K hgd hK
  try simp (disch:=first|omega|assumption|rfl) only[go_sem,h0]
  refine Fn.mono (RLen_ok A _ n (hn0.ext hEA) hl hnl) ?_
  rintro _ A1 ⟨rfl,hE1⟩
  try simp only[go_sem]
  refine hK _ _ ?_;clear hK hgd;clear K;try clear gd
  repeat refine c_r ?_
  refine wc0 ?_ ?_
  ·intro hb
   simp only[decide_eq_true_eq]at hb
   repeat (first|refine c_r ?_|refine rg0 ?_)
   refine rt0 Tryz.ntmps57 ?_
   exact⟨by rw[hgood,if_pos (by omega)],hEA.trans hE1⟩
  ·intro hb
   simp only[decide_eq_false_iff_not]at hb
   repeat (first|refine c_r ?_|refine rg0 ?_)
   refine rt0 Tryz.ntmps57 ?_
   exact⟨by rw[hgood,if_neg (by omega)],hEA.trans hE1⟩
theorem zlN(w:World)(nv:Value)(n:Nm)(hn:Row w nv (n.map vs))(hl:∀l∈n,l.length≤1000000000)(hnl:n.length≤1000000000):
  Fn Tryz.prog 118 #[nv] w (fun v w'=>v=vi (zaF n)∧Ext w w'):=by
 have hn0:=hn
 obtain⟨an,cn,rfl,hcn,hgn⟩:=hn
 simp only[List.length_map]at hcn hgn hn0
 rw[List.length_map]
 refine enter Tryz.func118 Tryz.ntmps118 rfl rfl ?_
 repeat refine c_r ?_
 refine rg0 ?_
 repeat refine c_r ?_
 refine rg0 ?_
 repeat refine c_r ?_
 refine zap (fun m σ ds A=>ds=[]∧∃(i:Nat),i+m=n.length∧σ 8=vi i∧σ 7=vi n.length∧σ 6= .slice an n.length cn∧σ 0= .slice an n.length cn∧Ext w A∧∀j (h:j<n.length),j<i→errL n[j]=0) n.length ?_ ?_
 ·exact⟨rfl,0,by omega,vr0,vq0,vq0,vq0,Keep.refl _ _,fun j h hj=>absurd hj (by omega)⟩
 rintro m σ ds A ⟨rfl,i,him,h8,h7,h6,h0,hEA,hlow⟩
 repeat refine c_r ?_
 refine rg2 h8 h7 ?_
 repeat refine c_r ?_
 refine wc0 ?_ ?_
 ·intro hlt
  simp only[decide_eq_true_eq]at hlt
  have hi:i<n.length:=by omega
  have hi0:(0:Int)≤(i:Int):=by omega
  have hi1:(i:Int)<(n.length:Int):=by omega
  have hi1':(i:Int)+1=((i+1:Nat):Int):=by push_cast;rfl
  have hg:=zab hEA (hgn i (by simpa using hi))
  rw[List.getElem_map]at hg
  obtain⟨xn,rfl⟩:=Option.isSome_iff_exists.1 (zai hg)
  repeat refine c_r ?_
  refine rg5 h6 h8 hi0 hi1 hg ?_
  repeat refine c_r ?_
  refine rq ?_;intro gd K hgd hK
  try simp only[go_sem]
  refine Fn.mono (zlO A n[i] (by have:=hl n[i] (List.getElem_mem hi);omega)) ?_
  rintro _ A1 ⟨rfl,hE1⟩
  try simp only[go_sem]
  refine hK _ _ ?_;clear hK hgd;clear K;try clear gd
  repeat refine c_r ?_
  refine rg0 ?_
  repeat refine c_r ?_
  refine wc0 ?_ ?_
  ·intro hne
   simp only[Bool.not_eq_true',decide_eq_false_iff_not]at hne
   repeat (first|refine c_r ?_|refine rg0 ?_)
   refine rt0 Tryz.ntmps118 ?_
   exact⟨by rw[zga hi hlow hne],hEA.trans hE1⟩
  ·intro heq
   simp only[Bool.not_eq_false',decide_eq_true_eq]at heq
   repeat refine c_r ?_
   refine rg2 h8 hi1' ?_
   repeat refine c_r ?_
   refine⟨m - 1,by omega,rfl,i+1,by omega,vq0,(vq1 h7),(vq1 h6),(vq1 h0),hEA.trans hE1,fun j hj hji=>?_⟩
   by_cases hj2:j=i
   ·subst hj2;exact heq
   ·exact hlow j hj (by omega)
 ·intro hge
  simp only[decide_eq_false_iff_not]at hge
  have hgood:=zfp (n:=n) (fun j hj=>hlow j hj (by omega))
  repeat refine c_r ?_
  refine rq ?_;intro gd K hgd hK
  try simp (disch:=first|omega|assumption|rfl) only[go_sem,h0]
  refine Fn.mono (NLen_ok A _ n (hn0.ext hEA) hl hnl) ?_
  rintro _ A1 ⟨rfl,hE1⟩
  try simp only[go_sem]
  refine hK _ _ ?_;clear hK hgd;clear K;try clear gd
  repeat refine c_r ?_
  refine wc0 ?_ ?_
  ·intro hb
   simp only[decide_eq_true_eq]at hb
   repeat (first|refine c_r ?_|refine rg0 ?_)
   refine rt0 Tryz.ntmps118 ?_
   exact⟨by rw[hgood,if_pos (by omega)],hEA.trans hE1⟩
  ·intro hb
   simp only[decide_eq_false_iff_not]at hb
   repeat (first|refine c_r ?_|refine rg0 ?_)
   refine rt0 Tryz.ntmps118 ?_
   exact⟨by rw[hgood,if_neg (by omega)],hEA.trans hE1⟩
def zbP(q f t:Nm):Nm:=q.take (q.length - f.length)++t
structure NmM(n:Nm):Prop where
 lb:∀l∈n,l.length≤1000000
 len:n.length≤1000000
theorem NmM.LB{n:Nm}(h:NmM n):LB n:=fun l hl=>by have:=h.lb l hl;omega
theorem NmM.s{n:Nm}(h:NmM n):NmS n:=⟨h.LB,by have:=h.len;omega⟩
theorem zjY{q f t:Nm}(hq:NmM q)(ht:NmM t):(∀l∈zbP q f t,l.length≤1000000000)∧(zbP q f t).length≤2000000:=by
 refine⟨fun l hl=>?_,?_⟩
 ·rcases List.mem_append.1 hl with h|h
  ·have:=hq.lb l (List.mem_of_mem_take h);omega
  ·have:=ht.lb l h;omega
 ·unfold zbP
  rw[List.length_append,List.length_take]
  have:=hq.len
  have:=ht.len
  omega
theorem NSwap_ok(w:World)(qv fv tv:Value)(q f t:Nm)(hq:Row w qv (q.map vs))(hf:Row w fv (f.map vs))(ht:Row w tv (t.map vs))(mq:NmM q)(mf:NmM f)(mt:NmM t)(hu:zaY q f=true):
  Fn Tryz.prog 52 #[qv,fv,tv] w (fun v w'=>Ext w w'∧(zaF (zbP q f t)=0→∃sv,v= .tuple #[sv,vi 0]∧Row w' sv ((zbP q f t).map vs)∧BlkB w.heap.size w' sv)∧(zaF (zbP q f t)≠0→v= .tuple #[.slice Option.none 0 0,vi 7])):=by
 have hul:=zbZ hu
 obtain⟨aq,cq,hqv,hcq,hgq⟩:=id hq
 obtain⟨af,cf,hfv,_⟩:=id hf
 rw[List.length_map]at hqv hcq hfv
 have hfr:Row w (.slice aq (q.length - f.length) cq) ((q.take (q.length - f.length)).map vs):=by
  have hl:((q.take (q.length - f.length)).map vs).length=q.length - f.length:=by rw[List.length_map,List.length_take];omega
  refine⟨aq,cq,by rw[hl],by omega,fun j hj=>?_⟩
  have:=hgq j (by rw[List.length_map];omega)
  rw[this];simp
 have hm:=zjY (f:=f) mq mt
 have bq:=mq.len
 have bf:=mf.len
 have bt:=mt.len
 refine enter Tryz.func52 Tryz.ntmps52 rfl rfl ?_
 repeat refine c_r ?_
 refine rg0 ?_
 repeat refine c_r ?_
 refine rq ?_;intro gd K hgd hK
 try simp only[go_sem]
 refine Fn.mono (zcQ _ _ _ _ _ hq hf mq.LB mf.LB (by have:=mq.len;omega) (by have:=mf.len;omega)) ?_
 rintro _ w1 ⟨rfl,hE1⟩
 try simp only[go_sem]
 refine hK _ _ ?_;clear hK hgd;clear K;try clear gd
 rw[hu]
 repeat refine c_r ?_
 refine wc0 ?_ ?_
 ·intro h;cases h
 intro _
 have e1:(q.length:Int) - (f.length:Int)=((q.length - f.length:Nat):Int):=by omega
 have e2:(0:Int)≤((q.length - f.length:Nat):Int):=by omega
 have e3:((q.length - f.length:Nat):Int)≤(cq:Int):=by omega
 repeat refine c_r ?_
 refine rq ?_;intro gd K hgd hK
 try simp (disch:=first|omega|assumption|rfl) only[go_sem,hqv,hfv,e1,e2,e3,Nat.sub_zero,zak,ite_self]
 refine Fn.mono (zde (hfr.ext hE1) (by rw[List.length_take];have:=mq.len;omega)) ?_
 rintro u w2 ⟨hou,hE2⟩
 try simp only[go_sem]
 have hl2:((q.take (q.length - f.length)).map vs).length+(t.map vs).length≤1000000000000:=by
  rw[List.length_map,List.length_map,List.length_take];have:=mq.len;have:=mt.len;omega
 refine zdU hou (ht.ext (hE1.trans hE2)) (by rfl) (by rfl) (by rfl) (by rfl) (by rfl) (by rfl) (by rfl) (by rfl) (zfd _) hl2 (by decide) hE2.size ?_
 intro sv w3 hs hE3 _ _
 try simp only[go_sem]
 refine hK _ _ ?_;clear hK hgd;clear K;try clear gd
 have hE13:=hE3 w (hE1.trans hE2) hE1.size
 rw[←List.map_append]at hs
 have hsr:Row w3 sv ((zbP q f t).map vs):=hs.row
 obtain⟨as1,cs1,hsv,hcs,hgs⟩:=id hsr
 rw[List.length_map]at hsv hcs
 repeat refine c_r ?_
 refine rq ?_;intro gd K hgd hK
 try simp only[go_sem]
 refine Fn.mono (zlN w3 _ (zbP q f t) hsr hm.1 (by have:=hm.2;omega)) ?_
 rintro _ w4 ⟨rfl,hE4⟩
 try simp only[go_sem]
 refine hK _ _ ?_;clear hK hgd;clear K;try clear gd
 repeat refine c_r ?_
 refine wc0 ?_ ?_
 ·intro hne
  simp only[Bool.not_eq_true',decide_eq_false_iff_not]at hne
  repeat (first|refine c_r ?_|refine rg0 ?_)
  refine zay (.inr rfl) Tryz.ntmps52 rfl (zar (v:= .slice Option.none 0 0) (vr0) (zar (v:=vi 7) (vr0) zau)) ?_
  exact⟨hE13.trans hE4,fun h=>absurd h hne,fun _=>rfl⟩
 ·intro heq
  simp only[Bool.not_eq_false',decide_eq_true_eq]at heq
  repeat refine c_r ?_
  refine rq ?_;intro gd K hgd hK
  try simp only[go_sem]
  rw[hsv]
  refine Fn.mono (P_cs.Clip_ok hcs) ?_
  rintro _ y0 ⟨rfl,hy0⟩
  try simp only[go_sem]
  rw[hy0]
  clear hy0 y0
  refine hK _ _ ?_;clear hK hgd;clear K;try clear gd
  repeat refine c_r ?_
  refine zay (.inr rfl) Tryz.ntmps52 rfl (zar (v:= .slice as1 (zbP q f t).length (zbP q f t).length) (vr0) (zar (v:=vi 0) (vr0) zau)) ?_
  have hbs:=hs.blk
  rw[hsv]at hbs
  refine⟨hE13.trans hE4,fun _=>⟨_,rfl,?_,(hbs.same.ext hE4.size).mono hE1.size⟩,fun h=>absurd heq h⟩
  exact Row.ext (w:=w3) ⟨as1,(zbP q f t).length,by rw[List.length_map],by rw[List.length_map];exact Nat.le_refl _,hgs⟩ hE4
theorem RSwap_ok(w:World)(qv fv tv:Value)(q f t:Nm)(hq:Row w qv (q.map vs))(hf:Row w fv (f.map vs))(ht:Row w tv (t.map vs))(mq:NmM q)(mf:NmM f)(mt:NmM t)(hu:zaY q f=true):
  Fn Tryz.prog 71 #[qv,fv,tv] w (fun v w'=>Ext w w'∧(zaF (zbP q f t)=0→∃sv,v= .tuple #[sv,vi 0]∧Row w' sv ((zbP q f t).map vs)∧BlkB w.heap.size w' sv)∧(zaF (zbP q f t)≠0→v= .tuple #[.slice Option.none 0 0,vi 7])):=by
 have hul:=zbZ hu
 obtain⟨aq,cq,hqv,hcq,hgq⟩:=id hq
 obtain⟨af,cf,hfv,_⟩:=id hf
 rw[List.length_map]at hqv hcq hfv
 have hfr:Row w (.slice aq (q.length - f.length) cq) ((q.take (q.length - f.length)).map vs):=by
  have hl:((q.take (q.length - f.length)).map vs).length=q.length - f.length:=by rw[List.length_map,List.length_take];omega
  refine⟨aq,cq,by rw[hl],by omega,fun j hj=>?_⟩
  have:=hgq j (by rw[List.length_map];omega)
  rw[this];simp
 have hm:=zjY (f:=f) mq mt
 have bq:=mq.len
 have bf:=mf.len
 have bt:=mt.len
 refine enter Tryz.func71 Tryz.ntmps71 rfl rfl ?_
 repeat refine c_r ?_
 refine rg0 ?_
 repeat refine c_r ?_
 refine rq ?_;intro gd K hgd hK
 try simp only[go_sem]
 refine Fn.mono (zcG _ _ _ _ _ hq hf mq.LB mf.LB (by have:=mq.len;omega) (by have:=mf.len;omega)) ?_
 rintro _ w1 ⟨rfl,hE1⟩
 try simp only[go_sem]
 refine hK _ _ ?_;clear hK hgd;clear K;try clear gd
 rw[hu]
 repeat refine c_r ?_
 refine wc0 ?_ ?_
 ·intro h;cases h
 intro _
 have e1:(q.length:Int) - (f.length:Int)=((q.length - f.length:Nat):Int):=by omega
 have e2:(0:Int)≤((q.length - f.length:Nat):Int):=by omega
 have e3:((q.length - f.length:Nat):Int)≤(cq:Int):=by omega
 repeat refine c_r ?_
 refine rq ?_;intro gd K hgd hK
 try simp (disch:=first|omega|assumption|rfl) only[go_sem,hqv,hfv,e1,e2,e3,Nat.sub_zero,zak,ite_self]
 refine zlq (z:=vs []) (by rfl) (by rfl) (by rfl) (by rfl) ?_
 intro w2 hE2 hs2 ho2
 try simp (disch:=first|omega|assumption|rfl) only[go_sem,hqv,hfv,e1,e2,e3,Nat.sub_zero,zak,ite_self]
 have hE12:=hE1.trans hE2
 refine zdU ho2 (hfr.ext hE12) (by rfl) (by rfl) (by rfl) (by rfl) (by rfl) (by rfl) (vr0) (vr0) (zfd _) (by rw[List.length_map,List.length_take,List.length_nil];omega) (by decide) hE2.size ?_
 intro uv w3 hou hE3 _ _
 try simp only[go_sem]
 have hE13:=hE3 w1 hE2 (Nat.le_refl _)
 rw[List.nil_append]at hou
 have hl2:((q.take (q.length - f.length)).map vs).length+(t.map vs).length≤1000000000000:=by
  rw[List.length_map,List.length_map,List.length_take];have:=mq.len;have:=mt.len;omega
 refine zdU hou (ht.ext (hE1.trans hE13)) (by rfl) (by rfl) (by rfl) (by rfl) (by rfl) (by rfl) (by rfl) (by rfl) (zfd _) hl2 (by decide) hE13.size ?_
 intro sv w4 hs hE4 _ _
 try simp only[go_sem]
 refine hK _ _ ?_;clear hK hgd;clear K;try clear gd
 have hE14:=hE1.trans (hE4 w1 hE13 (Nat.le_refl _))
 rw[←List.map_append]at hs
 have hsr:Row w4 sv ((zbP q f t).map vs):=hs.row
 repeat refine c_r ?_
 refine rq ?_;intro gd K hgd hK
 try simp only[go_sem]
 refine Fn.mono (zbw w4 _ (zbP q f t) hsr hm.1 (by have:=hm.2;omega)) ?_
 rintro _ w5 ⟨rfl,hE5⟩
 try simp only[go_sem]
 refine hK _ _ ?_;clear hK hgd;clear K;try clear gd
 repeat refine c_r ?_
 refine wc0 ?_ ?_
 ·intro hne
  simp only[Bool.not_eq_true',decide_eq_false_iff_not]at hne
  repeat (first|refine c_r ?_|refine rg0 ?_)
  refine zay (.inr rfl) Tryz.ntmps71 rfl (zar (v:= .slice Option.none 0 0) (vr0) (zar (v:=vi 7) (vr0) zau)) ?_
  exact⟨hE14.trans hE5,fun h=>absurd h hne,fun _=>rfl⟩
 ·intro heq
  simp only[Bool.not_eq_false',decide_eq_true_eq]at heq
  repeat (first|refine c_r ?_|refine rg0 ?_)
  refine zay (.inr rfl) Tryz.ntmps71 rfl (zar (v:=sv) (vr0) (zar (v:=vi 0) (vr0) zau)) ?_
  exact⟨hE14.trans hE5,fun _=>⟨_,rfl,hsr.ext hE5,(hs.blk.ext hE5.size).mono hE1.size⟩,fun h=>absurd heq h⟩
end Go.Proofs.YtopbbjdembnfdaaGreat
namespace Go.Proofs.YtopbbjdembnfdaaGreat.P_cm
open Go Go.Proofs.YtopbbjdembnfdaaGreat
set_option maxRecDepth 10000
theorem Clip_ok{w:World}{a:Option Addr}{n c:Nat}(hc:n≤c):Fn Tryz.prog 166 #[.slice a n c] w (fun u w'=>u= .slice a n n∧w'=w):=by
 refine enter Tryz.func166 Tryz.ntmps166 rfl rfl ?_
 repeat refine c_r ?_
 refine rg0 ?_
 repeat refine c_r ?_
 refine rq ?_;intro gd K hgd hK
 try simp only[go_sem]
 have hcl:slD Tryz.prog (some (TypeDesc.slice 23)) (Value.slice a n c) Option.none (some (Value.int IntKind.i64 ↑n)) (some (Value.int IntKind.i64 ↑n))=some (.slice a n n):=ze6 hc (by rfl)
 rw[hcl]
 try simp only[go_sem]
 refine hK _ _ ?_;clear hK hgd;clear K;try clear gd
 repeat refine c_r ?_
 refine rt0 Tryz.ntmps166 ?_
 exact⟨rfl,rfl⟩
end Go.Proofs.YtopbbjdembnfdaaGreat.P_cm
namespace Go.Proofs.YtopbbjdembnfdaaGreat
open Go
set_option maxRecDepth 10000
def NmC(w0:World)(cs:List Value)(n:Nm):Prop:=∃v,cs=[v]∧Row w0 v (n.map vs)
theorem nm_shape(w:World):zdb 1 (NmC w):=by
 refine⟨fun h=>?_,fun h=>?_⟩
 ·obtain⟨v,rfl,_⟩:=h;rfl
 ·obtain⟨v,rfl,a,c,rfl,_⟩:=h
  intro q hq;rw[List.mem_singleton.1 hq];rfl
theorem Own.k1{B:Nat}{w:World}{e:TypeId}{v:Value}{l:List Value}(h:Own B w e v l)(h1:∀q∈l,one q=true):OwnK 1 B w e v (l.map fun q=>[q]):=by
 have hf:∀l:List Value,(l.map fun q=>[q]).flatten=l:=fun l=>by
  induction l with
  |nil=>rfl
  |cons x l ih=>rw[List.map_cons,List.flatten_cons,ih];rfl
 refine⟨by rw[hf,List.length_map];exact h,fun x hx=>?_,fun x hx q hq=>?_⟩
 ·obtain⟨q,_,rfl⟩:=List.mem_map.1 hx;rfl
 ·obtain⟨q',hq',rfl⟩:=List.mem_map.1 hx
  rw[List.mem_singleton.1 hq];exact h1 _ hq'
def zej(t:Int):Bool:=decide (t=2)|| (decide (t=5)|| (decide (t=12)|| (decide (t=39)||decide (t=15))))
def zaz(t:Int)(ds:List DatL):List Nm:=if zej t then ds.filterMap fun d=>d.names.head? else []
theorem DatAt.cells{w0:World}{cs:List Value}{d:DatL}(h:DatAt w0 cs d):∃nm,cs[0]? =some (vi d.ty)∧cs[1]? =some nm∧NamesAt w0 nm d.names:=by
 obtain⟨nm,nu,tx,rw',rfl,h1,_⟩:=h.ex
 exact⟨nm,rfl,rfl,h1⟩
theorem zaj{w:World}{p:Option Addr}{k j:Nat}{cs:List Value}{u:Value}(h:zat w p k=some cs)(hj:cs[j]? =some u):zaf w (adr p j)=some u:=by
 obtain⟨hj1,hj2⟩:=List.getElem?_eq_some_iff.1 hj
 have:=zca h hj1
 rw[hj2]at this;exact this
theorem zge{w0 w:World}(hE0:Ext w0 w){ow tl dv:Value}{t:Int}{ds:List DatL}(how:one ow=true)(htl:one tl=true)(hd:Rows 5 (DatAt w0) w dv ds)(hlen:ds.length≤1000000000):
  Fn Tryz.prog 178 #[.agg #[ow,vi t,tl,dv]] w (fun v w'=>Ext w w'∧Rows 1 (NmC w0) w' v (zaz t ds)∧BlkB w.heap.size w' v):=by
 obtain⟨aD,cD,hdv,hcD,hgD⟩:=hd.open
 refine enter Tryz.func178 Tryz.ntmps178 rfl rfl ?_
 repeat refine c_r ?_
 refine rg0 ?_
 repeat refine c_r ?_
 refine zaA ?_
 intro w1 hE1 hs1 hA
 have p1:zaf w1 (some ⟨w.heap.size,1,Option.none⟩)=some (vi t):=zac hA rfl
 have p3:zaf w1 (some ⟨w.heap.size,3,Option.none⟩)=some dv:=zac hA rfl
 rw[hdv]at p3
 refine rg0 ?_
 repeat refine c_r ?_
 refine rg2 p1 Nat.zero_add ?_
 refine zav ?_
 refine zaC (Q:=fun e σ' ds' v'=>e= .normal∧ds'=[]∧Ext w1 v'∧∃ov,σ' 3=ov∧Owns 1 (NmC w0) w1.heap.size v' 23 ov (zaz t ds)) ?_ ?_
 ·refine zly ?_
  refine zfN ?_
  refine zaC (Q:=fun e σ' ds' v'=>e= .normal∧ds'=[]∧v'=w1∧σ' 1= .pointer (some ⟨w.heap.size,0,Option.none⟩)∧σ' 3= .slice Option.none 0 0∧σ' 8= .bool (zej t)) ?_ ?_
  ·have lead:∀{σ':Sto} {b:Bool},b=zej t→σ' 8= .bool b→σ' 8= .bool (zej t):=fun h h2=>h▸h2
   refine zfN ?_
   refine rg0 ?_
   refine zav ?_
   refine wc0 ?_ ?_
   ·intro h
    repeat refine c_r ?_
    refine⟨rfl,rfl,rfl,vq0,vq0,lead (b:=true) ?_ (by simp only[go_sem];rw[h])⟩
    unfold zej;rw[h];rfl
   intro h1
   repeat refine c_r ?_
   refine rg0 ?_
   refine zav ?_
   refine wc0 ?_ ?_
   ·intro h
    repeat refine c_r ?_
    refine⟨rfl,rfl,rfl,vq0,vq0,lead (b:=true) ?_ (by simp only[go_sem];rw[h])⟩
    unfold zej;rw[h1,h];rfl
   intro h2
   repeat refine c_r ?_
   refine rg0 ?_
   refine zav ?_
   refine wc0 ?_ ?_
   ·intro h
    repeat refine c_r ?_
    refine⟨rfl,rfl,rfl,vq0,vq0,lead (b:=true) ?_ (by simp only[go_sem];rw[h])⟩
    unfold zej;rw[h1,h2,h];rfl
   intro h3
   repeat refine c_r ?_
   refine rg0 ?_
   refine zav ?_
   refine wc0 ?_ ?_
   ·intro h
    repeat refine c_r ?_
    refine⟨rfl,rfl,rfl,vq0,vq0,lead (b:=true) ?_ (by simp only[go_sem];rw[h])⟩
    unfold zej;rw[h1,h2,h3,h];rfl
   intro h4
   repeat refine c_r ?_
   refine rg0 ?_
   refine⟨rfl,rfl,rfl,vq0,vq0,?_⟩
   rw[show zej t=decide (t=15) from by unfold zej;rw[h1,h2,h3,h4];rfl]
   simp only[go_sem]
  rintro _ σ1 _ v1 ⟨rfl,rfl,hv1,h1,h3,h8⟩
  rw[hv1]
  clear hv1 v1
  refine zav ?_
  refine zaB (t:=zej t) ((vq1 h8)) ?_ ?_
  ·intro hl
   have htg:∀ds:List DatL,zaz t ds=ds.filterMap fun d=>d.names.head?:=fun ds=>by unfold zaz;rw[if_pos hl]
   repeat refine c_r ?_
   refine rg3 h1 p3 Nat.zero_add ?_
   repeat refine c_r ?_
   refine zap (fun m σ ds' A=>ds'=[]∧∃(i:Nat) (ov:Value),i+m=ds.length∧σ 17=vi i∧σ 16=vi ds.length∧σ 15= .slice aD ds.length cD∧σ 3=ov∧Ext w1 A∧Owns 1 (NmC w0) w1.heap.size A 23 ov (zaz t (ds.take i))) ds.length ?_ ?_
   ·exact⟨rfl,0,.slice Option.none 0 0,by omega,vr0,vr0,vq0,(vq1 h3),Keep.refl _ _,by rw[htg];exact Owns.nil _ _ _ _ _⟩
   rintro m σ ds' A ⟨rfl,i,ov,him,h17,h16,h15,h3,hEA,hov⟩
   repeat refine c_r ?_
   refine rg2 h17 h16 ?_
   repeat refine c_r ?_
   refine wc0 ?_ ?_
   ·intro hlt
    simp only[decide_eq_true_eq]at hlt
    have hi:i<ds.length:=by omega
    have hi0:(0:Int)≤(i:Int):=by omega
    have hi1:(i:Int)<(ds.length:Int):=by omega
    have hi1':(i:Int)+1=((i+1:Nat):Int):=by push_cast;rfl
    obtain⟨cd,hcd,hDd⟩:=hgD i hi
    obtain⟨xD,rfl⟩:=Option.isSome_iff_exists.1 (zan hcd)
    have hcdA:=zae (hE1.trans hEA) hcd
    obtain⟨nm,nu,tx,rw',hcs,n1,_⟩:=hDd.ex
    obtain⟨vals,⟨an,cn,rfl,hcn,hgn⟩,hvl,hvr⟩:=n1
    have hcd1:=(zaR w0).ones hDd
    have hcdl:=(zaR w0).len hDd
    have htk:zaz t (ds.take (i+1))=zaz t (ds.take i)++(ds[i].names.head?).toList:=by
     rw[htg,htg,zao hi,List.filterMap_append]
     congr 1
    repeat refine c_r ?_
    refine rq ?_;intro gd K hgd hK
    try simp (disch:=first|omega|assumption|rfl) only[go_sem,h15,h17,hi0,hi1,hcdA]
    have hB3:=zaw A (.cells #[vi 0,.slice Option.none 0 0,.slice Option.none 0 0,.slice Option.none 0 0,.slice Option.none 0 0] 59 (0,0))
    have hE4:=Ext.alloc A (.cells #[vi 0,.slice Option.none 0 0,.slice Option.none 0 0,.slice Option.none 0 0,.slice Option.none 0 0] 59 (0,0))
    have hs4:=zam A (.cells #[vi 0,.slice Option.none 0 0,.slice Option.none 0 0,.slice Option.none 0 0,.slice Option.none 0 0] 59 (0,0))
    revert hB3 hE4 hs4
    generalize A.alloc (.cells #[vi 0,.slice Option.none 0 0,.slice Option.none 0 0,.slice Option.none 0 0,.slice Option.none 0 0] 59 (0,0))=A2
    intro hB3 hE4 hs4
    refine zaE (P:=Tryz.prog) (t:=59) (l:=cd) hB3 hcdl hcd1 (by rw[hcdl];rfl) rfl ?_
    intro A3 hs5 hB5 hk5
    try simp only[go_sem]
    refine hK _ _ ?_;clear hK hgd;clear K;try clear gd
    have hE5:Ext A A3:=Keep.to_ext hE4 rfl (fun b hb=>by omega) hk5
    have q1:zaf A3 (some ⟨A.heap.size,1,Option.none⟩)=some (.slice an vals.length cn):=zcl hB5 (by rw[hcs];rfl)
    have hEA3:=hEA.trans hE5
    repeat refine c_r ?_
    refine rg2 q1 Nat.zero_add ?_
    repeat refine c_r ?_
    refine wc0 ?_ ?_
    ·intro hgt
     simp only[decide_eq_true_eq]at hgt
     have hv0:0<vals.length:=by omega
     have hg0:=hgn 0 hv0
     obtain⟨xN,rfl⟩:=Option.isSome_iff_exists.1 (zai hg0)
     have hw03:Ext w0 A3:=hE0.trans (hE1.trans hEA3)
     have hg0':=zab hw03 hg0
     rw[zak]at hg0'
     obtain⟨n0,hn0⟩:∃n0,ds[i].names.head? =some n0∧Row w0 (vals[0]) (n0.map vs):=by
      have h1:=hvr 0 hv0 (by omega)
      refine⟨ds[i].names[0]'(by omega),?_,h1⟩
      rw[List.head?_eq_getElem?,List.getElem?_eq_getElem (by omega)]
     obtain⟨a0,c0,hv0e,_⟩:=id hn0.2
     have hz:(0:Int)≤0:=by omega
     repeat refine c_r ?_
     refine rq ?_;intro gd K hgd hK
     try simp (disch:=first|omega|assumption|rfl) only[go_sem,h3,q1,Nat.zero_add,hgt,hz,hg0',Int.toNat_zero,zak]
     refine zgc (z:= .slice Option.none 0 0) (v:=vals[0]) (by rfl) (by rfl) (by rfl) (by rfl) (by rw[hv0e];rfl) ?_
     intro A4 hE6 hs6 ho6
     try simp only[go_sem]
     have hrow:Rows 1 (NmC w0) A4 (.slice (some ⟨A3.heap.size,0,Option.none⟩) 1 1) [n0]:=by
      have h1:=ho6.k1 (fun q hq=>by rw[List.mem_singleton.1 hq,hv0e];rfl)
      exact⟨_,h1.rowK,rfl,fun j h h'=>by
       have:j=0:=by simp at h;omega
       subst this
       exact⟨_,rfl,hn0.2⟩⟩
     have htl2:(zaz t (ds.take i)).length≤ds.length:=by
      rw[htg]
      have:=List.length_filterMap_le (fun d:DatL=>d.names.head?) (ds.take i)
      rw[List.length_take]at this;omega
     refine zaI (nm_shape w0) ((hov.ext hE5).ext hE6) hrow (by rfl) (by rfl) (by rfl) (by rfl) (by rfl) (by rfl) (by decide) (vr0) (vr0) (by simp;omega) (by decide) (by have:=hEA3.size;have:=hE6.size;omega) ?_
     intro ov' A5 hov' hE7 _ _
     try simp only[go_sem]
     refine hK _ _ ?_;clear hK hgd;clear K;try clear gd
     repeat refine c_r ?_
     refine rg2 h17 hi1' ?_
     repeat refine c_r ?_
     exact⟨m - 1,by omega,rfl,i+1,ov',by omega,vq0,(vq1 h16),(vq1 h15),vq0,hE7 w1 (hEA3.trans hE6) (Nat.le_refl _),by rw[htk,hn0.1];exact hov'⟩
    ·intro hgt
     simp only[decide_eq_false_iff_not]at hgt
     have hnil:ds[i].names=[]:=List.length_eq_zero_iff.1 (by omega)
     repeat refine c_r ?_
     refine rg2 h17 hi1' ?_
     repeat refine c_r ?_
     exact⟨m - 1,by omega,rfl,i+1,ov,by omega,vq0,(vq1 h16),(vq1 h15),(vq1 h3),hEA3,by rw[htk,hnil];simpa using hov.ext hE5⟩
   ·intro hge
    simp only[decide_eq_false_iff_not]at hge
    rw[List.take_of_length_le (by omega)]at hov
    repeat refine c_r ?_
    exact⟨rfl,rfl,hEA,ov,h3,hov⟩
  ·intro hl
   have htg:zaz t ds=[]:=by unfold zaz;rw[hl];rfl
   repeat refine c_r ?_
   exact⟨rfl,rfl,Keep.refl _ _,_,h3,by rw[htg];exact Owns.nil _ _ _ _ _⟩
 ·rintro _ σ1 _ v1 ⟨rfl,rfl,hE2,ov,h3,hov⟩
  obtain⟨ag,cg,hov',hcg,_⟩:=hov.rows.open
  rw[hov']at hov
  repeat refine c_r ?_
  refine rq ?_;intro gd K hgd hK
  try simp (disch:=first|omega|assumption|rfl) only[go_sem,h3]
  rw[hov']
  refine Fn.mono (P_cm.Clip_ok hcg) ?_
  rintro _ y0 ⟨rfl,hy0⟩
  try simp only[go_sem]
  rw[hy0]
  clear hy0 y0
  refine hK _ _ ?_;clear hK hgd;clear K;try clear gd
  repeat refine c_r ?_
  refine rt0 Tryz.ntmps178 ?_
  have h4:=hov.rows.take (m:=(zaz t ds).length) (c2:=(zaz t ds).length) (Nat.le_refl _) (Nat.le_refl _)
  rw[List.take_length]at h4
  exact⟨hE1.trans hE2,h4,hov.blk.same.mono (by omega)⟩
section
variable {P : Program} {d : Option Tmp} {ty : TypeId} {ps : String} {af : Array Edge} {g : Option (Nat × Bool)} {ρ : Operand → Value} {w : World} {K : Value → World → Prop}
theorem zkv{op:BinOp}{t yt:TypeId}{x y:Operand}{u v r:Value}(hx:ρ x=u)(hy:ρ y=v)(hr:(do eqGuard op t x y u v;binOp op t u v:Sem Value).run P w= .ok r w)(h:K r w):
  opW P ⟨d,.binOp op t x y yt,ty,ps,af,g⟩ ρ w K:=by
 have:=zaQ (P:=P) (K:=K) hr h
 rw[←hx,←hy]at this
 exact this
theorem zhf{t te yt:TypeId}{j:TypeInfo}{x y:Operand}{a:Addr}(ht:tyU P t=some (.pointer te))(hj:P.info? te=some j)(hx:ρ x= .pointer (some a))(hy:ρ y= .pointer (some a))(h:K (.bool false) w):
  opW P ⟨d,.binOp .neq t x y yt,ty,ps,af,g⟩ ρ w K:=by
 refine zkv hx hy ?_ h
 simp[eqGuard,Lib.run_neq_ptr_same (P:=P) w a (show P.underlying t=_ from ht) hj]
theorem zkx{s t:TypeId}{x:Operand}{u v:Value}{w':World}(hx:ρ x=u)(hr:(convert s t u).run P w= .ok v w')(h:K v w'):opW P ⟨d,.convert s t x,ty,ps,af,g⟩ ρ w K:=by
 show opR P K ((do pure (.value (←convert s t (ρ x))):Sem Next).run P w)
 rw[hx]
 exact zaQ hr h
theorem op_appS{B:Nat}{s x:Operand}{t tu e:TypeId}{inf:TypeInfo}{v:Value}{l:List Value}{bs:List UInt8}(hown:Own B w e v l)(ht:tyU P t=some (.slice e))(hu:tyU P tu=some .string)(hi:P.info? e=some inf)(hz:inf.zero=some (.int .u8 0))
  (hsize:inf.size=1) (hby:inf.bytes=1) (hv:ρ s=v) (hx:ρ x=vs bs) (hlen:l.length+bs.length≤100000000000) (hB:B≤w.heap.size)
  (h:∀v' w',Own B w' e v' (l++bs.map zag)→Keep (fun b=>some b=v.ownBlock) w w'→K v' w'):
  opW P ⟨d,.call ⟨.builtin .append,#[s,x],#[t,tu]⟩,ty,ps,af,g⟩ ρ w K:=by
 have hs:(⟨bs.toArray⟩:ByteArray).size=bs.length:=by simp[ByteArray.size]
 obtain⟨v',w',hr,h2,h3,h4⟩:=Lib.run_append_own_string (P:=P) w B t tu ty e inf (show P.underlying t=_ from ht) (show P.underlying tu=_ from hu) hi hz hsize hby v l.length l hown ⟨bs.toArray⟩ (by rw[hs];simp[maxLen];omega) (by rw[hs];omega) hB
 have hc:Lib.strCells ⟨bs.toArray⟩=bs.map zag:=by simp[Lib.strCells,zag]
 rw[hs,hc]at h2
 refine zcX (b:= .append) (r:= .ok v' w') (fun v2 w2 h'=>?_) ⟨v',w',by rw[hv,hx];exact hr⟩
 rw[hv,hx]at h'
 have e1:(Builtin.append_ #[t,tu] ty #[v,.string ⟨bs.toArray⟩]).run P w= .ok v2 w2:=h'
 rw[hr]at e1
 cases e1
 have hl:l.length+bs.length=(l++bs.map zag).length:=by simp
 rw[hl]at h2
 exact h v' w' h2 (zfY h3 (za0 _ _ _ _ hr))
theorem zg9{x:Operand}{ts:Array TypeId}{u v:Value}{w':World}(hx:ρ x=u)(hr:(Builtin.unsafeSliceData_ ts ty #[u]).run P w= .ok v w')(h:K v w'):
  opW P ⟨d,.call ⟨.builtin .unsafeSliceData,#[x],ts⟩,ty,ps,af,g⟩ ρ w K:=by
 simp only[opW,execOp,Sem.run_bind,resolve]
 simp only[Sem.run_pure,Result.andThen_ok,invoke,builtin]
 exact zaQ (s:=Builtin.unsafeSliceData_ ts ty (Array.map ρ #[x])) (by simpa [hx] using hr) h
theorem zfc{x y:Operand}{ts:Array TypeId}{u z v:Value}{w':World}(hx:ρ x=u)(hy:ρ y=z)(hr:(Builtin.unsafeString_ ts ty #[u,z]).run P w= .ok v w')(h:K v w'):
  opW P ⟨d,.call ⟨.builtin .unsafeString,#[x,y],ts⟩,ty,ps,af,g⟩ ρ w K:=by
 simp only[opW,execOp,Sem.run_bind,resolve]
 simp only[Sem.run_pure,Result.andThen_ok,invoke,builtin]
 exact zaQ (s:=Builtin.unsafeString_ ts ty (Array.map ρ #[x,y])) (by simpa [hx,hy] using hr) h
end
structure Bld(B:Nat)(w:World)(b:Nat)(bs:List UInt8):Prop where
 ex:∃p v,(p= .pointer Option.none∨p= .pointer (some ⟨b,0,Option.none⟩))∧w.heap[b]? =some (.cells #[p,v] 307 (0,0))∧Own B w 5 v (bs.map zag)
theorem zgp{B:Nat}{w:World}{e:TypeId}{v:Value}{l:List Value}(h:Own B w e v l){b:Nat}(hb:some b=v.ownBlock):∃cur fr,w.heap[b]? =some (.cells cur e fr):=by
 rcases h.2 with ⟨rfl,_⟩| ⟨g,cap,cur,rfl,_,hg,_⟩
 ·cases hb
 ·cases hb;exact⟨_,_,hg⟩
theorem bld_ne{B:Nat}{w:World}{v p:Value}{l:List Value}{b:Nat}(h:Own B w 5 v l)(hb:w.heap[b]? =some (.cells #[p,v] 307 (0,0))):some b≠v.ownBlock:=fun he=>by
 obtain⟨cur,fr,h1⟩:=zgp h he
 rw[hb]at h1
 injection h1 with h1
 injection h1 with _ h2
 revert h2;decide
theorem zky(l:List UInt8):∀q∈l.map zag,one q=true:=fun q hq=>by
 obtain⟨c,_,rfl⟩:=List.mem_map.1 hq;rfl
theorem zez{w:World}{b:Nat}{p v:Value}(hp:p= .pointer Option.none∨p= .pointer (some ⟨b,0,Option.none⟩))(hb:w.heap[b]? =some (.cells #[p,v] 307 (0,0))):
  Fn Tryz.prog 236 #[.pointer (some ⟨b,0,Option.none⟩)] w (fun _ w'=>w'.heap[b]? =some (.cells #[.pointer (some ⟨b,0,Option.none⟩),v] 307 (0,0))∧Keep (fun i=>i=b) w w'∧w'.heap.size=w.heap.size):=by
 have c0:zaf w (some ⟨b,0,Option.none⟩)=some p:=zac hb rfl
 obtain⟨j,hj,hjs⟩:∃j,Tryz.prog.info? 307=some j∧j.size≠0:=by
  have:(Tryz.prog.info? 307).map (·.size)=some 2:=by kernel_rfl
  obtain⟨j,h1,h2⟩:=Option.map_eq_some_iff.1 this
  exact⟨j,h1,by rw[h2];decide⟩
 rcases hp with rfl|rfl
 ·refine enter Tryz.func236 Tryz.ntmps236 rfl rfl ?_
  repeat refine c_r ?_
  refine rq ?_;intro gd K hgd hK
  try simp (disch:=first|omega|assumption|rfl) only[go_sem,c0,Nat.add_zero]
  refine hK _ _ ?_;clear hK hgd;clear K;try clear gd
  repeat refine c_r ?_
  refine wc0 ?_ ?_
  ·intro _
   have hsh:w.shape? b=some (307,2):=by simp[World.shape?,hb]
   repeat refine c_r ?_
   refine rq ?_;intro gd K hgd hK
   try simp only[go_sem]
   refine zkx (by rfl) (Lib.run_to_unsafe w ⟨b,0,Option.none⟩ (by rfl) (by rfl) hj hjs hsh (Nat.zero_lt_succ 1)) ?_
   try simp only[go_sem]
   refine⟨.pointer (some ⟨b,0,Option.none⟩),w,?_,?_⟩
   ·rw[run_callFunc_extern (show Tryz.prog.funcs[249]? =_ from Tryz.func249) (by kernel_rfl) (by kernel_rfl) (by kernel_rfl) (e:=Extern.AbiNoEscape.same) (by kernel_rfl)]
    rw[Lib.run_noEscape]
    rfl
   try simp only[go_sem]
   refine zkx (by rfl) (Lib.run_from_unsafe w ⟨b,0,Option.none⟩ (by rfl) (by rfl) hj hsh (by kernel_rfl)) ?_
   try simp only[go_sem]
   refine zaV (P:=Tryz.prog) (t:=305) (j:=0) (l:=[.pointer Option.none,v]) hb (by simp) rfl rfl rfl ?_
   intro w1 hs1 hb1 hk1
   try simp only[go_sem]
   refine hK _ _ ?_;clear hK hgd;clear K;try clear gd
   repeat refine c_r ?_
   exact zaJ (by simp) rfl ⟨by simpa using hb1,hk1,hs1⟩
  ·intro h;cases h
 ·refine enter Tryz.func236 Tryz.ntmps236 rfl rfl ?_
  repeat refine c_r ?_
  refine rq ?_;intro gd K hgd hK
  try simp (disch:=first|omega|assumption|rfl) only[go_sem,c0,Nat.add_zero]
  refine hK _ _ ?_;clear hK hgd;clear K;try clear gd
  repeat refine c_r ?_
  refine wc0 ?_ ?_
  ·intro h;cases h
  intro _
  repeat refine c_r ?_
  refine rq ?_;intro gd K hgd hK
  try simp (disch:=first|omega|assumption|rfl) only[go_sem,c0,Nat.add_zero]
  refine zhf (by rfl) hj (by rfl) (by rfl) ?_
  try simp only[go_sem]
  refine hK _ _ ?_;clear hK hgd;clear K;try clear gd
  repeat refine c_r ?_
  refine wc0 ?_ ?_
  ·intro h;cases h
  intro _
  repeat refine c_r ?_
  exact zaJ (by simp) rfl ⟨hb,Keep.refl _ _,rfl⟩
theorem zdz{B:Nat}{w:World}{b:Nat}{bs s:List UInt8}(h:Bld B w b bs)(hB:B≤w.heap.size)(hlen:bs.length+s.length≤100000000000):
  Fn Tryz.prog 210 #[.pointer (some ⟨b,0,Option.none⟩),vs s] w (fun _ w'=>Bld B w' b (bs++s)∧Keep (fun i=>i=b∨B≤i) w w'):=by
 obtain⟨p,v,hp,hb,hown⟩:=h.ex
 have hne:=bld_ne hown hb
 obtain⟨inf,hi,hz,hsz,hby⟩:=info_parts (P:=Tryz.prog) (e:=5) (z:= .int .u8 0) (size:=1) (bytes:=1) (by kernel_rfl)
 refine enter Tryz.func210 Tryz.ntmps210 rfl rfl ?_
 repeat refine c_r ?_
 refine rg0 ?_
 repeat refine c_r ?_
 refine rq ?_;intro gd K hgd hK
 try simp only[go_sem]
 refine Fn.mono (zez hp hb) ?_
 rintro _ w1 ⟨hb1,hk1,hs1⟩
 try simp only[go_sem]
 refine hK _ _ ?_;clear hK hgd;clear K;try clear gd
 have hown1:=hown.keep hk1 (fun i hi he=>hne (he▸hi))
 have c1:zaf w1 (some ⟨b,1,Option.none⟩)=some v:=zac hb1 rfl
 repeat refine c_r ?_
 refine rq ?_;intro gd K hgd hK
 try simp (disch:=first|omega|assumption|rfl) only[go_sem,c1,Nat.zero_add]
 refine op_appS hown1 (by rfl) (by rfl) hi hz hsz hby (by rfl) (by rfl) (by simpa using hlen) (by omega) ?_
 intro v2 w2 hown2 hk2
 try simp only[go_sem]
 have hb2:=(hk2.block b (Array.getElem?_eq_some_iff.1 hb1).1 hne).trans hb1
 have hne2:some b≠v2.ownBlock:=fun he=>by
  obtain⟨cur,fr,h1⟩:=zgp hown2 he
  rw[hb2]at h1
  injection h1 with h1
  injection h1 with _ h2
  revert h2;decide
 obtain⟨a2,c2,hv2⟩:=hown2.slice
 refine zaV (P:=Tryz.prog) (t:=57) (j:=1) (l:=[.pointer (some ⟨b,0,Option.none⟩),v]) hb2 (by simp) (by rw[hv2];rfl) rfl rfl ?_
 intro w3 hs3 hb3 hk3
 try simp only[go_sem]
 refine hK _ _ ?_;clear hK hgd;clear K;try clear gd
 have hown3:=hown2.keep hk3 (fun i hi he=>hne2 (he▸hi))
 repeat refine c_r ?_
 refine rg0 ?_
 repeat refine c_r ?_
 refine zay (.inr rfl) Tryz.ntmps210 rfl (zar rfl (zar rfl zau)) ?_
 refine⟨⟨⟨_,v2,.inr rfl,by simpa using hb3,by rw[List.map_append];exact hown3⟩⟩,?_⟩
 exact((hk1.mono (fun i _ h=> .inl h)).trans (hk2.mono (fun i _ h=> .inr (hown1.ge h).1))).trans (hk3.mono (fun i _ h=> .inl h))
theorem zeD{B:Nat}{w:World}{b:Nat}{bs:List UInt8}{c:UInt8}(h:Bld B w b bs)(hB:B≤w.heap.size)(hlen:bs.length+1≤100000000000):
  Fn Tryz.prog 239 #[.pointer (some ⟨b,0,Option.none⟩),zag c] w (fun _ w'=>Bld B w' b (bs++ [c])∧Keep (fun i=>i=b∨B≤i) w w'):=by
 obtain⟨p,v,hp,hb,hown⟩:=h.ex
 have hne:=bld_ne hown hb
 refine enter Tryz.func239 Tryz.ntmps239 rfl rfl ?_
 repeat refine c_r ?_
 refine rg0 ?_
 repeat refine c_r ?_
 refine rq ?_;intro gd K hgd hK
 try simp only[go_sem]
 refine Fn.mono (zez hp hb) ?_
 rintro _ w1 ⟨hb1,hk1,hs1⟩
 try simp only[go_sem]
 refine hK _ _ ?_;clear hK hgd;clear K;try clear gd
 have hown1:=hown.keep hk1 (fun i hi he=>hne (he▸hi))
 have c1:zaf w1 (some ⟨b,1,Option.none⟩)=some v:=zac hb1 rfl
 repeat refine c_r ?_
 refine rq ?_;intro gd K hgd hK
 try simp (disch:=first|omega|assumption|rfl) only[go_sem,c1,Nat.zero_add]
 refine zgc (z:= .int .u8 0) (v:=zag c) (by rfl) (by rfl) (by rfl) (by rfl) (by rfl) ?_
 intro x1 hX1 hXs hXo
 try simp only[go_sem]
 refine zdU (B:=B) (hown1.ext hX1) hXo.row (by rfl) (by rfl) (by rfl) (by rfl) (by rfl) (by rfl) (by rfl) (by rfl) (zky [c]) (by simp;omega) (by decide) (by have:=hX1.size;omega) ?_
 intro v2 w2 hown2 _ hk2 hfr
 try simp only[go_sem]
 have hb2:=(hk2.block b (by have:=(Array.getElem?_eq_some_iff.1 hb1).1;have:=hX1.size;omega) hne).trans (Ext.at hX1 hb1)
 have hne2:some b≠v2.ownBlock:=fun he=>by
  obtain⟨cur,fr,h1⟩:=zgp hown2 he
  rw[hb2]at h1
  injection h1 with h1
  injection h1 with _ h2
  revert h2;decide
 obtain⟨a2,c2,hv2⟩:=hown2.slice
 refine zaV (P:=Tryz.prog) (t:=57) (j:=1) (l:=[.pointer (some ⟨b,0,Option.none⟩),v]) hb2 (by simp) (by rw[hv2];rfl) rfl rfl ?_
 intro w3 hs3 hb3 hk3
 try simp only[go_sem]
 refine hK _ _ ?_;clear hK hgd;clear K;try clear gd
 have hown3:=hown2.keep hk3 (fun i hi he=>hne2 (he▸hi))
 repeat refine c_r ?_
 refine rg0 ?_
 repeat refine c_r ?_
 refine zay (.inr rfl) Tryz.ntmps239 rfl (zar rfl zau) ?_
 refine⟨⟨⟨_,v2,.inr rfl,by simpa using hb3,by rw[List.map_append];exact hown3⟩⟩,?_⟩
 exact(((hk1.mono (fun i _ h=> .inl h)).trans (hX1.mono (fun i _ h=>h.elim))).trans (hk2.mono (fun i _ h=> .inr (hown1.ge h).1))).trans (hk3.mono (fun i _ h=> .inl h))
theorem zic(w:World)(p:Addr)(n:Nat):Keep (fun i=>i=p.block) w (w.freeze p n):=by
 unfold World.freeze
 split
 ·exact Keep.refl _ _
 ·exact⟨rfl,rfl,rfl,by simp,fun k hk hne=>by
   simp only[Array.getElem?_modify]
   rw[if_neg (fun h=>hne h.symm)],Nat.le_refl _⟩
theorem zhI{B:Nat}{w:World}{b:Nat}{bs:List UInt8}(h:Bld B w b bs)(h0:bs≠ [])(hlen:bs.length≤100000000000):
  Fn Tryz.prog 212 #[.pointer (some ⟨b,0,Option.none⟩)] w (fun v w'=>v=vs bs∧Keep (fun i=>B≤i) w w'):=by
 obtain⟨p,v,hp,hb,hown⟩:=h.ex
 rcases hown.2 with ⟨rfl,hl⟩| ⟨g,cap,cur,rfl,hgB,hg,hn,hcap,hcs,hx⟩
 ·exact absurd (by simpa using hl) h0
 simp only[List.length_map,Nat.mul_one]at hn hx hb hcs
 have hlen0:0<bs.length:=List.length_pos_iff.2 h0
 refine enter Tryz.func212 Tryz.ntmps212 rfl rfl ?_
 repeat refine c_r ?_
 refine rg0 ?_
 repeat refine c_r ?_
 have hbg:b≠g:=fun he=>by
  subst he
  rw[hb]at hg
  injection hg with hg
  injection hg with _ h2
  revert h2;decide
 have hc0:cap≠0:=by omega
 refine zaN (fun _=>false) [(0,true),(1,true),(2,true),(3,true),(5,true),(6,true),(7,true),(8,true),(9,true),(4,false),(10,false),(11,true)] ((fun i=>i=g)) mixed (by kernel_rfl) ?_;intro gd K x hgd hx hxe hK;have hx0:=zfM hxe;clear hxe
 have c1:zaf x (some ⟨b,1,Option.none⟩)=some (.slice (some ⟨g,0,Option.none⟩) bs.length cap):=zac (Ext.at hx0 hb) rfl
 have hgx:=Ext.at hx0 hg
 simp (disch:=first|omega|assumption|rfl) only[go_sem,c1,Nat.zero_add]
 refine⟨fun a ha hb=>(by cases ha;exact hbg hb),fun a ha hb=>(by cases ha;exact hbg hb),?_⟩
 refine zg9 (u:= .slice (some ⟨g,0,Option.none⟩) bs.length cap) (vq0) (Lib.run_unsafeSliceData_row _ _ _ _ _ _ hc0) ?_
 refine⟨.inr (Keep.refl _ _),?_⟩
 refine zfc (u:= .pointer (some ⟨g,0,Option.none⟩)) (z:=vi bs.length) (vq0) (vq0) (Lib.run_unsafeString_row (P:=Tryz.prog) _ _ _ _ 5 (by rfl) (by rfl) g (cap*1) (by simp[World.shape?,hgx,hcs]) bs h0 (by omega) (by omega) ?_) ?_
 ·intro j y hj
  obtain⟨hj1,hj2⟩:=List.getElem?_eq_some_iff.1 hj
  have hcell:=hown.row
  obtain⟨a,c,e,hc,hgt⟩:=hcell.ext hx0
  injection e with e1 e2 e3
  have h2:=hgt j (by simpa using hj1)
  rw[←e1,List.getElem_map,hj2]at h2
  exact h2
 have hfk:Keep (fun i=>i=g) x (x.freeze ⟨g,0,Option.none⟩ bs.length):=zic x ⟨g,0,Option.none⟩ bs.length
 refine⟨.inr hfk,?_⟩
 refine hK _ _ ?_;clear hK hgd;clear K;try clear gd
 repeat refine c_r ?_
 refine zay (.inr rfl) Tryz.ntmps212 rfl (zar (vr0) zau) ?_
 exact⟨rfl,(hx0.mono (fun i _ h=>h.elim)).trans (hfk.mono (fun i _ h=>h▸hgB))⟩
end Go.Proofs.YtopbbjdembnfdaaGreat
namespace Go.Proofs
open Go.Shelf
def Tryz.lays137_ren:Go.Shelf.Ren:=⟨fun|137=>238|217=>250|266=>256|n=>n,fun|9=>9|5=>5|3=>3|n=>n,fun|n=>n⟩
theorem Tryz.lays137:Go.Proofs.Lays.n137 Tryz.prog Tryz.lays137_ren:={
 mixed:=by kernel_rfl
 f137:=Tryz.func238.trans (congrArg some (by kernel_rfl))
 f217:=Tryz.func250.trans (congrArg some (by kernel_rfl))
 f266:=Tryz.func256.trans (congrArg some (by kernel_rfl))
 t3:=Tryz.underlying3
 a3:=Tryz.isAgg3
 z3:=Tryz.sizeOf3
 v3:=Tryz.zeroValue3
 t5:=Tryz.underlying5
 a5:=Tryz.isAgg5
 z5:=Tryz.sizeOf5
 v5:=Tryz.zeroValue5
 t9:=Tryz.underlying9
 a9:=Tryz.isAgg9
 z9:=Tryz.sizeOf9
 v9:=Tryz.zeroValue9}
end Go.Proofs
namespace Go.Proofs.YtopbbjdembnfdaaGreat
open Go
set_option maxRecDepth 10000
def escB(c:UInt8):List UInt8:=[92,UInt8.ofNat (48+c.toNat / 100),UInt8.ofNat (48+c.toNat / 10 % 10),UInt8.ofNat (48+c.toNat % 10)]
def marksL:List UInt8:=[46,92,34,40,41,59,64,36]
def labB(c:UInt8):List UInt8:=if c.toNat≤32∨127≤c.toNat then escB c else if marksL.contains c then [92,c] else [c]
def za2(l:Lab):List UInt8:=l.flatMap labB
def zaX(n:Nm):List UInt8:=if n=[] then [46] else n.flatMap fun l=>za2 l++ [46]
theorem zcp{k:Nat}(h:k<256):zag (UInt8.ofNat k)= .int .u8 (k:Int):=by
 unfold zag
 rw[UInt8.toNat_ofNat_of_lt' (by simpa [UInt8.size] using h)]
theorem zgx(l:List UInt8)(c:UInt8):decide (0≤Lib.indexByte l c)=l.contains c:=by
 induction l with
 |nil=>rfl
 |cons b l ih=>
  unfold Lib.indexByte
  rw[List.contains_cons]
  by_cases h:b==c
  ·rw[if_pos h]
   have h':b=c:=by simpa using h
   subst h'
   simp
  ·rw[if_neg h]
   have:(c==b)=false:=by
    have h':¬b=c:=by simpa using h
    exact beq_eq_false_iff_ne.2 (fun e=>h' e.symm)
   rw[this,Bool.false_or,←ih]
   have hge:=Lib.indexByte_ge l c
   by_cases h2:(Lib.indexByte l c== -1)=true
   ·rw[if_pos h2]
    have h3:Lib.indexByte l c= -1:=by simpa using h2
    rw[h3]
   ·rw[if_neg h2]
    have h3:Lib.indexByte l c≠ -1:=by simpa using h2
    exact decide_eq_decide.2 ⟨fun _=>by omega,fun _=>by omega⟩
theorem labB_ne(c:UInt8):labB c≠ []:=by
 unfold labB escB
 by_cases h1:c.toNat≤32∨127≤c.toNat
 ·rw[if_pos h1];exact List.cons_ne_nil _ _
 ·rw[if_neg h1]
  by_cases h2:marksL.contains c=true
  ·rw[if_pos h2];exact List.cons_ne_nil _ _
  ·rw[if_neg h2];exact List.cons_ne_nil _ _
theorem labB_len(c:UInt8):(labB c).length≤4:=by
 unfold labB escB
 by_cases h1:c.toNat≤32∨127≤c.toNat
 ·rw[if_pos h1];exact Nat.le_refl _
 ·rw[if_neg h1]
  by_cases h2:marksL.contains c=true
  ·rw[if_pos h2];exact(by decide:2≤4)
  ·rw[if_neg h2];exact(by decide:1≤4)
theorem zcv(l:Lab):(za2 l).length≤4*l.length:=by
 induction l with
 |nil=>simp[za2]
 |cons c l ih=>
  have:=labB_len c
  unfold za2 at*
  rw[List.flatMap_cons,List.length_append,List.length_cons];omega
theorem zlT(w:World)(c:UInt8):Fn Tryz.prog 237 #[zag c] w (fun v w'=>v=vs (escB c)∧Ext w w'):=by
 have hc:c.toNat<256:=c.toNat_lt
 obtain⟨n,hn⟩:∃n,c.toNat=n:=⟨_,rfl⟩
 have e0:zag c= .int .u8 (n:Int):=by unfold zag;rw[hn]
 rw[e0]
 rw[hn]at hc
 have h100:¬(100:Int)=0:=by decide
 have h10:¬(10:Int)=0:=by decide
 have e1:((n:Nat):Int).tdiv 100=((n / 100:Nat):Int):=by rw[Int.tdiv_eq_ediv_of_nonneg (by omega)];omega
 have e2:((n:Nat):Int).tdiv 10=((n / 10:Nat):Int):=by rw[Int.tdiv_eq_ediv_of_nonneg (by omega)];omega
 have e3:((n / 10:Nat):Int).tmod 10=((n / 10 % 10:Nat):Int):=by rw[Int.tmod_eq_emod_of_nonneg (by omega)];omega
 have e4:((n:Nat):Int).tmod 10=((n % 10:Nat):Int):=by rw[Int.tmod_eq_emod_of_nonneg (by omega)];omega
 have w1:IntKind.u8.wrap ((n / 100:Nat):Int)=((n / 100:Nat):Int):=zeX (by omega) (by omega)
 have w2:IntKind.u8.wrap ((n / 10:Nat):Int)=((n / 10:Nat):Int):=zeX (by omega) (by omega)
 have w3:IntKind.u8.wrap (48+((n / 100:Nat):Int))=((48+n / 100:Nat):Int):=by rw[zeX (by omega) (by omega)];push_cast;rfl
 have w4:IntKind.u8.wrap (48+((n / 10 % 10:Nat):Int))=((48+n / 10 % 10:Nat):Int):=by rw[zeX (by omega) (by omega)];push_cast;rfl
 have w5:IntKind.u8.wrap (48+((n % 10:Nat):Int))=((48+n % 10:Nat):Int):=by rw[zeX (by omega) (by omega)];push_cast;rfl
 have hl:escB c=[92,UInt8.ofNat (48+n / 100),UInt8.ofNat (48+n / 10 % 10),UInt8.ofNat (48+n % 10)]:=by unfold escB;rw[hn]
 refine enter Tryz.func237 Tryz.ntmps237 rfl rfl ?_
 repeat refine c_r ?_
 refine rg0 ?_
 repeat refine c_r ?_
 refine rq ?_;intro gd K hgd hK
 try simp (disch:=assumption) only[go_sem,b_quo,b_rem,e1,e2,e3,e4,w1,w2,↓w3,↓w4,↓w5]
 refine zbU (z:= .int .u8 0) (l:=(escB c).map zag) (by rw[hl];rfl) ?_ (by rfl) (by rfl) (by rfl) (by rfl) (fun v hv=>?_) (by rw[hl];simp) ?_
 ·rw[hl]
  simp only[List.map_cons,List.map_nil]
  rw[zcp (by omega),zcp (by omega),zcp (by omega)];rfl
 ·obtain⟨d,_,rfl⟩:=List.mem_map.1 hv;rfl
 intro x1 hX1 hXs hXo
 try simp only[go_sem]
 have hlen4:(escB c).length=4:=rfl
 refine zbf (l:=escB c) rfl rfl rfl (vr0) (fun j hj=>?_) ?_
 ·obtain⟨a,c2,e,hc2,hgt⟩:=hXo.row
  injection e with e1
  have h2:=hgt j (by simpa using hj)
  rw[←e1,List.getElem_map]at h2
  exact h2
 try simp only[go_sem]
 refine hK _ _ ?_;clear hK hgd;clear K;try clear gd
 repeat refine c_r ?_
 refine rt0 Tryz.ntmps237 ?_
 exact⟨rfl,hX1⟩
theorem zhR(w:World)(c:UInt8):Fn Tryz.prog 238 #[vs marksL,zag c] w (fun v w'=>v=vi (Lib.indexByte marksL c)∧w'=w):=
 Fn.of_calls (Calls.mono (Any.strings_IndexByte Tryz.lays137 ⟨marksL.toArray⟩ (c.toNat:Int) w) fun _ _ ⟨he,hw⟩=>⟨_,he,by simp,hw⟩)
theorem Bld.ext'{B:Nat}{w x:World}{b:Nat}{bs:List UInt8}(h:Bld B w b bs)(hE:Ext w x):Bld B x b bs:=by
 obtain⟨p,v,hp,hb,hown⟩:=h.ex
 exact⟨p,v,hp,hE.at hb,hown.ext hE⟩
theorem LText_ok(w:World)(l:Lab)(h0:l≠ [])(hl:l.length≤1000000000):Fn Tryz.prog 211 #[vs l] w (fun v w'=>v=vs (za2 l)∧Ext w w'):=by
 refine enter Tryz.func211 Tryz.ntmps211 rfl rfl ?_
 repeat refine c_r ?_
 refine rg0 ?_
 repeat refine c_r ?_
 refine rg0 ?_
 refine zaA ?_
 intro w1 hE1 hs1 hA
 repeat refine c_r ?_
 refine rq ?_;intro gd K hgd hK
 try simp only[go_sem]
 refine Fn.mono (zhe _ _ (by omega)) ?_
 rintro _ w3 ⟨hE3,cap,rfl,hit⟩
 try simp only[go_sem]
 refine hK _ _ ?_;clear hK hgd;clear K;try clear gd
 have hA3:=hE3.at hA
 have s3:=hE3.size
 repeat refine c_r ?_
 refine zdH (g:=192) (cap:=cap) (vq0) rfl (hit (fun b=>b=w.heap.size) (fun b hb=>by omega)) (Keep.refl _ _) (Nat.le_refl _) (fun b hb=>by omega)
  (fun x A args h=>by rw[h];rfl)
  (fun pre A=>Ext w A∧Bld (w3.heap.size+2) A w.heap.size (za2 (l.take pre.length)))
  (fun _ _ _=>False) ?_ (fun _ _ _ _ h _=>h.elim) ?_ ?_ ?_ (fun _ _ _ _ _ _ _ h _=>h.elim)
 ·rintro pre A B ⟨h1,p,v,hp,hb,hown⟩ hk
  refine⟨Keep.to_ext h1 rfl (fun b hb=>by unfold two at hb;omega) hk,p,v,hp,(hk.block _ (Array.getElem?_eq_some_iff.1 hb).1 (by unfold two;omega)).trans hb,hown.keep hk (fun b hb h=>by have:=(hown.ge hb).1;unfold two at h;omega)⟩
 ·exact⟨hE1.trans hE3,_,_,.inl rfl,hA3,Own.nil _ _ _⟩
 ·rintro lp pre x suf A args hxs hszA ⟨hEA,hB⟩ rfl
  obtain⟨hk,rfl⟩:=zer hxs
  dsimp only
  refine rq ?_;intro gd K hgd hK
  try simp only[go_sem]
  refine hK _ _ ?_;clear hK hgd;clear K;try clear gd
  refine zav ?_
  refine⟨rfl,KeepB.refl _ _ _,fun A2 hA2=>?_⟩
  obtain⟨c,hc⟩:∃c,l[pre.length]=c:=⟨_,rfl⟩
  rw[hc]
  have hK2:Bld (w3.heap.size+2) A2 w.heap.size (za2 (l.take pre.length)):=by
   obtain⟨p,v,hp,hb,hown⟩:=hB
   exact⟨p,v,hp,(hA2.block _ (Array.getElem?_eq_some_iff.1 hb).1 (by unfold two;omega)).trans hb,hown.keep hA2 (fun b hb h=>by have:=(hown.ge hb).1;unfold two at h;omega)⟩
  have hE2:Ext w A2:=Keep.to_ext hEA rfl (fun b hb=>by unfold two at hb;omega) hA2
  have hsA2:=hA2.size
  have htl:(za2 (l.take pre.length)).length≤4*l.length:=by
   have h1:=zcv (l.take pre.length)
   rw[List.length_take]at h1;omega
  have htk:za2 (l.take (pre.length+1))=za2 (l.take pre.length)++labB c:=by
   rw[zao hk,hc];unfold za2;rw[List.flatMap_append];simp
  have fin:∀{z:World} {bs:List UInt8},bs=labB c→Bld (w3.heap.size+2) z w.heap.size (za2 (l.take pre.length)++bs)→Keep (fun i=>i=w.heap.size∨w3.heap.size+2≤i) A2 z→
    (Ext w z∧Bld (w3.heap.size+2) z w.heap.size (za2 (l.take (pre++ [(c,pre.length)]).length)))∧KeepB (w3.heap.size+2) (fun b=>b=w.heap.size) A2 z:=fun {z bs} hbs hBz hkz=>by
   refine⟨⟨Keep.to_ext hE2 rfl (fun b hb=>by omega) hkz,?_⟩,hkz.toB (by omega) (fun i hi h=>by omega)⟩
   rw[List.length_append,List.length_singleton,htk,←hbs];exact hBz
  repeat refine c_r ?_
  refine zaC (Q:=fun e σ' ds' v'=>e= .normal∧ds'=[]∧v'=A2∧σ' 5=zag c∧σ' 3= .pointer (some ⟨w.heap.size,0,Option.none⟩)∧σ' 10= .bool (decide (c.toNat≤32∨127≤c.toNat))) ?_ ?_
  ·refine rq ?_;intro gd K hgd hK
   have hg2:∀n σ b,zas gd n σ (some (2,b))=zal (ev n σ (.tmp 13)) b:=(fun n σ b=>by rw[zad,show gd 2=some 13 from(by rw[hgd];rfl)];rfl)
   by_cases c1:(c.toNat:Int)≤32
   ·try simp (disch:=first|omega|assumption|rfl) only[go_sem,zag,decide_eq_true c1,↓hg2]
    refine hK _ _ ?_;clear hK hgd;clear K;try clear gd
    refine⟨rfl,rfl,rfl,by simp only[go_sem,zag],vq0,?_⟩
    rw[show decide (c.toNat≤32∨127≤c.toNat)=true from decide_eq_true (.inl (by omega))]
    simp only[go_sem]
   ·try simp (disch:=first|omega|assumption|rfl) only[go_sem,zag,decide_eq_false c1,↓hg2]
    refine hK _ _ ?_;clear hK hgd;clear K;try clear gd
    refine⟨rfl,rfl,rfl,by simp only[go_sem,zag],vq0,?_⟩
    rw[show decide (c.toNat≤32∨127≤c.toNat)=decide ((127:Int)≤(c.toNat:Int)) from decide_eq_decide.2 ⟨fun h=>by omega,fun h=> .inr (by omega)⟩]
    simp only[go_sem]
  rintro _ σ1 _ v1 ⟨rfl,rfl,hv1,h5,h3,h10⟩
  rw[hv1]
  clear hv1 v1
  repeat refine c_r ?_
  refine zaB (t:=decide (c.toNat≤32∨127≤c.toNat)) ((vq1 h10)) ?_ ?_
  ·intro hcc
   simp only[decide_eq_true_eq]at hcc
   have hlb:labB c=escB c:=by unfold labB;rw[if_pos hcc]
   repeat refine c_r ?_
   refine rq ?_;intro gd K hgd hK
   try simp (disch:=first|omega|assumption|rfl) only[go_sem,h5,h3]
   refine Fn.mono (zlT A2 c) ?_
   rintro _ z1 ⟨rfl,hz1⟩
   try simp (disch:=first|omega|assumption|rfl) only[go_sem,h3]
   have hBz:=hK2.ext' hz1
   refine Fn.mono (zdz hBz (by have:=hz1.size;omega) (by have:(escB c).length=4:=rfl;omega)) ?_
   rintro _ z2 ⟨hBz2,hkz2⟩
   try simp only[go_sem]
   refine hK _ _ ?_;clear hK hgd;clear K;try clear gd
   repeat refine c_r ?_
   exact fin hlb.symm hBz2 ((hz1.mono (fun i _ h=>h.elim)).trans hkz2)
  ·intro hcc
   simp only[decide_eq_false_iff_not]at hcc
   repeat refine c_r ?_
   refine rq ?_;intro gd K hgd hK
   try simp (disch:=first|omega|assumption|rfl) only[go_sem,h5]
   refine Fn.mono (zhR A2 c) ?_
   rintro _ y0 ⟨rfl,hy0⟩
   try simp only[go_sem]
   rw[hy0]
   clear hy0 y0
   refine hK _ _ ?_;clear hK hgd;clear K;try clear gd
   have hhas:=zgx marksL c
   have tail:∀{z:World} {σ':Sto} {bs:List UInt8},bs++ [c]=labB c→Bld (w3.heap.size+2) z w.heap.size (za2 (l.take pre.length)++bs)→Keep (fun i=>i=w.heap.size∨w3.heap.size+2≤i) A2 z→σ' 5=zag c→σ' 3= .pointer (some ⟨w.heap.size,0,Option.none⟩)→bs.length≤4→
     Fn Tryz.prog 239 #[.pointer (some ⟨w.heap.size,0,Option.none⟩),zag c] z (fun _ z'=>(Ext w z'∧Bld (w3.heap.size+2) z' w.heap.size (za2 (l.take (pre++ [(c,pre.length)]).length)))∧KeepB (w3.heap.size+2) (fun b=>b=w.heap.size) A2 z'):=fun {z σ' bs} hbs hBz hkz _ _ hb4=>by
    refine Fn.mono (zeD hBz (by have:=hkz.size;omega) (by simp;omega)) ?_
    rintro _ z' ⟨h1,h2⟩
    exact fin hbs (by rw[←List.append_assoc];exact h1) (hkz.trans h2)
   repeat refine c_r ?_
   refine zaB (t:=marksL.contains c) (by rw[←hhas];simp only[go_sem]) ?_ ?_
   ·intro hm
    have hlb:labB c=[92,c]:=by unfold labB;rw[if_neg hcc,if_pos hm]
    repeat refine c_r ?_
    refine rq ?_;intro gd K hgd hK
    try simp (disch:=first|omega|assumption|rfl) only[go_sem,h3]
    refine Fn.mono (zeD (c:=92) hK2 (by omega) (by omega)) ?_
    rintro _ z1 ⟨hBz1,hkz1⟩
    try simp only[go_sem]
    refine hK _ _ ?_;clear hK hgd;clear K;try clear gd
    repeat refine c_r ?_
    refine rq ?_;intro gd K hgd hK
    try simp (disch:=first|omega|assumption|rfl) only[go_sem,h3,h5]
    refine Fn.mono (tail (σ':=σ1) (bs:=[92]) hlb.symm hBz1 hkz1 h5 h3 (by decide)) ?_
    rintro _ z2 hz2
    try simp only[go_sem]
    refine hK _ _ ?_;clear hK hgd;clear K;try clear gd
    repeat refine c_r ?_
    exact hz2
   ·intro hm
    have hlb:labB c=[c]:=by unfold labB;rw[if_neg hcc,if_neg (by rw[hm];exact Bool.false_ne_true)]
    repeat refine c_r ?_
    refine rq ?_;intro gd K hgd hK
    try simp (disch:=first|omega|assumption|rfl) only[go_sem,h3,h5]
    refine Fn.mono (tail (σ':=σ1) (bs:=[]) hlb.symm (by simpa using hK2) (Keep.refl _ _) h5 h3 (by decide)) ?_
    rintro _ z2 hz2
    try simp only[go_sem]
    refine hK _ _ ?_;clear hK hgd;clear K;try clear gd
    repeat refine c_r ?_
    exact hz2
 ·intro A hszA ⟨hEA,hB⟩ hD
  rw[List.take_of_length_le (by simp)]at hB
  have htx:za2 l≠ []:=by
   cases l with
   |nil=>exact absurd rfl h0
   |cons c l=>
    unfold za2
    rw[List.flatMap_cons]
    intro h
    exact labB_ne c (List.append_eq_nil_iff.1 h).1
  have hlt:=zcv l
  repeat refine c_r ?_
  refine rq ?_;intro gd K hgd hK
  try simp only[go_sem]
  refine Fn.mono (zhI hB htx (by omega)) ?_
  rintro _ z ⟨rfl,hkz⟩
  try simp only[go_sem]
  refine hK _ _ ?_;clear hK hgd;clear K;try clear gd
  repeat refine c_r ?_
  refine zdQ (v:=vs (za2 l)) (.inr rfl) (by rfl) Tryz.ntmps211 (vq0) ((hkz.block _ (by omega) (by omega)).trans hD) ?_
  intro Z hkZ hsZ
  exact⟨rfl,Keep.to_ext (Keep.to_ext hEA rfl (fun b hb=>by omega) hkz) rfl (fun b hb=>by omega) hkZ⟩
end Go.Proofs.YtopbbjdembnfdaaGreat
