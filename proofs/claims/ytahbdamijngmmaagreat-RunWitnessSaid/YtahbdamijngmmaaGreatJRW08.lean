/-
  Texts of a proof, joined: E11, E12, E13, F6, F7, F8, F9, G0, G1, G2.
  Conditions: none.
-/
import Derived.Test.YtahbdamijngmmaaGreatJRW07
import Derived.Test.YtahbdamijngmmaaGreatJRW03
set_option linter.unusedVariables false
set_option linter.unusedSimpArgs false
set_option linter.defProp false
set_option linter.unnecessarySimpa false
set_option maxHeartbeats 8000000
namespace Go.Proofs.YtahbdamijngmmaaGreat
open Go
set_option maxRecDepth 10000
def zgc(R:List RecL)(hs:List Nm):List (Nm×List DatL):=hs.filterMap fun h=>if zcG R h=[] then Option.none else some (h,zcG R h)
def zdB(R:List RecL)(cut:Nm):ResL:=⟨4,datC R cut 2,cut,false,zgc R (zbJ 2 (datC R cut 2))⟩
theorem zgb(R:List RecL)(a:List Nm)(h:Nm):zgc R (a++ [h])=zgc R a++(if zcG R h=[] then [] else [(h,zcG R h)]):=by
 unfold zgc
 rw[List.filterMap_append]
 congr 1
 by_cases hg:zcG R h=[]
 ·simp[hg]
 ·simp[hg]
abbrev GlX:=(Nm×List DatL)×(Value×Value)
def glC(cs:List Value)(x:GlX):Prop:=cs=[x.2.1,x.2.2]∧one x.2.1=true∧one x.2.2=true
theorem zjg:zeQ 2 glC:=by
 refine⟨fun h=>?_,fun h=>?_⟩
 ·rw[h.1];rfl
 ·intro q hq
  rw[h.1]at hq
  simp at hq
  rcases hq with rfl|rfl
  ·exact h.2.1
  ·exact h.2.2
theorem ze9(t:Int)(ds:List DatL):(zaw t ds).length≤ds.length:=by
 unfold zaw
 split
 ·exact List.length_filterMap_le _ _
 ·simp
theorem zb6:∀(had:List (List UInt8)) (l:List Nm),∀x∈zbz had l,x∈l
 |_,[],x,h=>by cases h
 |had,y::l,x,h=>by
  unfold zbz at h
  split at h
  ·exact List.mem_cons_of_mem _ (zb6 had l x h)
  ·rcases List.mem_cons.1 h with rfl|h
   ·exact List.mem_cons_self ..
   ·exact List.mem_cons_of_mem _ (zb6 _ l x h)
theorem zdj:∀(had:List (List UInt8)) (l:List Nm),(zbz had l).length≤l.length
 |_,[]=>Nat.le_refl _
 |had,y::l=>by
  unfold zbz
  split
  ·have:=zdj had l;rw[List.length_cons];omega
  ·have:=zdj (zbI y::had) l;rw[List.length_cons,List.length_cons];omega
theorem zga(R:List RecL)(hs:List Nm):(zgc R hs).length≤hs.length:=List.length_filterMap_le _ _
theorem Rows.mapM{α β:Type}{k:Nat}{C:List Value→α→Prop}{C':List Value→β→Prop}{w:World}{v:Value}{xs:List α}(h:Rows k C w v xs)(f:α→β)(hC:∀cs x,x∈xs→C cs x→C' cs (f x)):Rows k C' w v (xs.map f):=by
 obtain⟨L,h1,h2,h3⟩:=h
 refine⟨L,h1,by rw[List.length_map];exact h2,fun i h h'=>?_⟩
 rw[List.length_map]at h'
 rw[List.getElem_map]
 exact hC _ _ (List.getElem_mem h') (h3 i h h')
structure RfI(w0 w:World)(D b2 b4 b7:Nat)(ov lv dv sv:Value)(cut:Nm)(R:List RecL)(ds:List DatL)(pre:List Nm)(U:Nat→Prop)(A:World):Prop where
 e:Ext w A
 sz:D≤A.heap.size
 z:A.heap[b2]? =some (.cells #[ov,lv] 122 (0,0))
 c:A.heap[b4]? =some (.cells #[vi 0,.slice Option.none 0 0,.slice Option.none 0 0,.bool false,.slice Option.none 0 0] 184 (0,0))
 d:Rows 5 (DatAt w0) A dv ds
 s:Row A sv (cut.map vs)
 g:∃gv,∃G:List GlX,A.heap[b7]? =some (.cells #[vi 4,dv,sv,.bool false,gv] 184 (0,0))∧G.map Prod.fst=zgc R pre∧Owns 2 glC (D+3) A 382 gv G∧(∀x∈G,Row w0 x.2.1 (x.1.1.map vs)∧Rows 5 (DatAt w0) A x.2.2 x.1.2∧BlkB (D+3) A x.2.2∧∀a n c,x.2.2= .slice (some a) n c→some a.block≠gv.ownBlock)∧∀b,U b↔some b=gv.ownBlock
theorem Refer_ok{w0 w:World}{ov lv nv:Value}{o cut:Nm}{R:List RecL}(hz:ZnAt w0 w ov lv o R)(hR:zey R)(hn:Row w nv (cut.map vs))(hok:NmS cut):
  Fn Tryz.prog 198 #[.agg #[ov,lv],nv] w (fun v w'=>Ext w w'∧∃cs,v= .agg cs.toArray∧ResB w0 w.heap.size w' cs (zdB R cut)):=by
 obtain⟨ao,co,hov,_⟩:=id hz.org
 obtain⟨al,cl,hlv,_⟩:=hz.recs.open
 rw[hov,hlv]
 refine enter Tryz.func198 Tryz.ntmps198 rfl rfl ?_
 repeat refine c_r ?_
 refine rg0 ?_
 repeat refine c_r ?_
 rw[←hov,←hlv]
 rw[zai]
 refine zaO ?_
 intro w1 hE1 hs1 hA hC
 have p1:zae w1 (some ⟨w.heap.size,1,Option.none⟩)=some lv:=zab hA rfl
 have hz1:=hz.ext hE1
 refine rq ?_;intro gd K hgd hK
 try simp (disch:=first|omega|assumption|rfl) only[go_sem,p1,Nat.zero_add]
 refine Fn.mono (Of_ok hz1.e0 hz1.recs (hn.ext hE1) hok.lb (by have:=hok.len;omega) hz.ok hz.rl) ?_
 rintro _ w2 ⟨hE2,ow,ty,tl,dv,rfl,how,hty,hdv,hdb⟩
 have hdd:(ofC R cut 2).map RecL.dat=datC R cut 2:=rfl
 rw[hdd]at hdv
 obtain⟨bb,hbb⟩:∃bb:Bool,decide (ofC R cut 2≠ [])=bb:=⟨_,rfl⟩
 rw[hbb]
 try simp only[go_sem]
 have hB3:=zao w2 (.cells #[.slice Option.none 0 0,vi 0,v32 0,.slice Option.none 0 0] 340 (0,0))
 have hE4:=Ext.alloc w2 (.cells #[.slice Option.none 0 0,vi 0,v32 0,.slice Option.none 0 0] 340 (0,0))
 have hs4:=zai w2 (.cells #[.slice Option.none 0 0,vi 0,v32 0,.slice Option.none 0 0] 340 (0,0))
 revert hB3 hE4 hs4
 generalize w2.alloc (.cells #[.slice Option.none 0 0,vi 0,v32 0,.slice Option.none 0 0] 340 (0,0))=w3
 intro hB3 hE4 hs4
 obtain⟨ad,cd,hdv',hcd,_⟩:=hdv.open
 refine zaM (P:=Tryz.prog) (t:=340) (l:=[ow,vi ty,v32 tl,dv]) hB3 rfl (fun v h=>by
  simp at h
  rcases h with rfl|rfl|rfl|rfl
  ·exact how
  ·rfl
  ·rfl
  ·rw[hdv'];rfl) rfl rfl ?_
 intro w4 hs5 hB5 hk5
 try simp only[go_sem]
 refine hK _ _ ?_;clear hK hgd;clear K;try clear gd
 have hE5:Ext w2 w4:=Keep.to_ext hE4 rfl (fun b hb=>by omega) hk5
 have hE14:=hE2.trans hE5
 have hEw4:=hE1.trans hE14
 have q3:zae w4 (some ⟨w2.heap.size,3,Option.none⟩)=some dv:=zcs hB5 rfl
 have hdv4:=hdv.ext hE5
 have hdb4:BlkB w.heap.size w4 dv:=(hdb.ext hE5.size).mono hE1.size
 have e1:=hE1.size
 have e2:=hE14.size
 clear hB3 hE4 hs4 hk5 hs5
 repeat refine c_r ?_
 refine zay (Q:=fun e σ' ds' v'=>e= .normal∧ds'=[]∧σ' 2= .pointer (some ⟨w.heap.size,0,Option.none⟩)∧σ' 4= .pointer (some ⟨w.heap.size+1,0,Option.none⟩)∧σ' 5= .pointer (some ⟨w2.heap.size,0,Option.none⟩)∧Ext w4 v'∧∃b7 sv,σ' 7= .pointer (some ⟨b7,0,Option.none⟩)∧w4.heap.size≤b7∧v'.heap[b7]? =some (.cells #[vi 4,dv,sv,.bool false,.slice Option.none 0 0] 184 (0,0))∧Row v' sv (cut.map vs)∧BlkB w4.heap.size v' sv∧∀a n c,sv= .slice (some a) n c→a.block≠b7) ?_ ?_
 ·refine zic (fun i=>i==7) (.run [(0,true),(3,true),(4,true)] (.fork 4 [1,6] (fun i=>if i=1 then(.run [] (.fork 3 [2,6] (fun i=>if i=2 then(.run [(5,true),(6,false),(7,false)] .fin) else(.run [(2,false),(5,true),(7,false)] .fin)))) else(.run [(1,false),(2,false),(5,true),(7,false)] .fin)))) NoS mixed (by kernel_rfl) ?_;intro gd K x hgd hx hxe hK;clear hxe
  have q3x:=zaa hx q3
  simp (disch:=first|omega|assumption|rfl) only[go_sem,q3x,Nat.zero_add]
  simp only[zbF,zb4];refine⟨?_,?_⟩
  ·simp (disch:=first|omega|assumption|rfl) only[go_sem]
   refine Fn.mono (zdc (hn.ext (hEw4.trans (hx))) hok.len) ?_
   rintro u y1 ⟨hou,hy1⟩
   refine⟨.inr hy1,?_⟩
   obtain⟨au,cu,hu'⟩:=hou.slice
   have hur:=hou.row
   have hub:=hou.blk
   rw[hu']at hur hub
   rw[List.length_map]at hu' hur hub
   rw[hu']
   obtain⟨_,_,he,hcc,hgg⟩:=id hur
   injection he with g1 g2 g3
   subst g1 g3
   rw[List.length_map]at hcc
   have hrc:Row y1 (.slice au cut.length cut.length) (cut.map vs):=⟨au,cut.length,by rw[List.length_map],by rw[List.length_map];exact Nat.le_refl _,hgg⟩
   have hrb:BlkB x.heap.size y1 (.slice au cut.length cut.length):=hub.same
   have hys1:=hy1.size
   simp (disch:=first|omega|assumption|rfl) only[go_sem]
   simp only[zbF,zb4];refine⟨?_,?_⟩
   ·simp (disch:=first|omega|assumption|rfl) only[go_sem]
    refine Fn.mono (P_cs.Clip_ok hcc) ?_
    rintro _ z0 ⟨rfl,hz0⟩
    refine⟨.inr (by rw[hz0];exact Keep.refl _ _),?_⟩
    rw[hz0]
    clear hz0 z0
    simp (disch:=first|omega|assumption|rfl) only[go_sem]
    refine⟨by kernel_rfl,?_⟩
    rw[hdv',show bdV Tryz.prog 184 [(0,vi 4),(2,.slice au cut.length cut.length),(1,.slice ad (datC R cut 2).length cd)]=some (.agg #[vi 4,.slice ad (datC R cut 2).length cd,.slice au cut.length cut.length,.bool false,.slice Option.none 0 0]) from by kernel_rfl]
    try simp (disch:=first|omega|assumption|rfl) only[go_sem]
    refine⟨.inr (Ext.alloc y1 _),?_⟩
    have hB7:=zao y1 (.cells #[vi 0,.slice Option.none 0 0,.slice Option.none 0 0,.bool false,.slice Option.none 0 0] 184 (0,0))
    have hy3:=Ext.alloc y1 (.cells #[vi 0,.slice Option.none 0 0,.slice Option.none 0 0,.bool false,.slice Option.none 0 0] 184 (0,0))
    have hs7:=zai y1 (.cells #[vi 0,.slice Option.none 0 0,.slice Option.none 0 0,.bool false,.slice Option.none 0 0] 184 (0,0))
    revert hB7 hy3 hs7
    generalize y1.alloc (.cells #[vi 0,.slice Option.none 0 0,.slice Option.none 0 0,.bool false,.slice Option.none 0 0] 184 (0,0))=y3
    intro hB7 hy3 hs7
    have hys3:=hy3.size
    try simp (disch:=first|omega|assumption|rfl) only[go_sem]
    refine zaM (P:=Tryz.prog) (t:=184) (l:=[vi 4,.slice ad (datC R cut 2).length cd,.slice au cut.length cut.length,.bool false,.slice Option.none 0 0]) hB7 rfl (fun v h=>by simp at h;rcases h with rfl|rfl|rfl|rfl|rfl<;>rfl) rfl rfl ?_
    intro z hz' hbz hkz
    refine⟨.inl rfl,?_⟩
    simp (disch:=first|omega|assumption|rfl) only[go_sem]
    have hxs:=hx.size
    have hav:∀a n c,Value.slice au cut.length cut.length= .slice (some a) n c→a.block≠y1.heap.size:=fun a n c hv=>by have h1:=hrb a n c hv;omega
    exact hK _ _ ⟨rfl,rfl,vq0,vq0,vq0,Keep.to_ext (((hx).trans hy1).trans hy3) rfl (fun b hb=>by omega) hkz,y1.heap.size,.slice au cut.length cut.length,vq0,by omega,by rw[hdv'];exact hbz,(hrc.ext hy3).blocks (fun a n c hv=>hkz.block _ (by have h1:=(hrb.ext (hy3).size) a n c hv;omega) (hav a n c hv)),(((hrb.ext (hy3).size)).ext (by omega)).mono (by omega),hav⟩
   ·simp (disch:=first|omega|assumption|rfl) only[go_sem]
    refine⟨.inr (Ext.alloc y1 _),?_⟩
    have hB7:=zao y1 (.cells #[vi 0,.slice Option.none 0 0,.slice Option.none 0 0,.bool false,.slice Option.none 0 0] 184 (0,0))
    have hy2:=Ext.alloc y1 (.cells #[vi 0,.slice Option.none 0 0,.slice Option.none 0 0,.bool false,.slice Option.none 0 0] 184 (0,0))
    have hs7:=zai y1 (.cells #[vi 0,.slice Option.none 0 0,.slice Option.none 0 0,.bool false,.slice Option.none 0 0] 184 (0,0))
    revert hB7 hy2 hs7
    generalize y1.alloc (.cells #[vi 0,.slice Option.none 0 0,.slice Option.none 0 0,.bool false,.slice Option.none 0 0] 184 (0,0))=y2
    intro hB7 hy2 hs7
    have hys2:=hy2.size
    try simp (disch:=first|omega|assumption|rfl) only[go_sem]
    refine Fn.mono (P_cs.Clip_ok hcc) ?_
    rintro _ z0 ⟨rfl,hz0⟩
    refine⟨.inr (by rw[hz0];exact Keep.refl _ _),?_⟩
    rw[hz0]
    clear hz0 z0
    simp (disch:=first|omega|assumption|rfl) only[go_sem]
    refine⟨by kernel_rfl,?_⟩
    rw[hdv',show bdV Tryz.prog 184 [(0,vi 4),(2,.slice au cut.length cut.length),(1,.slice ad (datC R cut 2).length cd)]=some (.agg #[vi 4,.slice ad (datC R cut 2).length cd,.slice au cut.length cut.length,.bool false,.slice Option.none 0 0]) from by kernel_rfl]
    try simp (disch:=first|omega|assumption|rfl) only[go_sem]
    refine zaM (P:=Tryz.prog) (t:=184) (l:=[vi 4,.slice ad (datC R cut 2).length cd,.slice au cut.length cut.length,.bool false,.slice Option.none 0 0]) hB7 rfl (fun v h=>by simp at h;rcases h with rfl|rfl|rfl|rfl|rfl<;>rfl) rfl rfl ?_
    intro z hz' hbz hkz
    refine⟨.inl rfl,?_⟩
    simp (disch:=first|omega|assumption|rfl) only[go_sem]
    have hxs:=hx.size
    have hav:∀a n c,Value.slice au cut.length cut.length= .slice (some a) n c→a.block≠y1.heap.size:=fun a n c hv=>by have h1:=hrb a n c hv;omega
    exact hK _ _ ⟨rfl,rfl,vq0,vq0,vq0,Keep.to_ext (((hx).trans hy1).trans hy2) rfl (fun b hb=>by omega) hkz,y1.heap.size,.slice au cut.length cut.length,vq0,by omega,by rw[hdv'];exact hbz,(hrc.ext hy2).blocks (fun a n c hv=>hkz.block _ (by have h1:=(hrb.ext (hy2).size) a n c hv;omega) (hav a n c hv)),(((hrb.ext (hy2).size)).ext (by omega)).mono (by omega),hav⟩
  ·simp (disch:=first|omega|assumption|rfl) only[go_sem]
   refine⟨.inr (Ext.alloc x _),?_⟩
   have hB7:=zao x (.cells #[vi 0,.slice Option.none 0 0,.slice Option.none 0 0,.bool false,.slice Option.none 0 0] 184 (0,0))
   have hy1:=Ext.alloc x (.cells #[vi 0,.slice Option.none 0 0,.slice Option.none 0 0,.bool false,.slice Option.none 0 0] 184 (0,0))
   have hs7:=zai x (.cells #[vi 0,.slice Option.none 0 0,.slice Option.none 0 0,.bool false,.slice Option.none 0 0] 184 (0,0))
   revert hB7 hy1 hs7
   generalize x.alloc (.cells #[vi 0,.slice Option.none 0 0,.slice Option.none 0 0,.bool false,.slice Option.none 0 0] 184 (0,0))=y1
   intro hB7 hy1 hs7
   have hys1:=hy1.size
   try simp (disch:=first|omega|assumption|rfl) only[go_sem]
   refine Fn.mono (zdc (hn.ext (hEw4.trans ((hx).trans hy1))) hok.len) ?_
   rintro u y2 ⟨hou,hy2⟩
   refine⟨.inr hy2,?_⟩
   obtain⟨au,cu,hu'⟩:=hou.slice
   have hur:=hou.row
   have hub:=hou.blk
   rw[hu']at hur hub
   rw[List.length_map]at hu' hur hub
   rw[hu']
   obtain⟨_,_,he,hcc,hgg⟩:=id hur
   injection he with g1 g2 g3
   subst g1 g3
   rw[List.length_map]at hcc
   have hrc:Row y2 (.slice au cut.length cut.length) (cut.map vs):=⟨au,cut.length,by rw[List.length_map],by rw[List.length_map];exact Nat.le_refl _,hgg⟩
   have hrb:BlkB y1.heap.size y2 (.slice au cut.length cut.length):=hub.same
   have hys2:=hy2.size
   simp (disch:=first|omega|assumption|rfl) only[go_sem]
   refine Fn.mono (P_cs.Clip_ok hcc) ?_
   rintro _ z0 ⟨rfl,hz0⟩
   refine⟨.inr (by rw[hz0];exact Keep.refl _ _),?_⟩
   rw[hz0]
   clear hz0 z0
   simp (disch:=first|omega|assumption|rfl) only[go_sem]
   refine⟨by kernel_rfl,?_⟩
   rw[hdv',show bdV Tryz.prog 184 [(0,vi 4),(2,.slice au cut.length cut.length),(1,.slice ad (datC R cut 2).length cd)]=some (.agg #[vi 4,.slice ad (datC R cut 2).length cd,.slice au cut.length cut.length,.bool false,.slice Option.none 0 0]) from by kernel_rfl]
   try simp (disch:=first|omega|assumption|rfl) only[go_sem]
   refine zaM (P:=Tryz.prog) (t:=184) (l:=[vi 4,.slice ad (datC R cut 2).length cd,.slice au cut.length cut.length,.bool false,.slice Option.none 0 0]) (Ext.at hy2 hB7) rfl (fun v h=>by simp at h;rcases h with rfl|rfl|rfl|rfl|rfl<;>rfl) rfl rfl ?_
   intro z hz' hbz hkz
   refine⟨.inl rfl,?_⟩
   simp (disch:=first|omega|assumption|rfl) only[go_sem]
   have hxs:=hx.size
   have hav:∀a n c,Value.slice au cut.length cut.length= .slice (some a) n c→a.block≠x.heap.size:=fun a n c hv=>by have h1:=hrb a n c hv;omega
   exact hK _ _ ⟨rfl,rfl,vq0,vq0,vq0,Keep.to_ext (((hx).trans hy1).trans hy2) rfl (fun b hb=>by omega) hkz,x.heap.size,.slice au cut.length cut.length,vq0,by omega,by rw[hdv'];exact hbz,hrc.blocks (fun a n c hv=>hkz.block _ (by have h1:=hrb a n c hv;omega) (hav a n c hv)),((hrb).ext (by omega)).mono (by omega),hav⟩
 rintro _ σ1 _ w5 ⟨rfl,rfl,h2,h4,h5,hE6,b7,sv,h7,hb7,hB7,hsv,hsb,hsne⟩
 have hEw5:=hEw4.trans hE6
 have d5:=zah (n:=4) (Ext.at hE6 hB5) rfl
 have hdv5:=hdv4.ext hE6
 have hb7l:b7<w5.heap.size:=(Array.getElem?_eq_some_iff.1 hB7).1
 have hsA5:=Ext.at (hE14.trans hE6) hA
 have hsC5:=Ext.at (hE14.trans hE6) hC
 have e3:=hz.e0.size
 have e6:=hE6.size
 have hdlow:∀a n c,dv= .slice (some a) n c→a.block<w4.heap.size:=fun a n c hv=>(hdb4 a n c hv).2
 repeat refine c_r ?_
 refine rq ?_;intro gd K hgd hK
 try simp (disch:=first|omega|assumption|rfl) only[go_sem,h5,d5]
 refine Fn.mono zje ?_
 rintro _ w6 ⟨rfl,hE7,hs7,hb8⟩
 try simp only[go_sem]
 refine hK _ _ ?_;clear hK hgd;clear K;try clear gd
 have hEw6:=hEw5.trans hE7
 have tyEq:datC R cut 2≠ []→ty=2:=fun h=>hty (ziJ.2 h)
 -- the hosts,whatever the type says of no records
 have hH:zbJ ty (datC R cut 2)=zbJ 2 (datC R cut 2):=by
  by_cases hne:datC R cut 2=[]
  ·rw[hne];unfold zbJ zaw;split<;>split<;>rfl
  ·rw[tyEq hne]
 have hit:=zln (C:=fun b=>b=b7) (hz.e0.trans hEw6) hb8 how rfl (hdv5.ext hE7) (fun b hb=>by omega) (by have:=zcm (R:=R) (n:=cut) (t:=2);have:=hz.rl;omega) (zbT hR (t:=2) (n:=cut) (fun d hd=>hd))
 rw[hH]at hit
 obtain⟨D,hD⟩:∃D,w6.heap.size=D:=⟨_,rfl⟩
 have hHl:(zbJ 2 (datC R cut 2)).length≤1000000000:=by
  have h1:=zdj [] (zaw 2 (datC R cut 2))
  have h2:=ze9 2 (datC R cut 2)
  have h3:=zcm (R:=R) (n:=cut) (t:=2)
  have h4:=hz.rl
  unfold zbJ;omega
 have hHg:∀x∈zbJ 2 (datC R cut 2),NmG x:=fun x hx=>zbT hR (t:=2) (n:=cut) (fun d hd=>hd) x (zb6 _ _ x hx)
 have hslow:∀a n c,sv= .slice (some a) n c→a.block<w5.heap.size:=fun a n c hv=>(hsb a n c hv).2
 repeat refine c_r ?_
 refine ze3 (g:=282) (cap:=#[.pointer (some ⟨w5.heap.size,0,Option.none⟩)]) (vq0) rfl hit (Keep.refl _ _) (Nat.le_refl _) (fun b hb=>by omega)
  (fun x U B args h=>by obtain⟨v,h,_⟩:=h;rw[h];rfl)
  (RfI w0 w D w.heap.size (w.heap.size+1) b7 ov lv dv sv cut R (datC R cut 2))
  (fun _ _ _=>False) ?_ (fun _ _ _ _ h _=>h.elim) ?_ ?_ ?_ (fun _ _ _ _ _ _ h _=>h.elim)
 ·rintro pre U A B ⟨i1,isz,i2,i3,i4,i5,gv,G,i6,i7,i8,i9,i10⟩ hU hk
  have hsA:=(Array.getElem?_eq_some_iff.1 i6).1
  have hks:=hk.size
  have hlow:∀b,b<D→¬span w6.heap.size (2+1) b:=fun b hb=>by unfold span;omega
  refine⟨Keep.to_ext i1 rfl (fun b hb=>by unfold span at hb;omega) hk,by omega,(hk.block _ (Array.getElem?_eq_some_iff.1 i2).1 (hlow _ (by omega))).trans i2,(hk.block _ (Array.getElem?_eq_some_iff.1 i3).1 (hlow _ (by omega))).trans i3,?_,?_,gv,G,(hk.block _ hsA (hlow _ (by omega))).trans i6,i7,i8.keep hk (fun b hb h=>by have:=(i8.ge hb).1;unfold span at h;omega),fun x hx=>?_,i10⟩
  ·exact i4.blocks fun a n c hv=>by
    have h1:=hdlow a n c hv
    exact hk.block _ (by have:=i1.size;omega) (hlow _ (by omega))
  ·exact i5.blocks fun a n c hv=>by
    have h1:=hslow a n c hv
    exact hk.block _ (by omega) (hlow _ (by omega))
  ·obtain⟨j1,j2,j3,j4⟩:=i9 x hx
   exact⟨j1,j2.keep hk j3 (fun b hb _=>by unfold span;omega),j3.ext hk.size,j4⟩
 ·exact⟨hEw6,by omega,Ext.at hE7 hsA5,Ext.at hE7 hsC5,hdv5.ext hE7,hsv.ext hE7,.slice Option.none 0 0,[],Ext.at hE7 hB7,rfl,Owns.nil _ _ _ _ _,fun x h=>absurd h (by simp),fun b=>⟨fun h=>h.elim,fun h=>by cases h⟩⟩
 ·rintro lp pre U x A args ⟨suf,hxs⟩ hszA ⟨i1,isz,i2,i3,i4,i5,gv,G,i6,i7,i8,i9,i10⟩ hUb ⟨xv,rfl,hxr⟩
  obtain⟨ax,cx,hxv,_⟩:=id hxr
  have hxg:NmG x:=hHg x (by rw[hxs];simp)
  have hpl:pre.length+1≤(zbJ 2 (datC R cut 2)).length:=by rw[hxs];simp
  refine rq ?_;intro gd K hgd hK
  try simp only[go_sem]
  refine hK _ _ ?_;clear hK hgd;clear K;try clear gd
  refine zau ?_
  refine⟨rfl,Keep.refl _ _,fun Y hY=>?_⟩
  have hlow:∀b,b<D→¬two w6.heap.size b:=fun b hb=>by unfold two;omega
  have hhigh:∀b,D+2≤b→¬two w6.heap.size b:=fun b hb=>by unfold two;omega
  have hYs:=hY.size
  have k2:=(hY.block _ (Array.getElem?_eq_some_iff.1 i2).1 (hlow _ (by omega))).trans i2
  have k3:=(hY.block _ (Array.getElem?_eq_some_iff.1 i3).1 (hlow _ (by omega))).trans i3
  have k6:=(hY.block _ (Array.getElem?_eq_some_iff.1 i6).1 (hlow _ (by omega))).trans i6
  have k4:Rows 5 (DatAt w0) Y dv (datC R cut 2):=i4.blocks fun a n c hv=>hY.block _ (by have:=hdlow a n c hv;omega) (hlow _ (by have:=hdlow a n c hv;omega))
  have k5:Row Y sv (cut.map vs):=i5.blocks fun a n c hv=>hY.block _ (by have:=hslow a n c hv;omega) (hlow _ (by have:=hslow a n c hv;omega))
  have k8:=i8.keep hY (fun b hb=>hhigh b (by have:=(i8.ge hb).1;omega))
  have k9:∀x∈G,Row w0 x.2.1 (x.1.1.map vs)∧Rows 5 (DatAt w0) Y x.2.2 x.1.2∧BlkB (D+3) Y x.2.2∧∀a n c,x.2.2= .slice (some a) n c→some a.block≠gv.ownBlock:=fun x hx=>by
   obtain⟨j1,j2,j3,j4⟩:=i9 x hx
   exact⟨j1,j2.keep hY j3 (fun b hb _=>hhigh b (by omega)),j3.ext hYs,j4⟩
  have hwY:Ext w Y:=Keep.to_ext i1 rfl (fun b hb=>by unfold two at hb;omega) hY
  have hw0Y:=hz.e0.trans hwY
  have d2:=zah (n:=2) (l:=[ov,lv]) k2 rfl
  have hzY:=hz.ext hwY
  clear i1 i2 i3 i4 i5 i6 i8 i9
  repeat refine c_r ?_
  refine rq ?_;intro gd K hgd hK
  try simp (disch:=first|omega|assumption|rfl) only[go_sem,h2,d2]
  refine Fn.mono (Glue_ok hzY (hxr.ext hw0Y) hxg.m.s) ?_
  rintro gl Y1 ⟨hY1,hgr,hgb⟩
  obtain⟨ag,cg,hgv,hcg,_⟩:=hgr.open
  try simp only[go_sem]
  refine hK _ _ ?_;clear hK hgd;clear K;try clear gd
  have hY1s:=hY1.size
  repeat refine c_r ?_
  refine rg1 hgv ?_
  repeat refine c_r ?_
  refine wc0 ?_ ?_
  ·intro hlt
   simp only[decide_eq_true_eq]at hlt
   have hgne:zcG R x≠ []:=List.length_pos_iff.1 (by omega)
   have k61:=Ext.at hY1 k6
   have g4:zae Y1 (some ⟨b7,4,Option.none⟩)=some gv:=zcs (l:=[vi 4,dv,sv,.bool false,gv]) k61 rfl
   have hgx:one xv=true:=by rw[hxv];rfl
   have hgo:one gl=true:=by rw[hgv];rfl
   repeat refine c_r ?_
   refine rq ?_;intro gd K hgd hK
   try simp (disch:=first|omega|assumption|rfl) only[go_sem,h7,g4,Nat.zero_add]
   rw[hxv]
   refine⟨by kernel_rfl,?_⟩
   rw[show bdV Tryz.prog 382 [(0,.slice ax (x.map vs).length cx),(1,.slice ag (zcG R x).length cg)]=some (.agg #[.slice ax (x.map vs).length cx,.slice ag (zcG R x).length cg]) from by kernel_rfl]
   rw[←hxv,←hgv]
   try simp (disch:=first|omega|assumption|rfl) only[go_sem,h7,g4,Nat.zero_add]
   refine zbg (a:=((x,zcG R x),(xv,gl))) (l:=[xv,gl]) zjg (by rfl) (by rfl) (by rfl) (by rfl) ⟨rfl,hgx,hgo⟩ (by decide) ?_
   intro Y2 hY2 hsY2 hoY2
   try simp (disch:=first|omega|assumption|rfl) only[go_sem,h7,g4,Nat.zero_add]
   have hGl:G.length≤pre.length:=by
    have h1:=congrArg List.length i7
    rw[List.length_map]at h1
    have h2:=zga R pre
    omega
   refine zaV zjg ((k8.ext hY1).ext hY2) hoY2.rows (by rfl) (by rfl) (by rfl) (by rfl) (by rfl) (by rfl) (by decide) (vr0) (vr0) (by rw[List.length_singleton];omega) (by decide) (by omega) ?_
   intro gv' Y3 hgv' _ hkY3 hfr
   try simp (disch:=first|omega|assumption|rfl) only[go_sem,h7,Nat.zero_add]
   have hown:∀b,some b=gv.ownBlock→D+3≤b∧b<Y.heap.size:=fun b hb=>k8.ge hb
   have hb7o:¬some b7=gv.ownBlock:=fun h=>by have:=hown b7 h;omega
   have k63:=(hkY3.block b7 (by omega) hb7o).trans (Ext.at hY2 k61)
   obtain⟨ag',cg',hgv'',_⟩:=hgv'.rows.open
   refine zaY (P:=Tryz.prog) (t:=182) (j:=4) (l:=[vi 4,dv,sv,.bool false,gv]) k63 (by simp) (by rw[hgv''];rfl) rfl rfl ?_
   intro Y4 hsY4 hbY4 hkY4
   try simp only[go_sem]
   refine hK _ _ ?_;clear hK hgd;clear K;try clear gd
   have hY2s:=hY2.size
   have hY3s:=hkY3.size
   have hown':∀b,some b=gv'.ownBlock→D+3≤b∧b<Y3.heap.size:=fun b hb=>hgv'.ge hb
   have hb7o':¬some b7=gv'.ownBlock:=fun h=>by have:=hown' b7 h;omega
   -- from Y2 on:the row of one's own and b7 alone
   have hk24:Keep (fun b=>b=b7∨some b=gv.ownBlock) Y2 Y4:=(hkY3.mono (fun b _ h=> .inr h)).trans (hkY4.mono (fun b _ h=> .inl h))
   have hYY2:=hY1.trans hY2
   have hYY4:Keep (fun b=>b=b7∨some b=gv.ownBlock) Y Y4:=(hYY2.mono (fun b _ h=>h.elim)).trans hk24
   have hlow2:∀b,b<D→b≠b7→¬(b=b7∨some b=gv.ownBlock):=fun b hb hne h=>by
    rcases h with h|h
    ·exact hne h
    ·have:=hown b h;omega
   have hlowd:∀{v:Value} {L:Nat},L≤D→(∀a n c,v= .slice (some a) n c→a.block<L∧a.block≠b7)→∀a n c,v= .slice (some a) n c→Y4.heap[a.block]? =Y.heap[a.block]?:=fun {v L} hL h a n c hv=>by
    have h1:=h a n c hv
    exact hYY4.block _ (by omega) (hlow2 _ (by omega) h1.2)
   have dq:∀(q:Value) (yw:World),(∀a n c,q= .slice (some a) n c→a.block<Y2.heap.size∧a.block≠b7∧some a.block≠gv.ownBlock)→∀a n c,q= .slice (some a) n c→Y4.heap[a.block]? =Y2.heap[a.block]?:=fun q yw h a n c hv=>by
    obtain⟨h1,h2,h3⟩:=h a n c hv
    exact hk24.block _ h1 (fun h=>by
     rcases h with h|h
     ·exact h2 h
     ·exact h3 h)
   repeat refine c_r ?_
   refine⟨fun b=>some b=gv'.ownBlock,⟨Keep.to_ext hwY rfl (fun b hb=>by
     rcases hb with hb|hb
     ·omega
     ·have:=hown b hb;omega) hYY4,by have:=hYY4.size;omega,(hYY4.block _ (by omega) (hlow2 _ (by omega) (by omega))).trans k2,(hYY4.block _ (by omega) (hlow2 _ (by omega) (by omega))).trans k3,?_,?_,gv',G++ [((x,zcG R x),(xv,gl))],by simpa using hbY4,?_,hgv'.keep hkY4 (fun b hb h=>hb7o' (h▸hb)),fun y hy=>?_,fun b=>Iff.rfl⟩,fun b hb=>?_,?_⟩
   ·exact k4.blocks (hlowd (L:=w4.heap.size) (by omega) fun a n c hv=>⟨hdlow a n c hv,by have:=hdlow a n c hv;omega⟩)
   ·exact k5.blocks (hlowd (L:=w5.heap.size) (by omega) fun a n c hv=>⟨hslow a n c hv,hsne a n c hv⟩)
   ·rw[List.map_append,i7,zgb,if_neg hgne];rfl
   ·rcases List.mem_append.1 hy with hy|hy
    ·obtain⟨j1,j2,j3,j4⟩:=k9 y hy
     have j3':BlkB (D+3) Y2 y.2.2:=(j3.ext hY1s).ext hY2s
     refine⟨j1,((j2.ext hY1).ext hY2).blocks (dq _ Y (fun a n c hv=>⟨(j3' a n c hv).2,by have:=j3' a n c hv;omega,j4 a n c hv⟩)),j3'.ext (by omega),fun a n c hv hb=>?_⟩
     rcases hfr _ hb with h|h
     ·exact j4 a n c hv h
     ·have:=(j3' a n c hv).2;omega
    ·rw[List.mem_singleton.1 hy]
     have hgb2:BlkB Y.heap.size Y2 gl:=hgb.ext hY2s
     refine⟨hxr,(hgr.ext hY2).blocks (dq _ Y (fun a n c hv=>⟨(hgb2 a n c hv).2,by have:=hgb2 a n c hv;omega,fun h=>by have:=hgb2 a n c hv;have:=hown _ h;omega⟩)),(hgb2.ext (by omega)).mono (by omega),fun a n c hv hb=>?_⟩
     have h1:=hgb2 a n c hv
     rcases hfr _ hb with h|h
     ·have:=hown _ h;omega
     ·omega
   ·rcases hfr b hb with h|h
    ·exact .inl ((i10 b).2 h)
    ·exact .inr ⟨by omega,by have:=(hown' b hb).2;omega⟩
   ·exact hYY4.mono (fun b _ h=>h.imp id (fun h=>(i10 b).2 h))
  ·intro hge
   simp only[decide_eq_false_iff_not]at hge
   have hgnil:zcG R x=[]:=List.length_eq_zero_iff.1 (by omega)
   repeat refine c_r ?_
   refine⟨U,⟨hwY.trans hY1,by omega,Ext.at hY1 k2,Ext.at hY1 k3,k4.ext hY1,k5.ext hY1,gv,G,Ext.at hY1 k6,by rw[zgb,if_pos hgnil,List.append_nil];exact i7,k8.ext hY1,fun y hy=>?_,i10⟩,fun b hb=> .inl hb,hY1.mono (fun _ _ h=>h.elim)⟩
   obtain⟨j1,j2,j3,j4⟩:=k9 y hy
   exact⟨j1,j2.ext hY1,j3.ext hY1s,j4⟩
 ·rintro xs U B rfl hszB hUb ⟨i1,isz,i2,i3,i4,i5,gv,G,i6,i7,i8,i9,i10⟩ hDB
  have d5':=zah (n:=5) (l:=[vi 4,dv,sv,.bool false,gv]) i6 rfl
  obtain⟨agl,cgl,hgle,_⟩:=i8.rows.open
  obtain⟨asv,csv,hsve,_⟩:=id i5
  have hDlt:w6.heap.size<B.heap.size:=(Array.getElem?_eq_some_iff.1 hDB).1
  repeat refine c_r ?_
  refine rq ?_;intro gd K hgd hK
  try simp (disch:=first|omega|assumption|rfl) only[go_sem,h7,h4,d5']
  refine zaM (P:=Tryz.prog) (t:=184) (l:=[vi 4,dv,sv,.bool false,gv]) i3 rfl (fun v h=>by
   simp at h
   rcases h with rfl|rfl|rfl|rfl|rfl
   ·rfl
   ·rw[hdv'];rfl
   ·rw[hsve];rfl
   ·rfl
   ·rw[hgle];rfl) rfl rfl ?_
  intro z hz' hbz hkz
  try simp only[go_sem]
  refine hK _ _ ?_;clear hK hgd;clear K;try clear gd
  repeat refine c_r ?_
  refine zby (.inr rfl) Tryz.ntmps198 rfl ((hkz.block _ (by omega) (by omega)).trans hDB) ?_
  intro Z hkZ hsZ
  have hBZ:Keep (fun b=>b=w.heap.size+1∨b=w6.heap.size) B Z:=(hkz.mono (fun b _ h=> .inl h)).trans (hkZ.mono (fun b _ h=> .inr h))
  refine⟨_,zaZ (x:=⟨w.heap.size+1,0,Option.none⟩) (k:=5) ((vq1 h4)) rfl rfl (zah (l:=[vi 4,dv,sv,.bool false,gv]) ((hkZ.block _ (by omega) (by omega)).trans hbz) rfl) zaz,Keep.to_ext i1 rfl (fun b hb=>by omega) hBZ,_,rfl,dv,sv,gv,rfl,?_,?_,?_,?_,?_⟩
  ·exact i4.blocks fun a n c hv=>hBZ.block _ (by have:=hdlow a n c hv;omega) (by have h1:=hdb4 a n c hv;have:=hdlow a n c hv;have h3:=hdb a n c hv;omega)
  ·exact hdb4.ext (by have:=hBZ.size;omega)
  ·refine .inl ⟨i5.blocks fun a n c hv=>hBZ.block _ (by have:=hslow a n c hv;omega) (by have h1:=hsb a n c hv;omega),(hsb.ext (by have:=hBZ.size;omega)).mono (by omega)⟩
  ·have hgZ:Rows 2 glC Z gv G:=i8.rows.blocks fun a n c hv=>hBZ.block _ (i8.blk a n c hv).2 (by have:=i8.blk a n c hv;omega)
   have hgl:=hgZ.mapM (C':=GlB w0 w.heap.size Z) Prod.fst (fun cs x hx hc=>by
    obtain⟨j1,j2,j3,j4⟩:=i9 x hx
    exact⟨x.2.1,x.2.2,hc.1,j1,j2.blocks fun a n c hv=>hBZ.block _ (j3 a n c hv).2 (by have:=j3 a n c hv;omega),(j3.ext hBZ.size).mono (by omega)⟩)
   rw[i7]at hgl
   exact hgl
  ·exact(i8.blk.ext hBZ.size).mono (by omega)
def zeroRes:ResL:=⟨0,[],[],false,[]⟩
def zaK(R:List RecL)(q n:Nm):Option ResL:=
 if datC R n 39=[] then Option.none
 else if zaD (zbK q n (toN 39 ((datC R n 39).take 1)))=0 then some ⟨5,(datC R n 39).take 1,zbK q n (toN 39 ((datC R n 39).take 1)),false,[]⟩
 else some ⟨6,[],[],false,[]⟩
def atL(R:List RecL)(n:Nm)(t:Int)(wild:Bool):ResL:=
 if datC R n t≠ [] then⟨1,datC R n t,[],wild,[]⟩
 else if datC R n 5≠ [] then⟨5,(datC R n 5).take 1,toN 5 ((datC R n 5).take 1),wild,[]⟩
 else⟨2,[],[],wild,[]⟩
theorem toN_m{R:List RecL}(hR:zey R){n:Nm}{t u:Int}:NmM (toN u ((datC R n t).take 1)):=by
 unfold toN
 cases hq:(zbJ u ((datC R n t).take 1)).getLast? with
 |none=>exact⟨fun l h=>(by cases h),by simp⟩
 |some x=>
  have h1:=List.mem_of_getLast? hq
  exact(zbT hR (t:=t) (n:=n) (fun d hd=>List.mem_of_mem_take hd) x (zb6 _ _ x h1)).m
theorem zbd(w:World):Row w (.slice Option.none 0 0) (([]:Nm).map vs):=⟨Option.none,0,rfl,Nat.le_refl _,fun j h=>absurd h (by simp)⟩
abbrev zR:List Value:=[vi 0,.slice Option.none 0 0,.slice Option.none 0 0,.bool false,.slice Option.none 0 0]
theorem zki{w0 w:World}{ov lv qv nv:Value}{o q n:Nm}{R:List RecL}(hz:ZnAt w0 w ov lv o R)(hR:zey R)(hq:Row w qv (q.map vs))(hn:Row w nv (n.map vs))(mq:NmM q)(mn:NmM n)(hu:zaQ q n=true):
  Fn Tryz.prog 199 #[.agg #[ov,lv],qv,nv] w (fun v w'=>Ext w w'∧∃cs,v= .tuple #[.agg cs.toArray,.bool (zaK R q n).isSome]∧ResB w0 w.heap.size w' cs ((zaK R q n).getD zeroRes)):=by
 obtain⟨ao,co,hov,_⟩:=id hz.org
 obtain⟨al,cl,hlv,_⟩:=hz.recs.open
 rw[hov,hlv]
 refine enter Tryz.func199 Tryz.ntmps199 rfl rfl ?_
 repeat refine c_r ?_
 refine rg0 ?_
 repeat refine c_r ?_
 rw[←hov,←hlv]
 rw[zai]
 refine zaO ?_
 intro w1 hE1 hs1 hA hC
 have d2:=zah (n:=2) (l:=[ov,lv]) hA rfl
 have hz1:=hz.ext hE1
 refine rq ?_;intro gd K hgd hK
 try simp (disch:=first|omega|assumption|rfl) only[go_sem,d2]
 refine Fn.mono (zjA hz1 hR (hn.ext hE1) mn.s) ?_
 rintro _ w2 ⟨hE2,dv,tv,rfl,hdv,hdb,htv⟩
 obtain⟨bb,hbb⟩:∃bb:Bool,decide (datC R n 39≠ [])=bb:=⟨_,rfl⟩
 rw[hbb]
 try simp only[go_sem]
 refine hK _ _ ?_;clear hK hgd;clear K;try clear gd
 have hC2:=hE2.at hC
 have s2:=hE2.size
 have hEw2:=hE1.trans hE2
 repeat refine c_r ?_
 refine rg0 ?_
 repeat refine c_r ?_
 by_cases hne:datC R n 39≠ []
 ·rw[decide_eq_true hne]at hbb
  subst hbb
  refine zaH (t:=false) (vq0) (fun h=>by cases h) ?_
  intro _
  repeat refine c_r ?_
  refine rq ?_;intro gd K hgd hK
  try simp only[go_sem]
  refine Fn.mono (NSwap_ok w2 qv nv tv q n (toN 39 ((datC R n 39).take 1)) (hq.ext hEw2) (hn.ext hEw2) (htv.ext (hz.e0.trans hEw2)) mq mn (toN_m hR) hu) ?_
  rintro v w3 ⟨hE3,hgood,hbad⟩
  have hC3:=hE3.at hC2
  have s3:=hE3.size
  by_cases hck:zaD (zbK q n (toN 39 ((datC R n 39).take 1)))=0
  ·obtain⟨sv,rfl,hsv,hsvb⟩:=hgood hck
   obtain⟨as1,cs1,hsv',_⟩:=id hsv
   obtain⟨ad,cd,hdv',_⟩:=hdv.open
   have hren:zaK R q n=some ⟨5,(datC R n 39).take 1,zbK q n (toN 39 ((datC R n 39).take 1)),false,[]⟩:=by unfold zaK;rw[if_neg hne,if_pos hck]
   try simp only[go_sem]
   refine hK _ _ ?_;clear hK hgd;clear K;try clear gd
   repeat refine c_r ?_
   refine rg0 ?_
   repeat refine c_r ?_
   refine wc0 ?_ ?_
   ·intro h;simp at h
   intro _
   repeat refine c_r ?_
   refine rq ?_;intro gd K hgd hK
   try simp only[go_sem]
   rw[hsv',hdv']
   refine⟨by kernel_rfl,?_⟩
   rw[show bdV Tryz.prog 184 [(0,vi 5),(2,.slice as1 ((zbK q n (toN 39 ((datC R n 39).take 1))).map vs).length cs1),(1,.slice ad ((datC R n 39).take 1).length cd)]=some (.agg #[vi 5,.slice ad ((datC R n 39).take 1).length cd,.slice as1 ((zbK q n (toN 39 ((datC R n 39).take 1))).map vs).length cs1,.bool false,.slice Option.none 0 0]) from by kernel_rfl]
   try simp only[go_sem]
   refine zaM (P:=Tryz.prog) (t:=184) (l:=[vi 5,.slice ad ((datC R n 39).take 1).length cd,.slice as1 ((zbK q n (toN 39 ((datC R n 39).take 1))).map vs).length cs1,.bool false,.slice Option.none 0 0]) hC3 rfl (fun v h=>by simp at h;rcases h with rfl|rfl|rfl|rfl|rfl<;>rfl) rfl rfl ?_
   intro z hz' hbz hkz
   try simp only[go_sem]
   refine hK _ _ ?_;clear hK hgd;clear K;try clear gd
   repeat refine c_r ?_
   refine zaE (.inr rfl) Tryz.ntmps199 rfl (zaZ (x:=⟨w.heap.size+1,0,Option.none⟩) (k:=5) (vq0) rfl rfl (zah hbz rfl) (zat (v:= .bool true) (vr0) zaz)) ?_
   refine⟨Keep.to_ext (hEw2.trans hE3) rfl (fun b hb=>by omega) hkz,_,by rw[hren];rfl,?_⟩
   rw[hren]
   refine⟨_,_,_,rfl,?_,?_,.inl ⟨?_,?_⟩,Rows.nil _ _ _,BlkB.nil⟩
   ·rw[←hdv']
    exact(hdv.ext hE3).keep hkz (hdb.ext hE3.size) (fun b hb _=>by omega)
   ·rw[←hdv']
    exact(hdb.ext (by omega)).mono (by omega)
   ·rw[←hsv']
    exact hsv.keepB hkz hsvb (fun b hb _=>by omega)
   ·rw[←hsv']
    exact(hsvb.ext (by omega)).mono (by omega)
  ·have hv:=hbad hck
   subst hv
   have hren:zaK R q n=some ⟨6,[],[],false,[]⟩:=by unfold zaK;rw[if_neg hne,if_neg hck]
   try simp only[go_sem]
   refine hK _ _ ?_;clear hK hgd;clear K;try clear gd
   repeat refine c_r ?_
   refine rg0 ?_
   repeat refine c_r ?_
   refine wc0 ?_ ?_
   ·intro _
    repeat refine c_r ?_
    refine rq ?_;intro gd K hgd hK
    try simp only[go_sem]
    refine⟨by kernel_rfl,?_⟩
    rw[show bdV Tryz.prog 184 [(0,vi 6)]=some (.agg #[vi 6,.slice Option.none 0 0,.slice Option.none 0 0,.bool false,.slice Option.none 0 0]) from by kernel_rfl]
    try simp only[go_sem]
    refine zaM (P:=Tryz.prog) (t:=184) (l:=[vi 6,.slice Option.none 0 0,.slice Option.none 0 0,.bool false,.slice Option.none 0 0]) hC3 rfl (fun v h=>by simp at h;rcases h with rfl|rfl|rfl|rfl|rfl<;>rfl) rfl rfl ?_
    intro z hz' hbz hkz
    try simp only[go_sem]
    refine hK _ _ ?_;clear hK hgd;clear K;try clear gd
    repeat refine c_r ?_
    refine zaE (.inr rfl) Tryz.ntmps199 rfl (zaZ (x:=⟨w.heap.size+1,0,Option.none⟩) (k:=5) (vq0) rfl rfl (zah hbz rfl) (zat (v:= .bool true) (vr0) zaz)) ?_
    exact⟨Keep.to_ext (hEw2.trans hE3) rfl (fun b hb=>by omega) hkz,_,by rw[hren];rfl,by rw[hren];exact⟨_,_,_,rfl,Rows.nil _ _ _,BlkB.nil,.inr (zbd _),Rows.nil _ _ _,BlkB.nil⟩⟩
   ·intro h;simp at h
 ·have hnil:datC R n 39=[]:=by simpa using hne
  have hren:zaK R q n=Option.none:=by unfold zaK;rw[if_pos hnil]
  rw[decide_eq_false hne]at hbb
  subst hbb
  refine zaH (t:=true) (vq0) ?_ (fun h=>by cases h)
  intro _
  repeat refine c_r ?_
  refine rq ?_;intro gd K hgd hK
  try simp only[go_sem]
  refine⟨by kernel_rfl,?_⟩
  rw[show bdV Tryz.prog 184 []=some (.agg #[vi 0,.slice Option.none 0 0,.slice Option.none 0 0,.bool false,.slice Option.none 0 0]) from by kernel_rfl]
  try simp only[go_sem]
  refine zaM (P:=Tryz.prog) (t:=184) (l:=zR) hC2 rfl (fun v h=>by simp at h;rcases h with rfl|rfl|rfl|rfl|rfl<;>rfl) rfl rfl ?_
  intro z hz' hbz hkz
  try simp only[go_sem]
  refine hK _ _ ?_;clear hK hgd;clear K;try clear gd
  repeat refine c_r ?_
  refine zaE (.inr rfl) Tryz.ntmps199 rfl (zaZ (x:=⟨w.heap.size+1,0,Option.none⟩) (k:=5) (vq0) rfl rfl (zah hbz rfl) (zat (v:= .bool false) (vr0) zaz)) ?_
  exact⟨Keep.to_ext hEw2 rfl (fun b hb=>by omega) hkz,_,by rw[hren];rfl,by rw[hren];exact⟨_,_,_,rfl,Rows.nil _ _ _,BlkB.nil,.inr (zbd _),Rows.nil _ _ _,BlkB.nil⟩⟩
theorem At_ok{w0 w:World}{ov lv nv:Value}{o n:Nm}{R:List RecL}{t:Int}{wild:Bool}(hz:ZnAt w0 w ov lv o R)(hR:zey R)(hn:Row w nv (n.map vs))(mn:NmS n):
  Fn Tryz.prog 201 #[.agg #[ov,lv],nv,vi t,.bool wild] w (fun v w'=>Ext w w'∧∃cs,v= .agg cs.toArray∧ResB w0 w.heap.size w' cs (atL R n t wild)):=by
 obtain⟨ao,co,hov,_⟩:=id hz.org
 obtain⟨al,cl,hlv,_⟩:=hz.recs.open
 rw[hov,hlv]
 refine enter Tryz.func201 Tryz.ntmps201 rfl rfl ?_
 repeat refine c_r ?_
 refine rg0 ?_
 repeat refine c_r ?_
 rw[←hov,←hlv]
 rw[zai]
 refine zaO ?_
 intro w1 hE1 hs1 hA hC
 have p1:zae w1 (some ⟨w.heap.size,1,Option.none⟩)=some lv:=zab hA rfl
 have hz1:=hz.ext hE1
 refine rq ?_;intro gd K hgd hK
 try simp (disch:=first|omega|assumption|rfl) only[go_sem,p1,Nat.zero_add]
 refine Fn.mono (Of_ok hz1.e0 hz1.recs (hn.ext hE1) mn.lb (by have:=mn.len;omega) hz.ok hz.rl) ?_
 rintro _ w2 ⟨hE2,ow,ty,tl,dv,rfl,how,hty,hdv,hdb⟩
 have hdd:(ofC R n t).map RecL.dat=datC R n t:=rfl
 rw[hdd]at hdv
 obtain⟨bb,hbb⟩:∃bb:Bool,decide (datC R n t≠ [])=bb:=⟨_,rfl⟩
 rw[show decide (ofC R n t≠ [])=bb from by rw[←hbb];exact decide_eq_decide.2 (ziJ (R:=R) (n:=n) (t:=t))]
 try simp only[go_sem]
 have hB3:=zao w2 (.cells #[.slice Option.none 0 0,vi 0,v32 0,.slice Option.none 0 0] 340 (0,0))
 have hE4:=Ext.alloc w2 (.cells #[.slice Option.none 0 0,vi 0,v32 0,.slice Option.none 0 0] 340 (0,0))
 have hs4:=zai w2 (.cells #[.slice Option.none 0 0,vi 0,v32 0,.slice Option.none 0 0] 340 (0,0))
 revert hB3 hE4 hs4
 generalize w2.alloc (.cells #[.slice Option.none 0 0,vi 0,v32 0,.slice Option.none 0 0] 340 (0,0))=w3
 intro hB3 hE4 hs4
 obtain⟨ad,cd,hdv',hcd,_⟩:=hdv.open
 refine zaM (P:=Tryz.prog) (t:=340) (l:=[ow,vi ty,v32 tl,dv]) hB3 rfl (fun v h=>by
  simp at h
  rcases h with rfl|rfl|rfl|rfl
  ·exact how
  ·rfl
  ·rfl
  ·rw[hdv'];rfl) rfl rfl ?_
 intro w4 hs5 hB5 hk5
 try simp only[go_sem]
 refine hK _ _ ?_;clear hK hgd;clear K;try clear gd
 have hE5:Ext w2 w4:=Keep.to_ext hE4 rfl (fun b hb=>by omega) hk5
 have hE14:=hE2.trans hE5
 have hEw4:=hE1.trans hE14
 have q3:zae w4 (some ⟨w2.heap.size,3,Option.none⟩)=some dv:=zcs hB5 rfl
 have hdv4:=hdv.ext hE5
 have hdb4:BlkB w1.heap.size w4 dv:=hdb.ext hE5.size
 have hA4:=Ext.at hE14 hA
 have hC4:=Ext.at hE14 hC
 have e2:=hE14.size
 clear hB3 hE4 hs4 hk5 hs5
 repeat refine c_r ?_
 refine rg0 ?_
 repeat refine c_r ?_
 by_cases hne:datC R n t≠ []
 ·rw[decide_eq_true hne]at hbb
  subst hbb
  have hat:atL R n t wild=⟨1,datC R n t,[],wild,[]⟩:=by unfold atL;rw[if_pos hne]
  refine zaH (t:=true) (vq0) ?_ (fun h=>by cases h)
  intro _
  repeat refine c_r ?_
  refine rq ?_;intro gd K hgd hK
  try simp (disch:=first|omega|assumption|rfl) only[go_sem,q3,Nat.zero_add]
  rw[hdv']
  refine⟨by kernel_rfl,?_⟩
  rw[show bdV Tryz.prog 184 [(0,vi 1),(1,.slice ad (datC R n t).length cd),(3,.bool wild)]=some (.agg #[vi 1,.slice ad (datC R n t).length cd,.slice Option.none 0 0,.bool wild,.slice Option.none 0 0]) from by kernel_rfl]
  try simp only[go_sem]
  refine zaM (P:=Tryz.prog) (t:=184) (l:=[vi 1,.slice ad (datC R n t).length cd,.slice Option.none 0 0,.bool wild,.slice Option.none 0 0]) hC4 rfl (fun v h=>by simp at h;rcases h with rfl|rfl|rfl|rfl|rfl<;>rfl) rfl rfl ?_
  intro z hz' hbz hkz
  try simp only[go_sem]
  refine hK _ _ ?_;clear hK hgd;clear K;try clear gd
  repeat refine c_r ?_
  refine zaE (.inr rfl) Tryz.ntmps201 rfl (zaZ (x:=⟨w.heap.size+1,0,Option.none⟩) (k:=5) (vq0) rfl rfl (zah hbz rfl) zaz) ?_
  refine⟨Keep.to_ext hEw4 rfl (fun b hb=>by omega) hkz,_,rfl,?_⟩
  rw[hat]
  refine⟨_,_,_,rfl,?_,?_,.inr (zbd _),Rows.nil _ _ _,BlkB.nil⟩
  ·rw[←hdv']
   exact hdv4.keep hkz hdb4 (fun b hb _=>by omega)
  ·rw[←hdv']
   exact(hdb4.ext (by omega)).mono (by omega)
 ·have hnil:datC R n t=[]:=by simpa using hne
  rw[decide_eq_false hne]at hbb
  subst hbb
  refine zaH (t:=false) (vq0) (fun h=>by cases h) ?_
  intro _
  have d2:=zah (n:=2) (l:=[ov,lv]) hA4 rfl
  have hz4:=hz.ext hEw4
  repeat refine c_r ?_
  refine rq ?_;intro gd K hgd hK
  try simp (disch:=first|omega|assumption|rfl) only[go_sem,d2]
  refine Fn.mono (zjA hz4 hR (hn.ext hEw4) mn) ?_
  rintro _ w5 ⟨hE6,fv,tv,rfl,hfv,hfb,htv⟩
  obtain⟨b5,hb5⟩:∃bb:Bool,decide (datC R n 5≠ [])=bb:=⟨_,rfl⟩
  rw[hb5]
  try simp only[go_sem]
  refine hK _ _ ?_;clear hK hgd;clear K;try clear gd
  have hC5:=Ext.at hE6 hC4
  have e6:=hE6.size
  have hEw5:=hEw4.trans hE6
  repeat refine c_r ?_
  refine rg0 ?_
  repeat refine c_r ?_
  by_cases hne5:datC R n 5≠ []
  ·rw[decide_eq_true hne5]at hb5
   subst hb5
   obtain⟨af,cf,hfv',_⟩:=hfv.open
   obtain⟨at1,ct1,htv',_⟩:=id htv
   have hat:atL R n t wild=⟨5,(datC R n 5).take 1,toN 5 ((datC R n 5).take 1),wild,[]⟩:=by unfold atL;rw[if_neg hne,if_pos hne5]
   refine zaH (t:=true) (vq0) ?_ (fun h=>by cases h)
   intro _
   repeat refine c_r ?_
   refine rq ?_;intro gd K hgd hK
   try simp only[go_sem]
   rw[hfv',htv']
   refine⟨by kernel_rfl,?_⟩
   rw[show bdV Tryz.prog 184 [(0,vi 5),(2,.slice at1 ((toN 5 ((datC R n 5).take 1)).map vs).length ct1),(1,.slice af ((datC R n 5).take 1).length cf),(3,.bool wild)]=some (.agg #[vi 5,.slice af ((datC R n 5).take 1).length cf,.slice at1 ((toN 5 ((datC R n 5).take 1)).map vs).length ct1,.bool wild,.slice Option.none 0 0]) from by kernel_rfl]
   try simp only[go_sem]
   refine zaM (P:=Tryz.prog) (t:=184) (l:=[vi 5,.slice af ((datC R n 5).take 1).length cf,.slice at1 ((toN 5 ((datC R n 5).take 1)).map vs).length ct1,.bool wild,.slice Option.none 0 0]) hC5 rfl (fun v h=>by simp at h;rcases h with rfl|rfl|rfl|rfl|rfl<;>rfl) rfl rfl ?_
   intro z hz' hbz hkz
   try simp only[go_sem]
   refine hK _ _ ?_;clear hK hgd;clear K;try clear gd
   repeat refine c_r ?_
   refine zaE (.inr rfl) Tryz.ntmps201 rfl (zaZ (x:=⟨w.heap.size+1,0,Option.none⟩) (k:=5) (vq0) rfl rfl (zah hbz rfl) zaz) ?_
   have hEz:Ext w z:=Keep.to_ext hEw5 rfl (fun b hb=>by omega) hkz
   refine⟨hEz,_,rfl,?_⟩
   rw[hat]
   refine⟨_,_,_,rfl,?_,?_,.inr ?_,Rows.nil _ _ _,BlkB.nil⟩
   ·rw[←hfv']
    exact hfv.keep hkz hfb (fun b hb _=>by omega)
   ·rw[←hfv']
    exact(hfb.ext (by omega)).mono (by omega)
   ·rw[←htv']
    exact htv
  ·rw[decide_eq_false hne5]at hb5
   subst hb5
   have hat:atL R n t wild=⟨2,[],[],wild,[]⟩:=by unfold atL;rw[if_neg hne,if_neg hne5]
   refine zaH (t:=false) (vq0) (fun h=>by cases h) ?_
   intro _
   repeat refine c_r ?_
   refine rq ?_;intro gd K hgd hK
   try simp only[go_sem]
   refine⟨by kernel_rfl,?_⟩
   rw[show bdV Tryz.prog 184 [(0,vi 2),(3,.bool wild)]=some (.agg #[vi 2,.slice Option.none 0 0,.slice Option.none 0 0,.bool wild,.slice Option.none 0 0]) from by kernel_rfl]
   try simp only[go_sem]
   refine zaM (P:=Tryz.prog) (t:=184) (l:=[vi 2,.slice Option.none 0 0,.slice Option.none 0 0,.bool wild,.slice Option.none 0 0]) hC5 rfl (fun v h=>by simp at h;rcases h with rfl|rfl|rfl|rfl|rfl<;>rfl) rfl rfl ?_
   intro z hz' hbz hkz
   try simp only[go_sem]
   refine hK _ _ ?_;clear hK hgd;clear K;try clear gd
   repeat refine c_r ?_
   refine zaE (.inr rfl) Tryz.ntmps201 rfl (zaZ (x:=⟨w.heap.size+1,0,Option.none⟩) (k:=5) (vq0) rfl rfl (zah hbz rfl) zaz) ?_
   refine⟨Keep.to_ext hEw5 rfl (fun b hb=>by omega) hkz,_,rfl,?_⟩
   rw[hat]
   exact⟨_,_,_,rfl,Rows.nil _ _ _,BlkB.nil,.inr (zbd _),Rows.nil _ _ _,BlkB.nil⟩
def goL(o:Nm)(R:List RecL)(q:Nm):List Nm→Option ResL
 | []=>Option.none
 |n::l=>if cutP o R n=true then some (zdB R n) else if n.length=q.length then Option.none else match zaK R q n with
  |some r=>some r
  |Option.none=>goL o R q l
def zbl(o:Nm)(R:List RecL)(q:Nm)(t:Int):ResL:=
 if zaQ q o=false then⟨7,[],[],false,[]⟩ else match goL o R q (zbe o q) with
 |some r=>r
 |Option.none=>if zaX o R q=true then atL R q t false else match zbj o R q with
  |some s=>atL R s t true
  |Option.none=>⟨3,[],[],false,[]⟩
def passL(o:Nm)(R:List RecL)(q n:Nm):Prop:=cutP o R n=false∧n.length≠q.length∧zaK R q n=Option.none
theorem zeY{o:Nm}{R:List RecL}{q:Nm}:∀{pre l:List Nm},(∀n∈pre,passL o R q n)→goL o R q (pre++l)=goL o R q l
 | [],_,_=>rfl
 |n::pre,l,h=>by
  obtain⟨h1,h2,h3⟩:=h n (List.mem_cons_self ..)
  rw[List.cons_append]
  simp only[goL]
  rw[h1,if_neg Bool.false_ne_true,if_neg h2,h3]
  exact zeY (fun m hm=>h m (List.mem_cons_of_mem _ hm))
theorem zhe{o:Nm}{R:List RecL}{n:Nm}:ze5 o R n=0↔zaQ n o=false:=by
 unfold ze5
 by_cases h:zaQ n o=true
 ·rw[if_pos h,h]
  constructor
  ·intro h2
   split at h2
   ·cases h2
   ·split at h2<;>cases h2
  ·intro h2;cases h2
 ·rw[if_neg h]
  simp at h
  simp[h]
theorem zjD{q:Nm}{k:Nat}(hk:k≤q.length):zaQ q (q.drop k)=true:=by
 unfold zaQ
 rw[Bool.and_eq_true,decide_eq_true_eq,decide_eq_true_eq]
 refine⟨by simp,?_⟩
 rw[List.length_drop,show q.length - (q.length - k)=k from by omega]
theorem NmM.drop{n:Nm}(h:NmM n)(k:Nat):NmM (n.drop k):=⟨fun l hl=>h.lb l (List.drop_subset _ _ hl),by have:=h.len;simp;omega⟩
theorem Zone_ok{w0 w:World}{ov lv qv:Value}{o q:Nm}{R:List RecL}{t:Int}(hz:ZnAt w0 w ov lv o R)(hR:zey R)(hq:Row w qv (q.map vs))(mq:NmM q):
  Fn Tryz.prog 149 #[.agg #[ov,lv],qv,vi t] w (fun v w'=>Ext w w'∧∃cs,v= .agg cs.toArray∧ResB w0 w.heap.size w' cs (zbl o R q t)):=by
 obtain⟨ao,co,hov,_⟩:=id hz.org
 obtain⟨al,cl,hlv,_⟩:=hz.recs.open
 obtain⟨aq,cq,hqv,_⟩:=id hq
 rw[List.length_map]at hov hqv
 rw[hov,hlv,hqv]
 refine enter Tryz.func149 Tryz.ntmps149 rfl rfl ?_
 repeat refine c_r ?_
 refine rg0 ?_
 repeat refine c_r ?_
 rw[←hov,←hlv,←hqv]
 simp only[zai]
 refine zdt ?_
 intro w1 hE1 hs1 hA hB hC
 have d2:=zah (n:=2) (l:=[ov,lv]) hA rfl
 have dq:zae w1 (some ⟨w.heap.size+1,0,Option.none⟩)=some qv:=zab hB rfl
 have hz1:=hz.ext hE1
 have ql:=mq.len
 have hqo:(q.map vs).length=q.length:=List.length_map ..
 refine rq ?_;intro gd K hgd hK
 try simp (disch:=first|omega|assumption|rfl) only[go_sem,d2,dq]
 refine Fn.mono (Where_ok hz1 (hq.ext hE1) mq.s) ?_
 rintro _ w2 ⟨rfl,hE2⟩
 try simp only[go_sem]
 refine hK _ _ ?_;clear hK hgd;clear K;try clear gd
 have hEw2:=hE1.trans hE2
 have hA2:=hE2.at hA
 have hB2:=hE2.at hB
 have hC2:=hE2.at hC
 have s2:=hE2.size
 -- a result into its variable,and the end
 repeat refine c_r ?_
 refine wc0 ?_ ?_
 ·intro hw
  simp only[decide_eq_true_eq]at hw
  have hu:=zhe.1 hw
  have hlk:zbl o R q t=⟨7,[],[],false,[]⟩:=by unfold zbl;rw[if_pos hu]
  repeat refine c_r ?_
  refine rq ?_;intro gd K hgd hK
  try simp only[go_sem]
  refine⟨by kernel_rfl,?_⟩
  rw[show bdV Tryz.prog 184 [(0,vi 7)]=some (.agg #[vi 7,.slice Option.none 0 0,.slice Option.none 0 0,.bool false,.slice Option.none 0 0]) from by kernel_rfl]
  try simp only[go_sem]
  refine zaM (P:=Tryz.prog) (t:=184) (l:=[vi 7,.slice Option.none 0 0,.slice Option.none 0 0,.bool false,.slice Option.none 0 0]) hC2 rfl (fun v h=>by simp at h;rcases h with rfl|rfl|rfl|rfl|rfl<;>rfl) rfl rfl ?_
  intro z hz' hbz hkz
  try simp only[go_sem]
  refine hK _ _ ?_;clear hK hgd;clear K;try clear gd
  repeat refine c_r ?_
  refine zaE (.inr rfl) Tryz.ntmps149 rfl (zaZ (x:=⟨w.heap.size+1+1,0,Option.none⟩) (k:=5) (vq0) rfl rfl (zah hbz rfl) zaz) ?_
  exact⟨Keep.to_ext hEw2 rfl (fun b hb=>by omega) hkz,_,rfl,by rw[hlk];exact⟨_,_,_,rfl,Rows.nil _ _ _,BlkB.nil,.inr (zbd _),Rows.nil _ _ _,BlkB.nil⟩⟩
 intro hw
 simp only[decide_eq_false_iff_not]at hw
 have hu:zaQ q o=true:=by
  cases h:zaQ q o with
  |true=>rfl
  |false=>exact absurd (zhe.2 h) hw
 have d2':=zah (n:=2) (l:=[ov,lv]) hA2 rfl
 have dq':zae w2 (some ⟨w.heap.size+1,0,Option.none⟩)=some qv:=zab hB2 rfl
 repeat refine c_r ?_
 refine rq ?_;intro gd K hgd hK
 try simp (disch:=first|omega|assumption|rfl) only[go_sem,d2',dq']
 refine Fn.mono (ziV ⟨_,_,_,hqv⟩) ?_
 rintro _ w3 ⟨rfl,hE3,hs3,hbz,hbn⟩
 try simp only[go_sem]
 refine hK _ _ ?_;clear hK hgd;clear K;try clear gd
 have hEw3:=hEw2.trans hE3
 have hz3:=hz.ext hEw3
 have hq3:=hq.ext hEw3
 have hA3:=hE3.at hA2
 have hB3:=hE3.at hB2
 have hC3:=hE3.at hC2
 obtain⟨D,hD⟩:∃D,w3.heap.size=D:=⟨_,rfl⟩
 have hdm:∀{x},x∈zbe o q→∃k,k≤q.length∧x=q.drop k:=fun {x} hx=>by
  unfold zbe at hx
  split at hx
  ·obtain⟨i,hi,h⟩:=zbA.1 hx
   exact⟨i,by omega,h⟩
  ·cases hx
 repeat refine c_r ?_
 refine zay (Q:=fun e σ' ds' v'=>((e= .normal∨e= .exit 0)∧ds'=[{target:= .collected w3.heap.size,args:=#[]}]∧v'.heap[w3.heap.size]? =some (.deferred (some []))∧σ' 3= .pointer (some ⟨w.heap.size,0,Option.none⟩)∧σ' 4= .pointer (some ⟨w.heap.size+1,0,Option.none⟩)∧σ' 6= .pointer (some ⟨w.heap.size+1+1,0,Option.none⟩)∧σ' 2=vi t∧Ext w3 v'∧goL o R q (zbe o q)=Option.none)∨
   (e= .ret∧ds'=[{target:= .collected w3.heap.size,args:=#[]}]∧v'.heap[w3.heap.size]? =some (.deferred (some []))∧σ' 6= .pointer (some ⟨w.heap.size+1+1,0,Option.none⟩)∧Ext w v'∧∃r cs,goL o R q (zbe o q)=some r∧v'.heap[w.heap.size+1+1]? =some (.cells cs.toArray 184 (0,0))∧ResB w0 (w3.heap.size+2) v' cs r)) ?_ ?_
 ·refine zdN (g:=242) (cap:=#[.pointer (some ⟨w2.heap.size+1,0,Option.none⟩),.pointer (some ⟨w2.heap.size,0,Option.none⟩)]) (vq0) rfl (zlL (C:=fun b=>b=w.heap.size+1+1) hbn hbz hq hz3.org (by omega) (by omega) hz.ol (by omega)) (Keep.refl _ _) (Nat.le_refl _) (fun b hb=>by omega)
   (fun x B args h=>by obtain⟨v,h,_⟩:=h;rw[h];rfl)
   (fun pre B=>Ext w3 B∧∀x∈pre,passL o R q x)
   (fun c pre B=>(c= .exit 0∧Ext w3 B∧∃pre' x,pre=pre'++ [x]∧(∀y∈pre',passL o R q y)∧cutP o R x=false∧x.length=q.length)∨
    (c= .ret∧Ext w B∧∃pre' x r cs,pre=pre'++ [x]∧(∀y∈pre',passL o R q y)∧(∀l,goL o R q (x::l)=some r)∧B.heap[w.heap.size+1+1]? =some (.cells cs.toArray 184 (0,0))∧ResB w0 (w3.heap.size+2) B cs r)) ?_ ?_ ?_ ?_ ?_ ?_
  ·rintro pre B B' ⟨hEB,hp⟩ hk
   exact⟨Keep.to_ext hEB rfl (fun b hb=>by unfold two at hb;omega) hk,hp⟩
  ·rintro c pre B B' h hk
   rcases h with ⟨rfl,hEB,h⟩| ⟨rfl,hEB,pre',x,r,cs,h1,h2,h3,h4,h5⟩
   ·exact .inl ⟨rfl,Keep.to_ext hEB rfl (fun b hb=>by unfold two at hb;omega) hk,h⟩
   ·exact .inr ⟨rfl,Keep.to_ext hEB rfl (fun b hb=>by unfold two at hb;omega) hk,pre',x,r,cs,h1,h2,h3,(hk.block _ (Array.getElem?_eq_some_iff.1 h4).1 (by unfold two;omega)).trans h4,h5.keep hk (fun b hb _=>by unfold two;omega)⟩
  ·exact⟨Keep.refl _ _,fun x h=>absurd h (by simp)⟩
  ·rintro lp pre x suf B args hxs hszB ⟨hEB,hp⟩ ⟨xv,rfl,hxr⟩
   obtain⟨kx,hkx,hxk⟩:=hdm (x:=x) (by rw[hxs];simp)
   have mx:NmM x:=hxk▸mq.drop kx
   have hux:zaQ q x=true:=by rw[hxk];exact zjD hkx
   have hxl:=mx.len
   obtain⟨ax,cx,hxv,_⟩:=id hxr
   rw[List.length_map]at hxv
   have hol:=hz.ol
   refine rq ?_;intro gd K hgd hK
   try simp only[go_sem]
   refine hK _ _ ?_;clear hK hgd;clear K;try clear gd
   refine zau ?_
   refine⟨rfl,KeepB.refl _ _ _,fun Y hY=>?_⟩
   have hEY:Ext w3 Y:=Keep.to_ext hEB rfl (fun b hb=>by unfold two at hb;omega) hY
   have hzY:=hz3.ext hEY
   have p0:zae Y (some ⟨w.heap.size,0,Option.none⟩)=some ov:=zab (hEY.at hA3) rfl
   have d2:=zah (n:=2) (l:=[ov,lv]) (hEY.at hA3) rfl
   have dq:zae Y (some ⟨w.heap.size+1,0,Option.none⟩)=some qv:=zab (hEY.at hB3) rfl
   have hYs:=hY.size
   have hxY:Row Y xv (x.map vs):=hxr.ext (hEw3.trans hEY)
   have hqY:=hq3.ext hEY
   have hCY:=hEY.at hC3
   rw[hov]at p0
   repeat refine c_r ?_
   refine zay (Q:=fun e σ' ds' v'=>e= .normal∧ds'=[]∧σ' 7=xv∧σ' 3= .pointer (some ⟨w.heap.size,0,Option.none⟩)∧σ' 4= .pointer (some ⟨w.heap.size+1,0,Option.none⟩)∧σ' 6= .pointer (some ⟨w.heap.size+1+1,0,Option.none⟩)∧Ext Y v'∧σ' 31= .bool (cutP o R x)) ?_ ?_
   ·by_cases hl:(o.length:Int)<(x.length:Int)
    ·refine rq ?_;intro gd K hgd hK
     have hg6:∀n σ b,zav gd n σ (some (6,b))=zal (ev n σ (.tmp 27)) b:=(fun n σ b=>by rw[zac,show gd 6=some 27 from(by rw[hgd];rfl)];rfl)
     try simp (disch:=first|omega|assumption|rfl) only[go_sem,hxv,p0,d2,decide_eq_true hl,Nat.add_zero,↓hg6]
     rw[←hxv]
     refine Fn.mono (Has_ok hzY hxY mx.s) ?_
     rintro _ Y2 ⟨rfl,hY2⟩
     try simp only[go_sem]
     refine hK _ _ ?_;clear hK hgd;clear K;try clear gd
     refine⟨rfl,rfl,vq0,vq0,vq0,vq0,hY2,?_⟩
     unfold cutP hasL
     rw[show decide (o.length<x.length)=true from decide_eq_true (by omega),Bool.true_and]
     simp only[go_sem]
    ·refine rq ?_;intro gd K hgd hK
     have hg6:∀n σ b,zav gd n σ (some (6,b))=zal (ev n σ (.tmp 27)) b:=(fun n σ b=>by rw[zac,show gd 6=some 27 from(by rw[hgd];rfl)];rfl)
     try simp (disch:=first|omega|assumption|rfl) only[go_sem,hxv,p0,decide_eq_false hl,Nat.add_zero,↓hg6]
     rw[←hxv]
     refine hK _ _ ?_;clear hK hgd;clear K;try clear gd
     refine⟨rfl,rfl,vq0,vq0,vq0,vq0,Keep.refl _ _,?_⟩
     unfold cutP hasL
     rw[show decide (o.length<x.length)=false from decide_eq_false (by omega),Bool.false_and]
     simp only[go_sem]
   rintro _ σ1 _ Y1 ⟨rfl,rfl,h7,h3,h4,h6,hY1,h31⟩
   have hEY1:=hEY.trans hY1
   have hY1s:=hY1.size
   repeat refine c_r ?_
   refine zaH (t:=cutP o R x) ((vq1 h31)) ?_ ?_
   ·intro ht
    have d2':=zad hY1 d2
    repeat refine c_r ?_
    refine rq ?_;intro gd K hgd hK
    try simp (disch:=first|omega|assumption|rfl) only[go_sem,h3,h7,d2']
    refine Fn.mono (Refer_ok (hzY.ext hY1) hR (hxY.ext hY1) mx.s) ?_
    rintro _ Y2 ⟨hY2,cs,rfl,hres⟩
    try simp (disch:=first|omega|assumption|rfl) only[go_sem,h6]
    have hY2s:=hY2.size
    refine zaM (P:=Tryz.prog) (t:=184) (l:=cs) (Ext.at (hY1.trans hY2) hCY) hres.cells.1 hres.cells.2 (by rw[hres.cells.1];rfl) rfl ?_
    intro z hz' hbz2 hkz
    try simp only[go_sem]
    refine hK _ _ ?_;clear hK hgd;clear K;try clear gd
    repeat refine c_r ?_
    exact⟨.inr ⟨rfl,Keep.to_ext (hEw3.trans (hEY1.trans hY2)) rfl (fun b hb=>by omega) hkz,pre,x,zdB R x,cs,rfl,hp,fun l=>by simp only[goL];rw[if_pos ht],hbz2,(hres.keep hkz (fun b hb _=>by omega)).mono (by omega)⟩,((hY1.trans hY2).toB (by omega) (fun _ _ h=>h.elim)).trans (hkz.toB (by omega) (fun i _ h=>h))⟩
   intro ht
   have dq':=zaa hY1 dq
   rw[hqv]at dq'
   repeat refine c_r ?_
   refine rg4 h7 h4 hxv dq' ?_
   repeat refine c_r ?_
   refine wc0 ?_ ?_
   ·intro hl
    simp only[decide_eq_true_eq]at hl
    repeat refine c_r ?_
    exact⟨.inl ⟨rfl,hEY1,pre,x,rfl,hp,ht,by omega⟩,hY1.toB (by omega) (fun _ _ h=>h.elim)⟩
   intro hl
   simp only[decide_eq_false_iff_not]at hl
   have d2':=zad hY1 d2
   have dq'':=zaa hY1 dq
   repeat refine c_r ?_
   refine rq ?_;intro gd K hgd hK
   try simp (disch:=first|omega|assumption|rfl) only[go_sem,h3,h4,h7,d2',dq'']
   refine Fn.mono (zki (hzY.ext hY1) hR (hqY.ext hY1) (hxY.ext hY1) mq mx hux) ?_
   rintro _ Y2 ⟨hY2,cs,rfl,hres⟩
   try simp only[go_sem]
   have hB8:=zao Y2 (.cells #[vi 0,.slice Option.none 0 0,.slice Option.none 0 0,.bool false,.slice Option.none 0 0] 184 (0,0))
   have hE8:=Ext.alloc Y2 (.cells #[vi 0,.slice Option.none 0 0,.slice Option.none 0 0,.bool false,.slice Option.none 0 0] 184 (0,0))
   have hs8:=zai Y2 (.cells #[vi 0,.slice Option.none 0 0,.slice Option.none 0 0,.bool false,.slice Option.none 0 0] 184 (0,0))
   revert hB8 hE8 hs8
   generalize Y2.alloc (.cells #[vi 0,.slice Option.none 0 0,.slice Option.none 0 0,.bool false,.slice Option.none 0 0] 184 (0,0))=Y3
   intro hB8 hE8 hs8
   refine zaM (P:=Tryz.prog) (t:=184) (l:=cs) hB8 hres.cells.1 hres.cells.2 (by rw[hres.cells.1];rfl) rfl ?_
   intro Y4 hs9 hB9 hk9
   try simp only[go_sem]
   refine hK _ _ ?_;clear hK hgd;clear K;try clear gd
   have hE24:Ext Y2 Y4:=Keep.to_ext hE8 rfl (fun b hb=>by omega) hk9
   have hY4:=hY2.trans hE24
   have hY4s:=hY4.size
   have hres4:=hres.keep hE24 (fun b hb _ h=>h)
   have d9:=zah (n:=5) hB9 hres.cells.1.symm
   repeat refine c_r ?_
   refine rg0 ?_
   repeat refine c_r ?_
   refine zaH (t:=(zaK R q x).isSome) (vq0) ?_ ?_
   ·intro hs
    obtain⟨r,hr⟩:=Option.isSome_iff_exists.1 hs
    rw[hr]at hres4
    repeat refine c_r ?_
    refine rq ?_;intro gd K hgd hK
    try simp (disch:=first|omega|assumption|rfl) only[go_sem,d9,h6]
    refine zaM (P:=Tryz.prog) (t:=184) (l:=cs) (Ext.at (hY1.trans hY4) hCY) hres.cells.1 hres.cells.2 (by rw[hres.cells.1];rfl) rfl ?_
    intro z hz' hbz2 hkz
    try simp only[go_sem]
    refine hK _ _ ?_;clear hK hgd;clear K;try clear gd
    repeat refine c_r ?_
    exact⟨.inr ⟨rfl,Keep.to_ext (hEw3.trans (hEY1.trans hY4)) rfl (fun b hb=>by omega) hkz,pre,x,r,cs,rfl,hp,fun l=>by simp only[goL];rw[ht,if_neg Bool.false_ne_true,if_neg (by omega),hr],hbz2,(hres4.keep hkz (fun b hb _=>by omega)).mono (by omega)⟩,((hY1.trans hY4).toB (by omega) (fun _ _ h=>h.elim)).trans (hkz.toB (by omega) (fun i _ h=>h))⟩
   ·intro hs
    have hnone:zaK R q x=Option.none:=by simpa using hs
    repeat refine c_r ?_
    refine⟨⟨hEY1.trans hY4,fun y hy=>?_⟩,(hY1.trans hY4).toB (by omega) (fun _ _ h=>h.elim)⟩
    rcases List.mem_append.1 hy with hy|hy
    ·exact hp y hy
    ·rw[List.mem_singleton.1 hy];exact⟨ht,by omega,hnone⟩
  ·intro B hszB ⟨hEB,hp⟩ hDB
   refine .inl ⟨.inl rfl,rfl,hDB,vq0,vq0,vq0,vq0,hEB,?_⟩
   have:=zeY (l:=[]) hp
   rw[List.append_nil]at this
   rw[this];rfl
  ·rintro c pre x0 suf B hszB hxs h hDB
   rcases h with ⟨rfl,hEB,pre',x,hpre,h1,h2,h3⟩| ⟨rfl,hEB,pre',x,r,cs,hpre,h1,h2,h3,h4⟩
   ·obtain⟨rfl,h5⟩:=List.append_inj' hpre rfl
    have hx0:x0=x:=by simpa using h5
    subst hx0
    refine zfL ?_
    refine .inl ⟨.inr rfl,rfl,hDB,vq0,vq0,vq0,vq0,hEB,?_⟩
    rw[hxs,zeY h1]
    simp only[goL]
    rw[h2,if_neg Bool.false_ne_true,if_pos h3]
   ·obtain⟨rfl,h5⟩:=List.append_inj' hpre rfl
    have hx0:x0=x:=by simpa using h5
    subst hx0
    refine zkg ?_
    refine .inr ⟨rfl,rfl,hDB,vq0,hEB,r,cs,?_,h3,h4⟩
    rw[hxs,zeY h1,h2]
 ·intro e σ1 ds1 v1 hcase
  rcases hcase with ⟨he,rfl,hDv,h3,h4,h6,h2,hEv,hgo⟩| ⟨rfl,rfl,hDv,h6,hEv,r,cs,hgo,hbv,hres⟩
  ·refine zee he ?_
   have hlk:zbl o R q t=if zaX o R q=true then atL R q t false else match zbj o R q with
     |some s=>atL R s t true
     |Option.none=>⟨3,[],[],false,[]⟩:=by
    unfold zbl
    rw[if_neg (by rw[hu];decide),hgo]
   have hEwv:=hEw3.trans hEv
   have hzv:=hz3.ext hEv
   have hqv':=hq3.ext hEv
   have hCv:=Ext.at hEv hC3
   have d2v:=zah (n:=2) (l:=[ov,lv]) (Ext.at hEv hA3) rfl
   have dqv:zae v1 (some ⟨w.heap.size+1,0,Option.none⟩)=some qv:=zab (Ext.at hEv hB3) rfl
   have hvs:=hEv.size
   have hDlt:w3.heap.size<v1.heap.size:=(Array.getElem?_eq_some_iff.1 hDv).1
   -- a result laid into its variable,and the end
   have fin:∀{Y z:World} {cs:List Value} {r:ResL} {σ':Sto},Ext v1 Y→ResB w0 v1.heap.size Y cs r→r=zbl o R q t→z.heap.size=Y.heap.size→z.heap[w.heap.size+1+1]? =some (.cells cs.toArray 184 (0,0))→Keep (fun i=>i=w.heap.size+1+1) Y z→σ' 6= .pointer (some ⟨w.heap.size+1+1,0,Option.none⟩)→
     z.heap[w3.heap.size]? =some (.deferred (some []))∧∀Z,Keep (fun b=>b=w3.heap.size) z Z→Z.heap.size=z.heap.size→∃rs,resV Tryz.prog 68 σ' Z [.cell 6 184]=some rs∧(Ext w Z∧∃cs,resT rs= .agg cs.toArray∧ResB w0 w.heap.size Z cs (zbl o R q t)):=fun {Y z cs r σ'} hY hres hr hzs hbz hkz h6'=>by
    have hYs:=hY.size
    refine⟨(hkz.block _ (by omega) (by omega)).trans (Ext.at hY hDv),fun Z hkZ hsZ=>⟨_,zaZ (x:=⟨w.heap.size+1+1,0,Option.none⟩) (k:=5) ((vq1 h6')) rfl rfl (zah ((hkZ.block _ (by omega) (by omega)).trans hbz) hres.cells.1.symm) zaz,?_,_,rfl,?_⟩⟩
    ·exact Keep.to_ext (Keep.to_ext (hEwv.trans hY) rfl (fun b hb=>by omega) hkz) rfl (fun b hb=>by omega) hkZ
    ·rw[←hr]
     exact(((hres.keep hkz (fun b hb _=>by omega)).keep hkZ (fun b hb _=>by omega))).mono (by omega)
   repeat refine c_r ?_
   refine rq ?_;intro gd K hgd hK
   try simp (disch:=first|omega|assumption|rfl) only[go_sem,h3,h4,d2v,dqv]
   refine Fn.mono (zij hzv hqv' mq.s) ?_
   rintro _ Y1 ⟨rfl,hY1⟩
   try simp only[go_sem]
   refine hK _ _ ?_;clear hK hgd;clear K;try clear gd
   have hzY1:=hzv.ext hY1
   have d2y:=zad hY1 d2v
   have dqy:=zaa hY1 dqv
   have hY1s:=hY1.size
   repeat refine c_r ?_
   refine zaH (t:=zaX o R q) (vq0) ?_ ?_
   ·intro hex
    rw[hex,if_pos rfl]at hlk
    repeat refine c_r ?_
    refine rq ?_;intro gd K hgd hK
    try simp (disch:=first|omega|assumption|rfl) only[go_sem,h3,h4,h2,d2y,dqy]
    refine Fn.mono (At_ok hzY1 hR (hqv'.ext hY1) mq.s) ?_
    rintro _ Y2 ⟨hY2,cs,rfl,hres⟩
    try simp (disch:=first|omega|assumption|rfl) only[go_sem,h6]
    have hY2s:=hY2.size
    refine zaM (P:=Tryz.prog) (t:=184) (l:=cs) (Ext.at (hY1.trans hY2) hCv) hres.cells.1 hres.cells.2 (by rw[hres.cells.1];rfl) rfl ?_
    intro z hz' hbz2 hkz
    try simp only[go_sem]
    refine hK _ _ ?_;clear hK hgd;clear K;try clear gd
    repeat refine c_r ?_
    obtain⟨f1,f2⟩:=fin (hY1.trans hY2) (hres.mono hY1s) hlk.symm hz' hbz2 hkz h6
    refine zby (.inr rfl) Tryz.ntmps149 rfl f1 ?_
    intro Z hkZ hsZ
    exact f2 Z hkZ hsZ
   intro hex
   rw[hex,if_neg Bool.false_ne_true]at hlk
   repeat refine c_r ?_
   refine rq ?_;intro gd K hgd hK
   try simp (disch:=first|omega|assumption|rfl) only[go_sem,h3,h4,d2y,dqy]
   refine Fn.mono (zl2 hzY1 (hqv'.ext hY1) mq.s ql) ?_
   rintro _ Y2 ⟨hY2,sv,rfl,hsv⟩
   try simp only[go_sem]
   refine hK _ _ ?_;clear hK hgd;clear K;try clear gd
   have hY2s:=hY2.size
   have hzY2:=hzY1.ext hY2
   have d2z:=zad hY2 d2y
   have dqz:=zaa hY2 dqy
   repeat refine c_r ?_
   refine rg0 ?_
   repeat refine c_r ?_
   refine zaH (t:=(zbj o R q).isSome) (vq0) ?_ ?_
   ·intro hs
    obtain⟨s0,hs0⟩:=Option.isSome_iff_exists.1 hs
    rw[hs0]at hlk hsv
    have hsn:s0=zb0 o R q:=by
     unfold zbj at hs0
     split at hs0
     ·exact(Option.some.inj hs0).symm
     ·cases hs0
    have hss:NmS s0:=by rw[hsn];exact zkv mq.s ql
    repeat refine c_r ?_
    refine rq ?_;intro gd K hgd hK
    try simp (disch:=first|omega|assumption|rfl) only[go_sem,h3,h2,d2z]
    refine Fn.mono (At_ok hzY2 hR hsv hss) ?_
    rintro _ Y3 ⟨hY3,cs,rfl,hres⟩
    try simp (disch:=first|omega|assumption|rfl) only[go_sem,h6]
    have hY3s:=hY3.size
    refine zaM (P:=Tryz.prog) (t:=184) (l:=cs) (Ext.at ((hY1.trans hY2).trans hY3) hCv) hres.cells.1 hres.cells.2 (by rw[hres.cells.1];rfl) rfl ?_
    intro z hz' hbz2 hkz
    try simp only[go_sem]
    refine hK _ _ ?_;clear hK hgd;clear K;try clear gd
    repeat refine c_r ?_
    obtain⟨f1,f2⟩:=fin ((hY1.trans hY2).trans hY3) (hres.mono (by omega)) hlk.symm hz' hbz2 hkz h6
    refine zby (.inr rfl) Tryz.ntmps149 rfl f1 ?_
    intro Z hkZ hsZ
    exact f2 Z hkZ hsZ
   ·intro hs
    have hs0:zbj o R q=Option.none:=by simpa using hs
    rw[hs0]at hlk
    repeat refine c_r ?_
    refine rq ?_;intro gd K hgd hK
    try simp (disch:=first|omega|assumption|rfl) only[go_sem,h6]
    refine⟨by kernel_rfl,?_⟩
    rw[show bdV Tryz.prog 184 [(0,vi 3)]=some (.agg #[vi 3,.slice Option.none 0 0,.slice Option.none 0 0,.bool false,.slice Option.none 0 0]) from by kernel_rfl]
    try simp (disch:=first|omega|assumption|rfl) only[go_sem,h6]
    refine zaM (P:=Tryz.prog) (t:=184) (l:=[vi 3,.slice Option.none 0 0,.slice Option.none 0 0,.bool false,.slice Option.none 0 0]) (Ext.at (hY1.trans hY2) hCv) rfl (fun v h=>by simp at h;rcases h with rfl|rfl|rfl|rfl|rfl<;>rfl) rfl rfl ?_
    intro z hz' hbz2 hkz
    try simp only[go_sem]
    refine hK _ _ ?_;clear hK hgd;clear K;try clear gd
    repeat refine c_r ?_
    obtain⟨f1,f2⟩:=fin (r:=⟨3,[],[],false,[]⟩) (hY1.trans hY2) ⟨_,_,_,rfl,Rows.nil _ _ _,BlkB.nil,.inr (zbd _),Rows.nil _ _ _,BlkB.nil⟩ hlk.symm hz' hbz2 hkz h6
    refine zby (.inr rfl) Tryz.ntmps149 rfl f1 ?_
    intro Z hkZ hsZ
    exact f2 Z hkZ hsZ
  ·have hlk:zbl o R q t=r:=by
    unfold zbl
    rw[if_neg (by rw[hu];decide),hgo]
   have hDlt:w3.heap.size<v1.heap.size:=(Array.getElem?_eq_some_iff.1 hDv).1
   repeat refine c_r ?_
   refine zby (.inr rfl) Tryz.ntmps149 rfl hDv ?_
   intro Z hkZ hsZ
   refine⟨_,zaZ (x:=⟨w.heap.size+1+1,0,Option.none⟩) (k:=5) ((vq1 h6)) rfl rfl (zah ((hkZ.block _ (by have:=hE3.size;omega) (by omega)).trans hbv) hres.cells.1.symm) zaz,Keep.to_ext hEv rfl (fun b hb=>by omega) hkZ,_,rfl,?_⟩
   rw[hlk]
   exact(hres.keep hkZ (fun b hb _=>by omega)).mono (by omega)
def LeadR(R:List RecL):Prop:=∀r∈R,(r.dat.ty=2∨r.dat.ty=5∨r.dat.ty=39)→r.dat.names≠ []
theorem zg0{R:List RecL}{n:Nm}{t:Int}{d:DatL}(h:d∈datC R n t):d.ty=t:=by
 unfold datC at h
 obtain⟨x,hx,rfl⟩:=List.mem_map.1 h
 have:=ofC_is x hx
 unfold isL at this
 simp only[Bool.and_eq_true,decide_eq_true_eq]at this
 exact this.1.symm
theorem zl0{w0 w:World}(hE0:Ext w0 w){ov lv:Value}{o:Nm}{R:List RecL}(ho:Row w ov (o.map vs))(hl:Rows 7 (RecAt w0) w lv R)(hok:∀r∈R,zbs r)(hlen:R.length≤1000000000):
  Fn Tryz.prog 111 #[ov,lv] w (fun v w'=>Ext w w'∧∃cv,v= .agg #[ov,cv]∧Rows 7 (RecAt w0) w' cv (za3 R)):=by
 obtain⟨ao,co,hov,_⟩:=id ho
 obtain⟨no,hno⟩:∃no,(o.map vs).length=no:=⟨_,rfl⟩
 rw[hno]at hov
 refine enter Tryz.func111 Tryz.ntmps111 rfl rfl ?_
 repeat refine c_r ?_
 refine rg0 ?_
 repeat refine c_r ?_
 refine zaB ?_
 intro w1 hE1 hs1 hA
 refine rq ?_;intro gd K hgd hK
 try simp only[go_sem]
 refine Fn.mono (zjB w0 w1 (hE0.trans hE1) (hl.ext hE1) hok hlen) ?_
 rintro cv w2 ⟨hcv,hE2,hcb⟩
 obtain⟨ac,cc,hcve,_⟩:=hcv.open
 try simp only[go_sem]
 refine⟨by kernel_rfl,?_⟩
 rw[hov,hcve,show bdV Tryz.prog 122 [(0,.slice ao no co),(1,.slice ac (za3 R).length cc)]=some (.agg #[.slice ao no co,.slice ac (za3 R).length cc]) from by kernel_rfl]
 try simp only[go_sem]
 refine zaM (P:=Tryz.prog) (t:=122) (l:=[.slice ao no co,.slice ac (za3 R).length cc]) (Ext.at hE2 hA) rfl (fun v h=>by simp at h;rcases h with rfl|rfl<;>rfl) rfl rfl ?_
 intro z hz' hbz hkz
 try simp only[go_sem]
 refine hK _ _ ?_;clear hK hgd;clear K;try clear gd
 repeat refine c_r ?_
 refine zaE (.inr rfl) Tryz.ntmps111 rfl (zaZ (x:=⟨w.heap.size,0,Option.none⟩) (k:=2) (vq0) rfl rfl (zah hbz rfl) zaz) ?_
 refine⟨Keep.to_ext (hE1.trans hE2) rfl (fun b hb=>by omega) hkz,.slice ac (za3 R).length cc,by rw[hov];rfl,?_⟩
 rw[←hcve]
 exact hcv.keep hkz hcb (fun b hb _=>by omega)
theorem RZNew_ok{w0 w:World}(hE0:Ext w0 w){ov lv:Value}{o:Nm}{R:List RecL}(ho:Row w ov (o.map vs))(hl:Rows 7 (RecAt w0) w lv R)(hok:∀r∈R,zbs r)(hlen:R.length≤1000000000):
  Fn Tryz.prog 65 #[ov,lv] w (fun v w'=>Ext w w'∧∃cv,v= .agg #[ov,cv]∧Rows 7 (RecAt w0) w' cv (za3 R)):=by
 obtain⟨ao,co,hov,_⟩:=id ho
 obtain⟨no,hno⟩:∃no,(o.map vs).length=no:=⟨_,rfl⟩
 rw[hno]at hov
 refine enter Tryz.func65 Tryz.ntmps65 rfl rfl ?_
 repeat refine c_r ?_
 refine rg0 ?_
 repeat refine c_r ?_
 refine zaB ?_
 intro w1 hE1 hs1 hA
 refine rq ?_;intro gd K hgd hK
 try simp only[go_sem]
 refine Fn.mono (zl9 w0 w1 (hE0.trans hE1) (hl.ext hE1) hok hlen) ?_
 rintro cv w2 ⟨hcv,hE2⟩
 obtain⟨ac,cc,hcve,_⟩:=hcv.rows.open
 try simp only[go_sem]
 refine⟨by kernel_rfl,?_⟩
 rw[hov,hcve,show bdV Tryz.prog 128 [(0,.slice ao no co),(1,.slice ac (za3 R).length cc)]=some (.agg #[.slice ao no co,.slice ac (za3 R).length cc]) from by kernel_rfl]
 try simp only[go_sem]
 refine zaM (P:=Tryz.prog) (t:=128) (l:=[.slice ao no co,.slice ac (za3 R).length cc]) (Ext.at hE2 hA) rfl (fun v h=>by simp at h;rcases h with rfl|rfl<;>rfl) rfl rfl ?_
 intro z hz' hbz hkz
 try simp only[go_sem]
 refine hK _ _ ?_;clear hK hgd;clear K;try clear gd
 repeat refine c_r ?_
 refine zaE (.inr rfl) Tryz.ntmps65 rfl (zaZ (x:=⟨w.heap.size,0,Option.none⟩) (k:=2) (vq0) rfl rfl (zah hbz rfl) zaz) ?_
 refine⟨Keep.to_ext (hE1.trans hE2) rfl (fun b hb=>by omega) hkz,.slice ac (za3 R).length cc,by rw[hov];rfl,?_⟩
 rw[←hcve]
 exact hcv.rows.keep hkz hcv.blk (fun b hb _=>by omega)
def zbW(n:Nm):Bool:=few n && decide (zaD n=0)
theorem zbi{n:Nm}(h:zaD n=0):∀l∈n,l≠ []∧l.length≤63:=by
 intro l hl
 unfold zaD at h
 cases hf:n.find? (fun l=>decide (errL l≠0)) with
 |some x=>
  rw[hf]at h
  have:=List.find?_some hf
  simp only[decide_eq_true_eq]at this
  exact absurd h this
 |none=>
  have:=List.find?_eq_none.1 hf l hl
  simp only[decide_eq_true_eq,Decidable.not_not]at this
  unfold errL at this
  split at this
  ·cases this
  ·rename_i h0
   refine⟨h0,?_⟩
   split at this
   ·cases this
   ·omega
theorem sum_ge:∀n:Nm,n.length≤(n.map fun l=>1+l.length).sum
 | []=>Nat.zero_le _
 |a::n=>by
  have ih:=sum_ge n
  rw[List.map_cons,List.sum_cons]
  have e:(a::n).length=n.length+1:=rfl
  omega
theorem zgm{n:Nm}(h:zaD n=0):n.length≤255:=by
 have hl:=zbi h
 unfold zaD at h
 split at h
 ·rename_i x hf
  have:=List.find?_some hf
  simp only[decide_eq_true_eq]at this
  exact absurd h this
 ·split at h
  ·cases h
  ·rename_i h2
   unfold lenN at h2
   have:=sum_ge n
   omega
theorem ze1{n:Nm}(h:zaD n=0):NmG n:=
 ⟨fun l hl=>(zbi h l hl).1,fun l hl=>by have:=(zbi h l hl).2;omega,by have:=zgm h;omega⟩
theorem zbN{n:Nm}(h:zbW n=true):NmG n:=by
 unfold zbW at h
 simp only[Bool.and_eq_true,decide_eq_true_eq]at h
 exact ze1 h.2
theorem zhc(w:World)(a:Value)(xs:Nm)(ha:Row w a (xs.map vs)):
  Fn Tryz.prog 17 #[a] w (fun v w'=>v= .bool (zbW xs)∧Ext w w'):=by
 refine enter Tryz.func17 Tryz.ntmps17 rfl rfl ?_
 repeat refine c_r ?_
 refine rg0 ?_
 repeat refine c_r ?_
 cases hf:few xs with
 |true=>
  refine rq ?_;intro gd K hgd hK
  have hg2:∀n σ b,zav gd n σ (some (2,b))=zal (ev n σ (.tmp 5)) b:=(fun n σ b=>by rw[zac,show gd 2=some 5 from(by rw[hgd];rfl)];rfl)
  try simp only[go_sem]
  refine Fn.mono (zii w a xs ha) ?_
  rintro _ w1 ⟨rfl,hE1⟩
  rw[hf]
  try simp (disch:=first|omega|assumption|rfl) only[go_sem,↓hg2]
  refine Fn.mono (zbH w1 a xs (ha.ext hE1) (fun l hl=>by
   have:=few_lb hf l hl
   simp only[few,Bool.and_eq_true,List.all_eq_true,decide_eq_true_eq]at hf
   have:=hf.2 l hl
   omega) (by have:=few_len hf;omega)) ?_
  rintro _ w2 ⟨rfl,hE2⟩
  try simp (disch:=first|omega|assumption|rfl) only[go_sem,↓hg2]
  refine hK _ _ ?_;clear hK hgd;clear K;try clear gd
  repeat refine c_r ?_
  refine rt0 Tryz.ntmps17 ?_
  refine⟨?_,hE1.trans hE2⟩
  unfold zbW
  rw[hf,Bool.true_and]
 |false=>
  refine rq ?_;intro gd K hgd hK
  have hg2:∀n σ b,zav gd n σ (some (2,b))=zal (ev n σ (.tmp 5)) b:=(fun n σ b=>by rw[zac,show gd 2=some 5 from(by rw[hgd];rfl)];rfl)
  try simp only[go_sem]
  refine Fn.mono (zii w a xs ha) ?_
  rintro _ w1 ⟨rfl,hE1⟩
  rw[hf]
  try simp (disch:=first|omega|assumption|rfl) only[go_sem,↓hg2]
  refine hK _ _ ?_;clear hK hgd;clear K;try clear gd
  repeat refine c_r ?_
  refine rt0 Tryz.ntmps17 ?_
  refine⟨?_,hE1⟩
  unfold zbW
  rw[hf,Bool.false_and]
theorem zmm(w:World)(t:Int):
  Fn Tryz.prog 264 #[vi t] w (fun v w'=>w'=w∧∃a b c:Int,v= .tuple #[vi a,vi b,vi c]∧((t=2∨t=5∨t=39)→a=1)∧(t=15→b=1)):=by
 refine enter Tryz.func264 Tryz.ntmps264 rfl rfl ?_
 repeat refine c_r ?_
 refine rg0 ?_
 repeat refine c_r ?_
 refine rg0 ?_
 repeat refine c_r ?_
 refine rg0 ?_
 repeat refine c_r ?_
 refine wc0 ?_ ?_
 ·intro h1
  simp only[decide_eq_true_eq]at h1
  repeat (first|refine c_r ?_|refine rg0 ?_)
  refine zaE (.inr rfl) Tryz.ntmps264 rfl (zat (vr0) (zat (vr0) (zat (vr0) zaz))) ?_
  exact⟨rfl,0,0,4,rfl,by omega,by omega⟩
 intro h1
 simp only[decide_eq_false_iff_not]at h1
 repeat refine c_r ?_
 refine rg0 ?_
 repeat refine c_r ?_
 refine wc0 ?_ ?_
 ·intro h2
  simp only[decide_eq_true_eq]at h2
  repeat (first|refine c_r ?_|refine rg0 ?_)
  refine zaE (.inr rfl) Tryz.ntmps264 rfl (zat (vr0) (zat (vr0) (zat (vr0) zaz))) ?_
  exact⟨rfl,0,0,16,rfl,by omega,by omega⟩
 intro h2
 simp only[decide_eq_false_iff_not]at h2
 refine zfY ?_
 refine zay (Q:=fun e σ' ds' v'=>e= .normal∧ds'=[]∧v'=w∧σ' 5=vi t∧∃bb,σ' 10= .bool bb∧bb=(decide (t=2)|| (decide (t=5)|| (decide (t=12)||decide (t=39))))) ?_ ?_
 ·refine zfY ?_
  refine rg0 ?_
  refine zau ?_
  refine wc0 ?_ ?_
  ·intro h
   repeat refine c_r ?_
   exact⟨rfl,rfl,rfl,vq0,true,by simp only[go_sem];rw[h],by rw[h];rfl⟩
  intro e1
  refine zfY ?_
  refine rg0 ?_
  refine zau ?_
  refine wc0 ?_ ?_
  ·intro h
   repeat refine c_r ?_
   exact⟨rfl,rfl,rfl,vq0,true,by simp only[go_sem];rw[h],by rw[e1,h];rfl⟩
  intro e2
  refine zfY ?_
  refine rg0 ?_
  refine zau ?_
  refine wc0 ?_ ?_
  ·intro h
   repeat refine c_r ?_
   exact⟨rfl,rfl,rfl,vq0,true,by simp only[go_sem];rw[h],by rw[e1,e2,h];rfl⟩
  intro e3
  refine rg0 ?_
  exact⟨rfl,rfl,rfl,vq0,decide (t=39),vr0,by rw[e1,e2,e3];rfl⟩
 rintro _ σ1 _ v1 ⟨rfl,rfl,hv1,h5,bb,h10,hbb⟩
 rw[hv1]
 clear hv1 v1
 repeat refine c_r ?_
 refine zaH (t:=bb) ((vq1 h10)) ?_ ?_
 ·intro ht
  rw[ht]at hbb
  repeat (first|refine c_r ?_|refine rg0 ?_)
  refine zaE (.inr rfl) Tryz.ntmps264 rfl (zat (vr0) (zat (vr0) (zat (vr0) zaz))) ?_
  refine⟨rfl,1,0,0,rfl,fun _=>rfl,fun h=>?_⟩
  subst h
  cases hbb
 intro ht
 rw[ht]at hbb
 have hno:¬(t=2∨t=5∨t=39):=by
  rintro(rfl|rfl|rfl)<;>cases hbb
 repeat refine c_r ?_
 refine rg1 h5 ?_
 repeat refine c_r ?_
 refine wc0 ?_ ?_
 ·intro h3
  repeat (first|refine c_r ?_|refine rg0 ?_)
  refine zaE (.inr rfl) Tryz.ntmps264 rfl (zat (vr0) (zat (vr0) (zat (vr0) zaz))) ?_
  exact⟨rfl,1,1,0,rfl,fun _=>rfl,fun _=>rfl⟩
 intro h3
 simp only[decide_eq_false_iff_not]at h3
 repeat refine c_r ?_
 refine rg1 h5 ?_
 repeat refine c_r ?_
 refine wc0 ?_ ?_
 ·intro h4
  repeat (first|refine c_r ?_|refine rg0 ?_)
  refine zaE (.inr rfl) Tryz.ntmps264 rfl (zat (vr0) (zat (vr0) (zat (vr0) zaz))) ?_
  exact⟨rfl,2,5,0,rfl,fun h=>absurd h hno,fun h=>absurd h h3⟩
 intro h4
 repeat refine c_r ?_
 refine rg1 h5 ?_
 repeat refine c_r ?_
 refine wc0 ?_ ?_
 ·intro h6
  repeat (first|refine c_r ?_|refine rg0 ?_)
  refine zaE (.inr rfl) Tryz.ntmps264 rfl (zat (vr0) (zat (vr0) (zat (vr0) zaz))) ?_
  exact⟨rfl,0,0,0,rfl,fun h=>absurd h hno,fun h=>absurd h h3⟩
 intro h6
 repeat (first|refine c_r ?_|refine rg0 ?_)
 refine zaE (.inr rfl) Tryz.ntmps264 rfl (zat (vr0) (zat (vr0) (zat (vr0) zaz))) ?_
 exact⟨rfl,0,0, -1,rfl,fun h=>absurd h hno,fun h=>absurd h h3⟩
theorem zbS(b:Bool):zal undef b=false:=nr rfl
structure DatF(d:DatL):Prop where
 names:∀n∈d.names,(∀l∈n,l.length≤1000000000)∧n.length≤1000000000
 nn:d.names.length≤1000000000
 nu:d.nums.length≤1000000000
 nt:d.texts.length≤1000000000
 tl:∀l∈d.texts,l.length≤1000000000
 nr:d.raw.length≤1000000000
 n8:d.names.length≤8
def zgJ(t:Int):Prop:=t=2∨t=5∨t=39
theorem zha{w0 w:World}(hE0:Ext w0 w){cs:List Value}{d:DatL}(hd:DatAt w0 cs d)(hf:DatF d):
  Fn Tryz.prog 218 #[.agg cs.toArray] w (fun v w'=>Ext w w'∧∃e:Int,v=vi e∧(e=0→(∀n∈d.names,zaD n=0)∧(zgJ d.ty→d.names.length=1))):=by
 obtain⟨nm,nu,tx,rw',rfl,⟨vals,⟨an,cn,rfl,hcn,hgn⟩,hvl,hvr⟩,⟨au,cu,rfl,hcu,hgu⟩,⟨at1,ct,rfl,hct,hgt⟩,⟨ar,cr,rfl,hcr,hgr⟩⟩:=hd.ex
 simp only[List.length_map]at hcu hgu hct hgt hcr hgr
 simp only[List.length_map]
 obtain⟨L,hL⟩:∃L:List Value,[vi d.ty,.slice an vals.length cn,.slice au d.nums.length cu,.slice at1 d.texts.length ct,.slice ar d.raw.length cr]=L:=⟨_,rfl⟩
 refine enter Tryz.func218 Tryz.ntmps218 rfl rfl ?_
 repeat refine c_r ?_
 refine rg0 ?_
 repeat refine c_r ?_
 refine zaB ?_
 intro w1 hE1 hs1 hA
 have p0:zae w1 (some ⟨w.heap.size,0,Option.none⟩)=some (vi d.ty):=zab hA rfl
 have p1:zae w1 (some ⟨w.heap.size,1,Option.none⟩)=some (.slice an vals.length cn):=zab hA rfl
 have p2:zae w1 (some ⟨w.heap.size,2,Option.none⟩)=some (.slice au d.nums.length cu):=zab hA rfl
 have p3:zae w1 (some ⟨w.heap.size,3,Option.none⟩)=some (.slice at1 d.texts.length ct):=zab hA rfl
 have p4:zae w1 (some ⟨w.heap.size,4,Option.none⟩)=some (.slice ar d.raw.length cr):=zab hA rfl
 have nn:=hf.nn
 have nu:=hf.nu
 have nt:=hf.nt
 have nr:=hf.nr
 have rd:∀{x},Ext w1 x→zae x (some ⟨w.heap.size,1,Option.none⟩)=some (.slice an vals.length cn)∧zae x (some ⟨w.heap.size,3,Option.none⟩)=some (.slice at1 d.texts.length ct)∧zae x (some ⟨w.heap.size,0,Option.none⟩)=some (vi d.ty)∧zae x (some ⟨w.heap.size,2,Option.none⟩)=some (.slice au d.nums.length cu)∧zae x (some ⟨w.heap.size,4,Option.none⟩)=some (.slice ar d.raw.length cr):=
  fun hx=>⟨zaa hx p1,zaa hx p3,zaa hx p0,zaa hx p2,zaa hx p4⟩
 refine zay (Q:=fun e σ' ds' v'=>e= .normal∧ds'=[]∧σ' 1= .pointer (some ⟨w.heap.size,0,Option.none⟩)∧v'=w1∧∃bb,σ' 17= .bool bb) ?_ ?_
 ·by_cases h1:d.ty<1
  ·refine rq ?_;intro gd K hgd hK
   have hg3:∀n σ b,zav gd n σ (some (3,b))=zal (ev n σ (.tmp 13)) b:=(fun n σ b=>by rw[zac,show gd 3=some 13 from(by rw[hgd];rfl)];rfl)
   try simp (disch:=first|omega|assumption|rfl) only[go_sem,p0,Nat.add_zero,decide_eq_true h1,↓hg3]
   refine hK _ _ ?_;clear hK hgd;clear K;try clear gd
   exact⟨rfl,rfl,vq0,rfl,_,vr0⟩
  ·refine rq ?_;intro gd K hgd hK
   have hg3:∀n σ b,zav gd n σ (some (3,b))=zal (ev n σ (.tmp 13)) b:=(fun n σ b=>by rw[zac,show gd 3=some 13 from(by rw[hgd];rfl)];rfl)
   try simp (disch:=first|omega|assumption|rfl) only[go_sem,p0,Nat.add_zero,decide_eq_false h1,↓hg3]
   refine hK _ _ ?_;clear hK hgd;clear K;try clear gd
   exact⟨rfl,rfl,vq0,rfl,_,vr0⟩
 rintro _ σ1 _ v1 ⟨rfl,rfl,h1,hv1,bb,h17⟩
 rw[hv1]
 clear hv1 v1
 repeat refine c_r ?_
 refine zaH (t:=bb) ((vq1 h17)) ?_ ?_
 ·intro _
  repeat (first|refine c_r ?_|refine rg0 ?_)
  refine rt0 Tryz.ntmps218 ?_
  exact⟨hE1,6,rfl,fun h=>by cases h⟩
 intro _
 repeat refine c_r ?_
 refine rq ?_;intro gd K hgd hK
 try simp (disch:=first|omega|assumption|rfl) only[go_sem,h1,p0,Nat.add_zero]
 refine Fn.mono (zmm w1 d.ty) ?_
 rintro _ w2 ⟨hw2,a,b,c,rfl,hca,hcb⟩
 rw[hw2]
 clear hw2 w2
 try simp only[go_sem]
 refine hK _ _ ?_;clear hK hgd;clear K;try clear gd
 repeat refine c_r ?_
 refine rg3 h1 p3 Nat.zero_add ?_
 repeat refine c_r ?_
 refine rg3 h1 p0 Nat.add_zero ?_
 repeat refine c_r ?_
 refine zay (Q:=fun e σ' ds' v'=>e= .normal∧ds'=[]∧σ' 1= .pointer (some ⟨w.heap.size,0,Option.none⟩)∧σ' 3=vi a∧σ' 4=vi b∧σ' 5=vi c∧v'=w1∧∃bb,σ' 6= .bool bb) ?_ ?_
 ·refine wc0 ?_ ?_
  ·intro h16
   repeat refine c_r ?_
   by_cases h2:(d.texts.length:Int)≥1
   ·refine rq ?_;intro gd K hgd hK
    have hg4:∀n σ b,zav gd n σ (some (4,b))=zal (ev n σ (.tmp 36)) b:=(fun n σ b=>by rw[zac,show gd 4=some 36 from(by rw[hgd];rfl)];rfl)
    try simp (disch:=first|omega|assumption|rfl) only[go_sem,h1,p3,Nat.zero_add,decide_eq_true h2,↓hg4]
    refine hK _ _ ?_;clear hK hgd;clear K;try clear gd
    exact⟨rfl,rfl,(vq1 h1),vq0,vq0,vq0,rfl,_,vr0⟩
   ·refine rq ?_;intro gd K hgd hK
    have hg4:∀n σ b,zav gd n σ (some (4,b))=zal (ev n σ (.tmp 36)) b:=(fun n σ b=>by rw[zac,show gd 4=some 36 from(by rw[hgd];rfl)];rfl)
    try simp (disch:=first|omega|assumption|rfl) only[go_sem,h1,p3,Nat.zero_add,decide_eq_false h2,↓hg4]
    refine hK _ _ ?_;clear hK hgd;clear K;try clear gd
    exact⟨rfl,rfl,(vq1 h1),vq0,vq0,vq0,rfl,_,vr0⟩
  ·intro h16
   repeat refine c_r ?_
   exact⟨rfl,rfl,(vq1 h1),vq0,vq0,vq0,rfl,_,vr0⟩
 clear h1
 rintro _ σ2 _ v1 ⟨rfl,rfl,h1,h3,h4,h5,hv1,b6,h6⟩
 rw[hv1]
 clear hv1 v1
 repeat refine c_r ?_
 refine zay (Q:=fun e σ' ds' v'=>e= .normal∧ds'=[]∧σ' 1= .pointer (some ⟨w.heap.size,0,Option.none⟩)∧v'=w1∧∃bb,σ' 68= .bool bb∧(bb=false→(vals.length:Int)=a∧(d.nums.length:Int)=b)) ?_ ?_
 ·by_cases hA:(vals.length:Int)=a
  rotate_left
  ·refine rq ?_;intro gd K hgd hK
   have hg5:∀n σ b,zav gd n σ (some (5,b))=zal (ev n σ (.tmp 47)) b:=(fun n σ b=>by rw[zac,show gd 5=some 47 from(by rw[hgd];rfl)];rfl);have hg12:∀n σ b,zav gd n σ (some (12,b))=zal (ev n σ (.tmp 54)) b:=(fun n σ b=>by rw[zac,show gd 12=some 54 from(by rw[hgd];rfl)];rfl);have hg15:∀n σ b,zav gd n σ (some (15,b))=zal (ev n σ (.tmp 57)) b:=(fun n σ b=>by rw[zac,show gd 15=some 57 from(by rw[hgd];rfl)];rfl);have hg23:∀n σ b,zav gd n σ (some (23,b))=zal (ev n σ (.tmp 65)) b:=(fun n σ b=>by rw[zac,show gd 23=some 65 from(by rw[hgd];rfl)];rfl)
   try simp (disch:=first|omega|assumption|rfl) only[go_sem,h1,h3,h4,h5,h6,p1,p2,p4,Nat.zero_add,decide_eq_false hA,Bool.not_true,Bool.not_false,zbS,↓hg5,↓hg12,↓hg15,↓hg23]
   refine hK _ _ ?_;clear hK hgd;clear K;try clear gd
   exact⟨rfl,rfl,(vq1 h1),rfl,_,vr0,fun h=>by cases h⟩
  by_cases hB:(d.nums.length:Int)=b
  rotate_left
  ·refine rq ?_;intro gd K hgd hK
   have hg5:∀n σ b,zav gd n σ (some (5,b))=zal (ev n σ (.tmp 47)) b:=(fun n σ b=>by rw[zac,show gd 5=some 47 from(by rw[hgd];rfl)];rfl);have hg12:∀n σ b,zav gd n σ (some (12,b))=zal (ev n σ (.tmp 54)) b:=(fun n σ b=>by rw[zac,show gd 12=some 54 from(by rw[hgd];rfl)];rfl);have hg15:∀n σ b,zav gd n σ (some (15,b))=zal (ev n σ (.tmp 57)) b:=(fun n σ b=>by rw[zac,show gd 15=some 57 from(by rw[hgd];rfl)];rfl);have hg23:∀n σ b,zav gd n σ (some (23,b))=zal (ev n σ (.tmp 65)) b:=(fun n σ b=>by rw[zac,show gd 23=some 65 from(by rw[hgd];rfl)];rfl)
   try simp (disch:=first|omega|assumption|rfl) only[go_sem,h1,h3,h4,h5,h6,p1,p2,p4,Nat.zero_add,decide_eq_true hA,decide_eq_false hB,Bool.not_true,Bool.not_false,zbS,↓hg5,↓hg12,↓hg15,↓hg23]
   refine hK _ _ ?_;clear hK hgd;clear K;try clear gd
   exact⟨rfl,rfl,(vq1 h1),rfl,_,vr0,fun h=>by cases h⟩
  by_cases hC:c≥0
  ·by_cases hD:(d.raw.length:Int)=c
   ·refine rq ?_;intro gd K hgd hK
    have hg5:∀n σ b,zav gd n σ (some (5,b))=zal (ev n σ (.tmp 47)) b:=(fun n σ b=>by rw[zac,show gd 5=some 47 from(by rw[hgd];rfl)];rfl);have hg12:∀n σ b,zav gd n σ (some (12,b))=zal (ev n σ (.tmp 54)) b:=(fun n σ b=>by rw[zac,show gd 12=some 54 from(by rw[hgd];rfl)];rfl);have hg15:∀n σ b,zav gd n σ (some (15,b))=zal (ev n σ (.tmp 57)) b:=(fun n σ b=>by rw[zac,show gd 15=some 57 from(by rw[hgd];rfl)];rfl);have hg23:∀n σ b,zav gd n σ (some (23,b))=zal (ev n σ (.tmp 65)) b:=(fun n σ b=>by rw[zac,show gd 23=some 65 from(by rw[hgd];rfl)];rfl)
    try simp (disch:=first|omega|assumption|rfl) only[go_sem,h1,h3,h4,h5,h6,p1,p2,p4,Nat.zero_add,decide_eq_true hA,decide_eq_true hB,decide_eq_true hC,decide_eq_true hD,Bool.not_true,Bool.not_false,zbS,↓hg5,↓hg12,↓hg15,↓hg23]
    refine hK _ _ ?_;clear hK hgd;clear K;try clear gd
    exact⟨rfl,rfl,(vq1 h1),rfl,_,vr0,fun _=>⟨hA,hB⟩⟩
   ·refine rq ?_;intro gd K hgd hK
    have hg5:∀n σ b,zav gd n σ (some (5,b))=zal (ev n σ (.tmp 47)) b:=(fun n σ b=>by rw[zac,show gd 5=some 47 from(by rw[hgd];rfl)];rfl);have hg12:∀n σ b,zav gd n σ (some (12,b))=zal (ev n σ (.tmp 54)) b:=(fun n σ b=>by rw[zac,show gd 12=some 54 from(by rw[hgd];rfl)];rfl);have hg15:∀n σ b,zav gd n σ (some (15,b))=zal (ev n σ (.tmp 57)) b:=(fun n σ b=>by rw[zac,show gd 15=some 57 from(by rw[hgd];rfl)];rfl);have hg23:∀n σ b,zav gd n σ (some (23,b))=zal (ev n σ (.tmp 65)) b:=(fun n σ b=>by rw[zac,show gd 23=some 65 from(by rw[hgd];rfl)];rfl)
    try simp (disch:=first|omega|assumption|rfl) only[go_sem,h1,h3,h4,h5,h6,p1,p2,p4,Nat.zero_add,decide_eq_true hA,decide_eq_true hB,decide_eq_true hC,decide_eq_false hD,Bool.not_true,Bool.not_false,zbS,↓hg5,↓hg12,↓hg15,↓hg23]
    refine hK _ _ ?_;clear hK hgd;clear K;try clear gd
    exact⟨rfl,rfl,(vq1 h1),rfl,_,vr0,fun h=>by cases h⟩
  ·refine rq ?_;intro gd K hgd hK
   have hg5:∀n σ b,zav gd n σ (some (5,b))=zal (ev n σ (.tmp 47)) b:=(fun n σ b=>by rw[zac,show gd 5=some 47 from(by rw[hgd];rfl)];rfl);have hg12:∀n σ b,zav gd n σ (some (12,b))=zal (ev n σ (.tmp 54)) b:=(fun n σ b=>by rw[zac,show gd 12=some 54 from(by rw[hgd];rfl)];rfl);have hg15:∀n σ b,zav gd n σ (some (15,b))=zal (ev n σ (.tmp 57)) b:=(fun n σ b=>by rw[zac,show gd 15=some 57 from(by rw[hgd];rfl)];rfl);have hg23:∀n σ b,zav gd n σ (some (23,b))=zal (ev n σ (.tmp 65)) b:=(fun n σ b=>by rw[zac,show gd 23=some 65 from(by rw[hgd];rfl)];rfl)
   try simp (disch:=first|omega|assumption|rfl) only[go_sem,h1,h3,h4,h5,h6,p1,p2,p4,Nat.zero_add,decide_eq_true hA,decide_eq_true hB,decide_eq_false hC,Bool.not_true,Bool.not_false,zbS,↓hg5,↓hg12,↓hg15,↓hg23]
   refine hK _ _ ?_;clear hK hgd;clear K;try clear gd
   exact⟨rfl,rfl,(vq1 h1),rfl,_,vr0,fun _=>⟨hA,hB⟩⟩
 clear h1 h3 h4 h5 h6
 rintro _ σ3 _ v1 ⟨rfl,rfl,h1,hv1,b7,h68,hb7⟩
 rw[hv1]
 clear hv1 v1
 repeat refine c_r ?_
 refine zaH (t:=b7) ((vq1 h68)) ?_ ?_
 ·intro _
  repeat (first|refine c_r ?_|refine rg0 ?_)
  refine rt0 Tryz.ntmps218 ?_
  exact⟨hE1,2,rfl,fun h=>by cases h⟩
 intro hb
 obtain⟨hA,hB⟩:=hb7 hb
 have hlead:zgJ d.ty→d.names.length=1:=fun h=>by have:=hca h;omega
 repeat refine c_r ?_
 refine rg0 ?_
 repeat refine c_r ?_
 refine zay (Q:=fun e σ' ds' v'=>ds'=[]∧Ext w1 v'∧((e= .exit 0∧σ' 1= .pointer (some ⟨w.heap.size,0,Option.none⟩)∧∀n∈d.names,zaD n=0)∨(e= .ret∧∃e2:Int,e2≠0∧σ' 2=vi e2))) ?_ ?_
 ·refine zam (fun m σ ds A=>ds=[]∧∃(i:Nat),i+m=vals.length∧σ 7=vi i∧σ 1= .pointer (some ⟨w.heap.size,0,Option.none⟩)∧Ext w1 A∧∀j (h:j<d.names.length),j<i→zaD d.names[j]=0) vals.length ?_ ?_
  ·exact⟨rfl,0,by omega,vr0,(vq1 h1),Keep.refl _ _,fun j h hj=>absurd hj (by omega)⟩
  clear h1
  rintro m σ ds A ⟨rfl,i,him,h7,h1,hEA,hlow⟩
  obtain⟨q1,q3,q0,q2,q4⟩:=rd hEA
  repeat refine c_r ?_
  refine rg4 h7 h1 q1 Nat.zero_add ?_
  repeat refine c_r ?_
  refine wc0 ?_ ?_
  ·intro hlt
   simp only[decide_eq_true_eq]at hlt
   have hi:i<vals.length:=by omega
   have hi0:(0:Int)≤(i:Int):=by omega
   have hi1:(i:Int)<(vals.length:Int):=by omega
   have hi1':(i:Int)+1=((i+1:Nat):Int):=by push_cast;rfl
   have hgi:=hgn i hi
   obtain⟨xN,rfl⟩:=Option.isSome_iff_exists.1 (zag hgi)
   have hgi':=zaa (hE0.trans (hE1.trans hEA)) hgi
   have hrow:=hvr i hi (by omega)
   obtain⟨n,hn⟩:∃n,d.names[i]'(by omega)=n:=⟨_,rfl⟩
   rw[hn]at hrow
   have hnf:=hf.names n (hn▸List.getElem_mem _)
   obtain⟨hv,hhv⟩:∃hv,vals[i]=hv:=⟨_,rfl⟩
   rw[hhv]at hgi' hrow
   repeat refine c_r ?_
   refine rq ?_;intro gd K hgd hK
   try simp (disch:=first|omega|assumption|rfl) only[go_sem,h7,h1,q1,Nat.zero_add,hi0,hi1,hgi']
   refine Fn.mono (zbH A hv n (hrow.ext (hE0.trans (hE1.trans hEA))) hnf.1 hnf.2) ?_
   rintro _ A2 ⟨rfl,hA2⟩
   try simp only[go_sem]
   refine hK _ _ ?_;clear hK hgd;clear K;try clear gd
   repeat refine c_r ?_
   refine rg0 ?_
   repeat refine c_r ?_
   by_cases h0:zaD n=0
   ·rw[h0]
    refine zaH (t:=false) (vr0) (fun h=>by cases h) ?_
    intro _
    repeat refine c_r ?_
    refine rg2 h7 hi1' ?_
    repeat refine c_r ?_
    refine⟨m - 1,by omega,rfl,i+1,by omega,vq0,(vq1 h1),hEA.trans hA2,fun j hj hji=>?_⟩
    by_cases hj2:j=i
    ·subst hj2;rw[hn];exact h0
    ·exact hlow j hj (by omega)
   ·refine zaH (t:=!decide (zaD n=0)) (vr0) ?_ (fun h=>by rw[decide_eq_false h0]at h;cases h)
    intro _
    repeat refine c_r ?_
    refine rg0 ?_
    repeat refine c_r ?_
    exact⟨rfl,hEA.trans hA2,.inr ⟨rfl,zaD n,h0,vq0⟩⟩
  ·intro hge
   simp only[decide_eq_false_iff_not]at hge
   repeat refine c_r ?_
   refine⟨rfl,hEA,.inl ⟨rfl,(vq1 h1),fun n hn=>?_⟩⟩
   obtain⟨j,hj,rfl⟩:=List.getElem_of_mem hn
   exact hlow j hj (by omega)
 clear h1
 rintro e σ4 _ A ⟨rfl,hEA,⟨rfl,h1,hall⟩| ⟨rfl,e2,he2,h2⟩⟩
 rotate_left
 ·repeat refine c_r ?_
  refine rt1 h2 Tryz.ntmps218 ?_
  exact⟨hE1.trans hEA,e2,rfl,fun h=>absurd h he2⟩
 have fin:∀e:Int,e=0→(∀n∈d.names,zaD n=0)∧(zgJ d.ty→d.names.length=1):=fun e _=>⟨hall,hlead⟩
 obtain⟨q1,q3,q0,q2,q4⟩:=rd hEA
 repeat refine c_r ?_
 have hvl0:(d.names.length:Int)=a:=by omega
 refine zay (Q:=fun e σ' ds' v'=>e= .normal∧ds'=[]∧σ' 1= .pointer (some ⟨w.heap.size,0,Option.none⟩)∧v'=A∧∃bb,σ' 94= .bool bb) ?_ ?_
 ·by_cases h15:d.ty=15
  ·have hb1:=hcb h15
   have hnu1:(0:Int)<(d.nums.length:Int):=by omega
   have hz0:(0:Int)≤0:=by omega
   have hg0:=hgu 0 (by omega)
   obtain⟨xU,rfl⟩:=Option.isSome_iff_exists.1 (zag hg0)
   rw[zaA]at hg0
   have hg0':=zaa (hE0.trans (hE1.trans hEA)) hg0
   rw[List.getElem_map]at hg0'
   refine rq ?_;intro gd K hgd hK
   have hg3:∀n σ b,zav gd n σ (some (3,b))=zal (ev n σ (.tmp 88)) b:=(fun n σ b=>by rw[zac,show gd 3=some 88 from(by rw[hgd];rfl)];rfl)
   try simp (disch:=first|omega|assumption|rfl) only[go_sem,h1,q0,q2,Nat.add_zero,Nat.zero_add,decide_eq_true h15,hnu1,hz0,hg0',Nat.zero_mul,zaA,Int.toNat_zero,↓hg3]
   refine hK _ _ ?_;clear hK hgd;clear K;try clear gd
   exact⟨rfl,rfl,(vq1 h1),rfl,_,vr0⟩
  ·refine rq ?_;intro gd K hgd hK
   have hg3:∀n σ b,zav gd n σ (some (3,b))=zal (ev n σ (.tmp 88)) b:=(fun n σ b=>by rw[zac,show gd 3=some 88 from(by rw[hgd];rfl)];rfl)
   try simp (disch:=first|omega|assumption|rfl) only[go_sem,h1,q0,Nat.add_zero,decide_eq_false h15,↓hg3]
   refine hK _ _ ?_;clear hK hgd;clear K;try clear gd
   exact⟨rfl,rfl,(vq1 h1),rfl,_,vr0⟩
 clear h1
 rintro _ σ5 _ v1 ⟨rfl,rfl,h1,hv1,b94,h94⟩
 rw[hv1]
 clear hv1 v1
 repeat refine c_r ?_
 refine zaH (t:=b94) ((vq1 h94)) ?_ ?_
 ·intro _
  repeat (first|refine c_r ?_|refine rg0 ?_)
  refine rt0 Tryz.ntmps218 ?_
  exact⟨hE1.trans hEA,7,rfl,fun h=>by cases h⟩
 intro _
 repeat refine c_r ?_
 refine rg0 ?_
 repeat refine c_r ?_
 refine zay (Q:=fun e σ' ds' v'=>ds'=[]∧v'=A∧((e= .exit 2∧σ' 1= .pointer (some ⟨w.heap.size,0,Option.none⟩))∨(e= .ret∧σ' 2=vi 3))) ?_ ?_
 ·refine zam (fun m σ ds B=>ds=[]∧∃(i:Nat),i+m=d.texts.length∧σ 9=vi i∧σ 1= .pointer (some ⟨w.heap.size,0,Option.none⟩)∧B=A) d.texts.length ?_ ?_
  ·exact⟨rfl,0,by omega,vr0,(vq1 h1),rfl⟩
  clear h1
  rintro m σ ds B ⟨rfl,i,him,h9,h1,hB2⟩
  rw[hB2]
  clear hB2 B
  repeat refine c_r ?_
  refine rg4 h9 h1 q3 Nat.zero_add ?_
  repeat refine c_r ?_
  refine wc0 ?_ ?_
  ·intro hlt
   simp only[decide_eq_true_eq]at hlt
   have hi:i<d.texts.length:=by omega
   have hi0:(0:Int)≤(i:Int):=by omega
   have hi1:(i:Int)<(d.texts.length:Int):=by omega
   have hi1':(i:Int)+1=((i+1:Nat):Int):=by push_cast;rfl
   have hgi:=hgt i hi
   obtain⟨xT,rfl⟩:=Option.isSome_iff_exists.1 (zag hgi)
   have hgi':=zaa (hE0.trans (hE1.trans hEA)) hgi
   rw[List.getElem_map]at hgi'
   have htl:=hf.tl _ (List.getElem_mem hi)
   repeat refine c_r ?_
   refine rg7 h9 h1 q3 Nat.zero_add hi0 hi1 hgi' ?_
   repeat refine c_r ?_
   refine wc0 ?_ ?_
   ·intro hgt2
    repeat refine c_r ?_
    refine rg0 ?_
    repeat refine c_r ?_
    exact⟨rfl,rfl,.inr ⟨rfl,vq0⟩⟩
   ·intro hgt2
    repeat refine c_r ?_
    refine rg2 h9 hi1' ?_
    repeat refine c_r ?_
    exact⟨m - 1,by omega,rfl,i+1,by omega,vq0,(vq1 h1),rfl⟩
  ·intro hge
   repeat refine c_r ?_
   exact⟨rfl,rfl,.inl ⟨rfl,(vq1 h1)⟩⟩
 clear h1
 rintro e σ6 _ v1 ⟨rfl,hv1,⟨rfl,h1⟩| ⟨rfl,h2⟩⟩
 rotate_left
 ·rw[hv1]
  repeat refine c_r ?_
  refine rt1 h2 Tryz.ntmps218 ?_
  exact⟨hE1.trans hEA,3,rfl,fun h=>by cases h⟩
 rw[hv1]
 clear hv1 v1
 repeat refine c_r ?_
 refine rg3 h1 q4 Nat.zero_add ?_
 repeat refine c_r ?_
 refine wc0 ?_ ?_
 ·intro _
  repeat (first|refine c_r ?_|refine rg0 ?_)
  refine rt0 Tryz.ntmps218 ?_
  exact⟨hE1.trans hEA,3,rfl,fun h=>by cases h⟩
 intro _
 repeat (first|refine c_r ?_|refine rg0 ?_)
 refine rt0 Tryz.ntmps218 ?_
 exact⟨hE1.trans hEA,0,rfl,fin 0⟩
structure DatX(w0:World)(B:Nat)(A:World)(nm:Value)(cs:List Value)(d:DatL):Prop where
 ex:∃nu tx rw vals,cs=[vi d.ty,nm,nu,tx,rw]∧Row A nm vals∧vals.length=d.names.length∧(∀i (h:i<vals.length) (h':i<d.names.length),Row w0 vals[i] (d.names[i].map vs))∧Row w0 nu (d.nums.map v32)∧Row w0 tx (d.texts.map vs)∧Row w0 rw (d.raw.map zaf)
 blk:BlkB B A nm
theorem DatX.at{w0 A:World}{B:Nat}{nm:Value}{cs:List Value}{d:DatL}(h:DatX w0 B A nm cs d)(hE:Ext w0 A):DatAt A cs d:=by
 obtain⟨nu,tx,rw,vals,e,h1,h2,h3,h4,h5,h6⟩:=h.ex
 exact⟨nm,nu,tx,rw,e,⟨vals,h1,h2,fun i a b=>(h3 i a b).ext hE⟩,h4.ext hE,h5.ext hE,h6.ext hE⟩
theorem DatX.keep{w0 A x:World}{B:Nat}{nm:Value}{cs:List Value}{d:DatL}(h:DatX w0 B A nm cs d){S:Nat→Prop}(hk:Keep S A x)(hS:∀a n c,nm= .slice (some a) n c→¬S a.block):DatX w0 B x nm cs d:=by
 obtain⟨nu,tx,rw,vals,e,h1,h2,h3,h4,h5,h6⟩:=h.ex
 exact⟨⟨nu,tx,rw,vals,e,h1.blocks fun a n c hv=>hk.block _ (h.blk a n c hv).2 (hS a n c hv),h2,h3,h4,h5,h6⟩,h.blk.ext hk.size⟩
theorem DatX.mono{w0 A:World}{B B':Nat}{nm:Value}{cs:List Value}{d:DatL}(h:DatX w0 B A nm cs d)(hB:B'≤B):DatX w0 B' A nm cs d:=⟨h.ex,h.blk.mono hB⟩
theorem DOf_ok{w0 w:World}(hE0:Ext w0 w){cs:List Value}{d:DatL}(hd:DatAt w0 cs d)(hnn:d.names.length≤1000000000):
  Fn Tryz.prog 164 #[.agg cs.toArray] w (fun v w'=>Ext w w'∧∃cs' nm,v= .agg cs'.toArray∧DatX w0 w.heap.size w' nm cs' d):=by
 obtain⟨nm,nu,tx,rw',rfl,⟨vals,⟨an,cn,rfl,hcn,hgn⟩,hvl,hvr⟩,hnu,htx,hrw⟩:=hd.ex
 obtain⟨au,cu,rfl,_⟩:=id hnu
 obtain⟨at1,ct,rfl,_⟩:=id htx
 obtain⟨ar,cr,rfl,_⟩:=id hrw
 refine enter Tryz.func164 Tryz.ntmps164 rfl rfl ?_
 repeat refine c_r ?_
 refine rg0 ?_
 repeat refine c_r ?_
 rw[zai]
 refine zaO ?_
 intro w1 hE1 hs1 hA hC
 have p0:zae w1 (some ⟨w.heap.size,0,Option.none⟩)=some (vi d.ty):=zab hA rfl
 have p1:zae w1 (some ⟨w.heap.size,1,Option.none⟩)=some (.slice an vals.length cn):=zab hA rfl
 have p2:zae w1 (some ⟨w.heap.size,2,Option.none⟩)=some (.slice au (d.nums.map v32).length cu):=zab hA rfl
 have p3:zae w1 (some ⟨w.heap.size,3,Option.none⟩)=some (.slice at1 (d.texts.map vs).length ct):=zab hA rfl
 have p4:zae w1 (some ⟨w.heap.size,4,Option.none⟩)=some (.slice ar (d.raw.map zaf).length cr):=zab hA rfl
 refine rq ?_;intro gd K hgd hK
 try simp (disch:=first|omega|assumption|rfl) only[go_sem,p0,p2,p3,p4,Nat.add_zero,Nat.zero_add]
 refine⟨by kernel_rfl,?_⟩
 rw[show bdV Tryz.prog 208 [(0,vi d.ty),(2,.slice au (d.nums.map v32).length cu),(3,.slice at1 (d.texts.map vs).length ct),(4,.slice ar (d.raw.map zaf).length cr)]=some (.agg #[vi d.ty,.slice Option.none 0 0,.slice au (d.nums.map v32).length cu,.slice at1 (d.texts.map vs).length ct,.slice ar (d.raw.map zaf).length cr]) from by kernel_rfl]
 try simp only[go_sem]
 have hB3:=zao w1 (.cells #[vi 0,.slice Option.none 0 0,.slice Option.none 0 0,.slice Option.none 0 0,.slice Option.none 0 0] 208 (0,0))
 have hE4:=Ext.alloc w1 (.cells #[vi 0,.slice Option.none 0 0,.slice Option.none 0 0,.slice Option.none 0 0,.slice Option.none 0 0] 208 (0,0))
 have hs4:=zai w1 (.cells #[vi 0,.slice Option.none 0 0,.slice Option.none 0 0,.slice Option.none 0 0,.slice Option.none 0 0] 208 (0,0))
 revert hB3 hE4 hs4
 generalize w1.alloc (.cells #[vi 0,.slice Option.none 0 0,.slice Option.none 0 0,.slice Option.none 0 0,.slice Option.none 0 0] 208 (0,0))=w2
 intro hB3 hE4 hs4
 refine zaM (P:=Tryz.prog) (t:=208) (l:=[vi d.ty,.slice Option.none 0 0,.slice au (d.nums.map v32).length cu,.slice at1 (d.texts.map vs).length ct,.slice ar (d.raw.map zaf).length cr]) hB3 rfl (fun v h=>by simp at h;rcases h with rfl|rfl|rfl|rfl|rfl<;>rfl) rfl rfl ?_
 intro w3 hs5 hB5 hk5
 try simp only[go_sem]
 refine hK _ _ ?_;clear hK hgd;clear K;try clear gd
 have hE13:Ext w1 w3:=Keep.to_ext hE4 rfl (fun b hb=>by omega) hk5
 obtain⟨b3,hb3⟩:∃b3,w1.heap.size=b3:=⟨_,rfl⟩
 rw[hb3]at hB5
 have hs3:w3.heap.size=b3+1:=by omega
 repeat refine c_r ?_
 refine rg0 ?_
 repeat refine c_r ?_
 rw[hb3]
 refine zam (fun m σ ds A=>ds=[]∧∃(i:Nat) (nv:Value),i+m=vals.length∧σ 4=vi i∧σ 1= .pointer (some ⟨w.heap.size,0,Option.none⟩)∧σ 2= .pointer (some ⟨w.heap.size+1,0,Option.none⟩)∧σ 3= .pointer (some ⟨b3,0,Option.none⟩)∧A.heap[b3]? =some (.cells [vi d.ty,nv,.slice au (d.nums.map v32).length cu,.slice at1 (d.texts.map vs).length ct,.slice ar (d.raw.map zaf).length cr].toArray 208 (0,0))∧Own w3.heap.size A 26 nv (vals.take i)∧Ext w1 A∧w3.heap.size≤A.heap.size) vals.length ?_ ?_
 ·exact⟨rfl,0,.slice Option.none 0 0,by omega,vr0,vq0,vq0,vq0,hB5,Own.nil _ _ _,hE13,Nat.le_refl _⟩
 rintro m σ ds A ⟨rfl,i,nv,him,h4,h1,h2,h3,hb,hown,hEA,hsA⟩
 have q1:=zaa hEA p1
 have s1:=hE1.size
 repeat refine c_r ?_
 refine rg4 h4 h1 q1 Nat.zero_add ?_
 repeat refine c_r ?_
 refine wc0 ?_ ?_
 ·intro hlt
  simp only[decide_eq_true_eq]at hlt
  have hi:i<vals.length:=by omega
  have hi0:(0:Int)≤(i:Int):=by omega
  have hi1:(i:Int)<(vals.length:Int):=by omega
  have hi1':(i:Int)+1=((i+1:Nat):Int):=by push_cast;rfl
  have hgi:=hgn i hi
  obtain⟨xN,rfl⟩:=Option.isSome_iff_exists.1 (zag hgi)
  obtain⟨xi,hxi⟩:∃xi,adr (some xN) i=some xi:=⟨_,rfl⟩
  rw[hxi]at hgi
  have hgA:=zaa (hE0.trans (hE1.trans hEA)) hgi
  have hxb:xi.block<w3.heap.size:=by
   have:=zdL (show w0.cell? xi=some _ from hgi)
   have:=(hE0.trans (hE1.trans hE13)).size
   omega
  have hrow:=hvr i hi (by omega)
  obtain⟨hv,hhv⟩:∃hv,vals[i]=hv:=⟨_,rfl⟩
  rw[hhv]at hgA hrow
  obtain⟨ha,hc,hve,_⟩:=id hrow
  have hone:one hv=true:=by rw[hve];rfl
  have htk:vals.take (i+1)=vals.take i++ [hv]:=by rw[zap hi,hhv]
  have hnv:zae A (some ⟨b3,1,Option.none⟩)=some nv:=zcs hb rfl
  have hvals:(vals.take i).length≤1000000000:=by rw[List.length_take];omega
  repeat refine c_r ?_
  refine zaJ (fun i=>i==10) [(0,true),(1,true),(2,true),(3,true),(4,true),(5,true),(6,true),(7,false),(8,false),(9,true),(10,false)] (zev w3.heap.size) mixed (by kernel_rfl) ?_;intro gd K x hgd hx hxe hK;have hx0:=zh2 hxe;clear hxe
  have hgx:=zaa hx0 hgA
  have hnx:=zaa hx0 hnv
  have q1x:=zaa hx0 q1
  have hxs:=hx.size
  simp (disch:=first|omega|assumption|rfl) only[go_sem,h4,h1,h3,q1x,hgx,hnx,hi0,hi1,hxi,Nat.zero_add,Nat.mul_one]
  refine⟨zd2 (by omega),zd2 (by omega),zhH hxb,?_⟩
  refine zed (z:= .slice Option.none 0 0) (v:=hv) (by rfl) (by rfl) (by rfl) (by rfl) (by rw[hve];rfl) ?_
  intro w5 hE5 hs5 ho5
  refine⟨.inr hE5.keep,?_⟩
  simp (disch:=first|omega|assumption|rfl) only[go_sem]
  have hx5:=hx0.trans hE5
  have hx5s:=hx5.size
  refine zd0 (hown.ext hx5) ho5.row rfl rfl rfl rfl rfl rfl (vr0) (vr0) (fun q hq=>by rw[List.mem_singleton.1 hq];exact hone) (by rw[List.length_singleton];omega) (by decide) (by omega) ?_
  intro v7 w7 ho7 hE7 hk7 hb7
  refine⟨.inr (hk7.mono fun b _ hb=>by have:=(hown.ge hb).1;show _≤_;omega),?_⟩
  simp (disch:=first|omega|assumption|rfl) only[go_sem,h3]
  have hk7s:=hk7.size
  obtain⟨a7,c7,hv7⟩:=ho7.slice
  have hb3w:w7.heap[b3]? =some (.cells [vi d.ty,nv,.slice au (d.nums.map v32).length cu,.slice at1 (d.texts.map vs).length ct,.slice ar (d.raw.map zaf).length cr].toArray 208 (0,0)):=(hk7.block b3 (by omega) (fun h=>by have:=(hown.ge h).1;omega)).trans (Ext.at hx5 hb)
  refine zaY (P:=Tryz.prog) (t:=62) (j:=1) (l:=[vi d.ty,nv,.slice au (d.nums.map v32).length cu,.slice at1 (d.texts.map vs).length ct,.slice ar (d.raw.map zaf).length cr]) hb3w (by simp) (by rw[hv7];rfl) rfl rfl ?_
  intro z hz' hbz hkz
  refine⟨.inl rfl,?_⟩
  simp (disch:=first|omega|assumption|rfl) only[go_sem]
  refine hK _ _ ?_;clear hK hgd;clear K;try clear gd
  have hEz:Ext w1 z:=Keep.to_ext (hE7 w1 (hEA.trans hx5) (by omega)) rfl (fun b hb=>by omega) hkz
  repeat refine c_r ?_
  refine rg2 h4 hi1' ?_
  repeat refine c_r ?_
  exact⟨m - 1,by omega,rfl,i+1,v7,by omega,vq0,(vq1 h1),(vq1 h2),(vq1 h3),hbz,by rw[htk];exact ho7.keep hkz (fun b hb h=>by have:=(ho7.ge hb).1;omega),hEz,by omega⟩
 ·intro hge
  simp only[decide_eq_false_iff_not]at hge
  have hi:i=vals.length:=by omega
  rw[hi,List.take_length]at hown
  obtain⟨na,nc,hnv⟩:=hown.slice
  repeat refine c_r ?_
  refine rq ?_;intro gd K hgd hK
  have d5:=zah (n:=5) hb rfl
  try simp (disch:=first|omega|assumption|rfl) only[go_sem,h3,h2,d5]
  refine zaM (P:=Tryz.prog) (t:=208) (l:=[vi d.ty,nv,.slice au (d.nums.map v32).length cu,.slice at1 (d.texts.map vs).length ct,.slice ar (d.raw.map zaf).length cr]) (Ext.at hEA hC) rfl (fun v h=>by
   simp at h
   rcases h with rfl|rfl|rfl|rfl|rfl
   ·rfl
   ·rw[hnv];rfl
   ·rfl
   ·rfl
   ·rfl) rfl rfl ?_
  intro z hz' hbz hkz
  try simp only[go_sem]
  refine hK _ _ ?_;clear hK hgd;clear K;try clear gd
  repeat refine c_r ?_
  refine zaE (.inr rfl) Tryz.ntmps164 rfl (zaZ (x:=⟨w.heap.size+1,0,Option.none⟩) (k:=5) ((vq1 h2)) rfl rfl (zah hbz rfl) zaz) ?_
  have hEz:Ext w z:=Keep.to_ext (hE1.trans hEA) rfl (fun b hb=>by omega) hkz
  have hownz:=hown.keep hkz (fun b hb h=>by have:=(hown.ge hb).1;omega)
  refine⟨hEz,_,nv,rfl,⟨⟨_,_,_,vals,rfl,hownz.row,hvl,hvr,hnu,htx,hrw⟩,fun a n c hv=>?_⟩⟩
  have:=hownz.ge (b:=a.block) (by rw[hv];rfl)
  omega
end Go.Proofs.YtahbdamijngmmaaGreat
