/-
  Texts of a proof, joined: E11, E12, E13, F6, F7, F8, F9, G0, G1, G2.
  Conditions: none.
-/
import Derived.Test.YtahbdamijngmmaaGreatJPA05
import Derived.Test.YtahbdamijngmmaaGreatJPA02
set_option linter.unusedVariables false
set_option linter.unusedSimpArgs false
set_option linter.defProp false
set_option linter.unnecessarySimpa false
set_option maxHeartbeats 8000000
namespace Go.Proofs.YtahbdamijngmmaaGreat
open Go
set_option maxRecDepth 10000
def zbA(R:List RecL)(hs:List Nm):List (Nm×List DatL):=hs.filterMap fun h=>if zbe R h=[] then .none else some (h,zbe R h)
def zeI(R:List RecL)(cut:Nm):ResL:=⟨4,datC R cut 2,cut,false,zbA R (zbo 2 (datC R cut 2))⟩
theorem zgl(R:List RecL)(a:List Nm)(h:Nm):zbA R (a++ [h])=zbA R a++(if zbe R h=[] then [] else [(h,zbe R h)]):=by
 unfold zbA;rw[List.filterMap_append]
 congr 1
 by_cases hg:zbe R h=[]
 ·simp[hg]
 ·simp[hg]
abbrev GlX:=(Nm×List DatL)×(Value×Value)
def glC(cs:List Value)(x:GlX):Prop:=cs=[x.2.1,x.2.2]/\one x.2.1=true/\one x.2.2=true
theorem ze6:zeD 2 glC:=by
 refine⟨fun h=>?_,fun h=>?_⟩
 ·rw[h.1];rfl
 ·intro q hq;rw[h.1]at hq;simp at hq;rcases hq with rfl|rfl
  ·exact h.2.1
  ·exact h.2.2
theorem zfh(t:Int)(ds:List DatL):(zaz t ds).length<=ds.length:=by
 unfold zaz
 split
 ·exact List.length_filterMap_le _ _
 ·simp
theorem zcg:∀(had:List (List UInt8)) (l:List Nm),∀x∈zaZ had l,x∈l
 |_,[],x,h=>by cases h
 |had,y::l,x,h=>by
  unfold zaZ at h
  split at h
  ·exact List.mem_cons_of_mem _ (zcg had l x h)
  ·rcases List.mem_cons.1 h with rfl|h
   ·exact List.mem_cons_self ..
   ·exact List.mem_cons_of_mem _ (zcg _ l x h)
theorem zdx:∀(had:List (List UInt8)) (l:List Nm),(zaZ had l).length<=l.length
 |_,[]=>ynl _
 |had,y::l=>by
  unfold zaZ
  split
  ·have:=zdx had l;rw[List.length_cons];omega
  ·have:=zdx (zaL y::had) l;rw[List.length_cons,List.length_cons];omega
theorem zgk(R:List RecL)(hs:List Nm):(zbA R hs).length<=hs.length:=List.length_filterMap_le _ _
theorem Rows.mapM{α β:Type}{k:Nat}{C:List Value->α->Prop}{C':List Value->β->Prop}{w:World}{v:Value}{xs:List α}(h:Rows k C w v xs)(f:α->β)(hC:∀cs x,x∈xs->C cs x->C' cs (f x)):Rows k C' w v (xs.map f):=by
 obtain⟨L,h1,h2,h3⟩:=h;refine⟨L,h1,by rw[ylm];exact h2,fun i h h'=>?_⟩;rw[ylm]at h';rw[List.getElem_map];exact hC _ _ (List.getElem_mem h') (h3 i h h')
structure RfI(w0 w:World)(D b2 b4 b7:Nat)(ov lv dv sv:Value)(cut:Nm)(R:List RecL)(ds:List DatL)(pre:List Nm)(U:Nat->Prop)(A:World):Prop where
 e:Ext w A
 sz:D<=A.heap.size
 z:A.heap[b2]? =some (.cells #[ov,lv] 122 (0,0))
 c:A.heap[b4]? =some (.cells #[vi 0,.slice .none 0 0,.slice .none 0 0,.bool false,.slice .none 0 0] 184 (0,0))
 d:Rows 5 (DatAt w0) A dv ds
 s:Row A sv (cut.map vs)
 g:∃gv,∃G:List GlX,A.heap[b7]? =some (.cells #[vi 4,dv,sv,.bool false,gv] 184 (0,0))/\G.map Prod.fst=zbA R pre/\Owns 2 glC (D+3) A 382 gv G/\(∀x∈G,Row w0 x.2.1 (x.1.1.map vs)/\Rows 5 (DatAt w0) A x.2.2 x.1.2/\BlkB (D+3) A x.2.2/\∀a n c,x.2.2= .slice (some a) n c->some a.block≠gv.ownBlock)/\∀b,U b↔some b=gv.ownBlock
theorem Refer_ok{w0 w:World}{ov lv nv:Value}{o cut:Nm}{R:List RecL}(hz:ZnAt w0 w ov lv o R)(hR:zdJ R)(hn:Row w nv (cut.map vs))(hok:NmS cut):
  Fn Tryz.prog 198 #[.agg #[ov,lv],nv] w (fun v w'=>Ext w w'/\∃cs,v= .agg cs.toArray/\ResB w0 w.heap.size w' cs (zeI R cut)):=by
 obtain⟨ao,co,hov,_⟩:=id hz.org;obtain⟨al,cl,hlv,_⟩:=hz.recs.open;rw[hov,hlv];refine enter Tryz.func198 Tryz.ntmps198 rfl rfl ?_;refine gz0 ?_;rw[←hov,←hlv];rw[zai];refine zaF ?_;intro w1 hE1 hs1 hA hC;have p1:zad w1 (some ⟨w.heap.size,1,.none⟩)=some lv:=zab hA rfl;have hz1:=hz.ext hE1;refine rq ?_;intro gd K hgd hK;refine sgz (az2 p1 yn0) ?_;refine Fn.mono (Of_ok hz1.e0 hz1.recs (hn.ext hE1) hok.lb (by have:=hok.len;omega) hz.ok hz.rl) ?_;rintro _ w2 ⟨hE2,ow,ty,tl,dv,rfl,how,hty,hdv,hdb⟩;have hdd:(ofC R cut 2).map RecL.dat=datC R cut 2:=rfl;rw[hdd]at hdv;obtain⟨bb,hbb⟩:∃bb:Bool,decide (ofC R cut 2≠ [])=bb:=⟨_,rfl⟩;rw[hbb];try simp only[go_sem]
 have hB3:=zau w2 (.cells #[.slice .none 0 0,vi 0,v32 0,.slice .none 0 0] 340 (0,0));have hE4:=Ext.alloc w2 (.cells #[.slice .none 0 0,vi 0,v32 0,.slice .none 0 0] 340 (0,0));have hs4:=zai w2 (.cells #[.slice .none 0 0,vi 0,v32 0,.slice .none 0 0] 340 (0,0));revert hB3 hE4 hs4;generalize w2.alloc (.cells #[.slice .none 0 0,vi 0,v32 0,.slice .none 0 0] 340 (0,0))=w3;intro hB3 hE4 hs4;obtain⟨ad,cd,hdv',hcd,_⟩:=hdv.open;refine zaD (P:=Tryz.prog) (t:=340) (l:=[ow,vi ty,v32 tl,dv]) hB3 rfl (fun v h=>by
  simp at h;rcases h with rfl|rfl|rfl|rfl
  ·exact how
  ·rfl
  ·rfl
  ·rw[hdv'];rfl) rfl rfl ?_
 intro w4 hs5 hB5 hk5;try simp only[go_sem]
 apply hK;have hE5:Ext w2 w4:=Keep.to_ext hE4 rfl (fun b hb=>by omega) hk5;have hE14:=hE2.trans hE5;have hEw4:=hE1.trans hE14;have q3:zad w4 (some ⟨w2.heap.size,3,.none⟩)=some dv:=zcr hB5 rfl;have hdv4:=hdv.ext hE5;have hdb4:BlkB w.heap.size w4 dv:=(hdb.ext hE5.size).mono hE1.size;have e1:=hE1.size;have e2:=hE14.size;clear hB3 hE4 hs4 hk5 hs5;repeat refine c_r ?_
 refine zaw (Q:=fun e σ' ds' v'=>e= .normal/\ds'=[]/\σ' 2= .pointer (some ⟨w.heap.size,0,.none⟩)/\σ' 4= .pointer (some ⟨w.heap.size+1,0,.none⟩)/\σ' 5= .pointer (some ⟨w2.heap.size,0,.none⟩)/\Ext w4 v'/\∃b7 sv,σ' 7= .pointer (some ⟨b7,0,.none⟩)/\w4.heap.size<=b7/\v'.heap[b7]? =some (.cells #[vi 4,dv,sv,.bool false,.slice .none 0 0] 184 (0,0))/\Row v' sv (cut.map vs)/\BlkB w4.heap.size v' sv/\∀a n c,sv= .slice (some a) n c->a.block≠b7) ?_ ?_
 ·refine zeT (fun i=>i==7) (.run [(0,true),(3,true),(4,true)] (.fork 4 [1,6] (fun i=>if i=1 then(.run [] (.fork 3 [2,6] (fun i=>if i=2 then(.run [(5,true),(6,false),(7,false)] .fin) else(.run [(2,false),(5,true),(7,false)] .fin)))) else(.run [(1,false),(2,false),(5,true),(7,false)] .fin)))) NoS mixed (by kernel_rfl) ?_;intro gd K x hgd hx hxe hK;clear hxe;have q3x:=zaa hx q3;refine sgz (az2 q3x yn0) ?_;simp only[za5,zbl];refine⟨?_,?_⟩
  ·refine sg0 ?_;refine Fn.mono (zdq (hn.ext (hEw4.trans (hx))) hok.len) ?_;rintro u y1 ⟨hou,hy1⟩;refine⟨.inr hy1,?_⟩;obtain⟨au,cu,hu'⟩:=hou.slice;have hur:=hou.row;have hub:=hou.blk;rw[hu']at hur hub;rw[ylm]at hu' hur hub;rw[hu'];obtain⟨_,_,he,hcc,hgg⟩:=id hur;injection he with g1 g2 g3
   subst g1 g3;rw[ylm]at hcc;have hrc:Row y1 (.slice au cut.length cut.length) (cut.map vs):=⟨au,cut.length,by rw[ylm],by rw[ylm];exact ynl _,hgg⟩;have hrb:BlkB x.heap.size y1 (.slice au cut.length cut.length):=hub.same;have hys1:=hy1.size;refine sg0 ?_;simp only[za5,zbl];refine⟨?_,?_⟩
   ·refine sg0 ?_;refine Fn.mono (P_cs.Clip_ok hcc) ?_;rintro _ z0 ⟨rfl,hz0⟩;refine⟨.inr (by rw[hz0];exact Keep.refl _ _),?_⟩;rw[hz0];clear hz0 z0;refine sg0 ?_;refine⟨by kernel_rfl,?_⟩;rw[hdv',show bdV Tryz.prog 184 [(0,vi 4),(2,.slice au cut.length cut.length),(1,.slice ad (datC R cut 2).length cd)]=some (.agg #[vi 4,.slice ad (datC R cut 2).length cd,.slice au cut.length cut.length,.bool false,.slice .none 0 0]) from by kernel_rfl];refine sg0 ?_;refine⟨.inr (Ext.alloc y1 _),?_⟩;have hB7:=zau y1 (.cells #[vi 0,.slice .none 0 0,.slice .none 0 0,.bool false,.slice .none 0 0] 184 (0,0));have hy3:=Ext.alloc y1 (.cells #[vi 0,.slice .none 0 0,.slice .none 0 0,.bool false,.slice .none 0 0] 184 (0,0));have hs7:=zai y1 (.cells #[vi 0,.slice .none 0 0,.slice .none 0 0,.bool false,.slice .none 0 0] 184 (0,0));revert hB7 hy3 hs7;generalize y1.alloc (.cells #[vi 0,.slice .none 0 0,.slice .none 0 0,.bool false,.slice .none 0 0] 184 (0,0))=y3;intro hB7 hy3 hs7;have hys3:=hy3.size;refine sg0 ?_;refine zaD (P:=Tryz.prog) (t:=184) (l:=[vi 4,.slice ad (datC R cut 2).length cd,.slice au cut.length cut.length,.bool false,.slice .none 0 0]) hB7 rfl (fun v h=>by simp at h;rcases h with rfl|rfl|rfl|rfl|rfl<;>rfl) rfl rfl ?_;intro z hz' hbz hkz;refine⟨.inl rfl,?_⟩;refine sg0 ?_;have hxs:=hx.size;have hav:∀a n c,Value.slice au cut.length cut.length= .slice (some a) n c->a.block≠y1.heap.size:=fun a n c hv=>by have h1:=hrb a n c hv;omega
    exact hK _ _ ⟨rfl,rfl,vq0,vq0,vq0,Keep.to_ext (((hx).trans hy1).trans hy3) rfl (fun b hb=>by omega) hkz,y1.heap.size,.slice au cut.length cut.length,vq0,by omega,by rw[hdv'];exact hbz,(hrc.ext hy3).blocks (fun a n c hv=>hkz.block _ (by have h1:=(hrb.ext (hy3).size) a n c hv;omega) (hav a n c hv)),(((hrb.ext (hy3).size)).ext (by omega)).mono (by omega),hav⟩
   ·refine sg0 ?_;refine⟨.inr (Ext.alloc y1 _),?_⟩;have hB7:=zau y1 (.cells #[vi 0,.slice .none 0 0,.slice .none 0 0,.bool false,.slice .none 0 0] 184 (0,0));have hy2:=Ext.alloc y1 (.cells #[vi 0,.slice .none 0 0,.slice .none 0 0,.bool false,.slice .none 0 0] 184 (0,0));have hs7:=zai y1 (.cells #[vi 0,.slice .none 0 0,.slice .none 0 0,.bool false,.slice .none 0 0] 184 (0,0));revert hB7 hy2 hs7;generalize y1.alloc (.cells #[vi 0,.slice .none 0 0,.slice .none 0 0,.bool false,.slice .none 0 0] 184 (0,0))=y2;intro hB7 hy2 hs7;have hys2:=hy2.size;refine sg0 ?_;refine Fn.mono (P_cs.Clip_ok hcc) ?_;rintro _ z0 ⟨rfl,hz0⟩;refine⟨.inr (by rw[hz0];exact Keep.refl _ _),?_⟩;rw[hz0];clear hz0 z0;refine sg0 ?_;refine⟨by kernel_rfl,?_⟩;rw[hdv',show bdV Tryz.prog 184 [(0,vi 4),(2,.slice au cut.length cut.length),(1,.slice ad (datC R cut 2).length cd)]=some (.agg #[vi 4,.slice ad (datC R cut 2).length cd,.slice au cut.length cut.length,.bool false,.slice .none 0 0]) from by kernel_rfl];refine sg0 ?_;refine zaD (P:=Tryz.prog) (t:=184) (l:=[vi 4,.slice ad (datC R cut 2).length cd,.slice au cut.length cut.length,.bool false,.slice .none 0 0]) hB7 rfl (fun v h=>by simp at h;rcases h with rfl|rfl|rfl|rfl|rfl<;>rfl) rfl rfl ?_;intro z hz' hbz hkz;refine⟨.inl rfl,?_⟩;refine sg0 ?_;have hxs:=hx.size;have hav:∀a n c,Value.slice au cut.length cut.length= .slice (some a) n c->a.block≠y1.heap.size:=fun a n c hv=>by have h1:=hrb a n c hv;omega
    exact hK _ _ ⟨rfl,rfl,vq0,vq0,vq0,Keep.to_ext (((hx).trans hy1).trans hy2) rfl (fun b hb=>by omega) hkz,y1.heap.size,.slice au cut.length cut.length,vq0,by omega,by rw[hdv'];exact hbz,(hrc.ext hy2).blocks (fun a n c hv=>hkz.block _ (by have h1:=(hrb.ext (hy2).size) a n c hv;omega) (hav a n c hv)),(((hrb.ext (hy2).size)).ext (by omega)).mono (by omega),hav⟩
  ·refine sg0 ?_;refine⟨.inr (Ext.alloc x _),?_⟩;have hB7:=zau x (.cells #[vi 0,.slice .none 0 0,.slice .none 0 0,.bool false,.slice .none 0 0] 184 (0,0));have hy1:=Ext.alloc x (.cells #[vi 0,.slice .none 0 0,.slice .none 0 0,.bool false,.slice .none 0 0] 184 (0,0));have hs7:=zai x (.cells #[vi 0,.slice .none 0 0,.slice .none 0 0,.bool false,.slice .none 0 0] 184 (0,0));revert hB7 hy1 hs7;generalize x.alloc (.cells #[vi 0,.slice .none 0 0,.slice .none 0 0,.bool false,.slice .none 0 0] 184 (0,0))=y1;intro hB7 hy1 hs7;have hys1:=hy1.size;refine sg0 ?_;refine Fn.mono (zdq (hn.ext (hEw4.trans ((hx).trans hy1))) hok.len) ?_;rintro u y2 ⟨hou,hy2⟩;refine⟨.inr hy2,?_⟩;obtain⟨au,cu,hu'⟩:=hou.slice;have hur:=hou.row;have hub:=hou.blk;rw[hu']at hur hub;rw[ylm]at hu' hur hub;rw[hu'];obtain⟨_,_,he,hcc,hgg⟩:=id hur;injection he with g1 g2 g3
   subst g1 g3;rw[ylm]at hcc;have hrc:Row y2 (.slice au cut.length cut.length) (cut.map vs):=⟨au,cut.length,by rw[ylm],by rw[ylm];exact ynl _,hgg⟩;have hrb:BlkB y1.heap.size y2 (.slice au cut.length cut.length):=hub.same;have hys2:=hy2.size;refine sg0 ?_;refine Fn.mono (P_cs.Clip_ok hcc) ?_;rintro _ z0 ⟨rfl,hz0⟩;refine⟨.inr (by rw[hz0];exact Keep.refl _ _),?_⟩;rw[hz0];clear hz0 z0;refine sg0 ?_;refine⟨by kernel_rfl,?_⟩;rw[hdv',show bdV Tryz.prog 184 [(0,vi 4),(2,.slice au cut.length cut.length),(1,.slice ad (datC R cut 2).length cd)]=some (.agg #[vi 4,.slice ad (datC R cut 2).length cd,.slice au cut.length cut.length,.bool false,.slice .none 0 0]) from by kernel_rfl];refine sg0 ?_;refine zaD (P:=Tryz.prog) (t:=184) (l:=[vi 4,.slice ad (datC R cut 2).length cd,.slice au cut.length cut.length,.bool false,.slice .none 0 0]) (Ext.at hy2 hB7) rfl (fun v h=>by simp at h;rcases h with rfl|rfl|rfl|rfl|rfl<;>rfl) rfl rfl ?_;intro z hz' hbz hkz;refine⟨.inl rfl,?_⟩;refine sg0 ?_;have hxs:=hx.size;have hav:∀a n c,Value.slice au cut.length cut.length= .slice (some a) n c->a.block≠x.heap.size:=fun a n c hv=>by have h1:=hrb a n c hv;omega
   exact hK _ _ ⟨rfl,rfl,vq0,vq0,vq0,Keep.to_ext (((hx).trans hy1).trans hy2) rfl (fun b hb=>by omega) hkz,x.heap.size,.slice au cut.length cut.length,vq0,by omega,by rw[hdv'];exact hbz,hrc.blocks (fun a n c hv=>hkz.block _ (by have h1:=hrb a n c hv;omega) (hav a n c hv)),((hrb).ext (by omega)).mono (by omega),hav⟩
 rintro _ σ1 _ w5 ⟨rfl,rfl,h2,h4,h5,hE6,b7,sv,h7,hb7,hB7,hsv,hsb,hsne⟩;have hEw5:=hEw4.trans hE6;have d5:=zae (n:=4) (Ext.at hE6 hB5) rfl;have hdv5:=hdv4.ext hE6;have hb7l:b7<w5.heap.size:=(Array.getElem?_eq_some_iff.1 hB7).1;have hsA5:=Ext.at (hE14.trans hE6) hA;have hsC5:=Ext.at (hE14.trans hE6) hC;have e3:=hz.e0.size;have e6:=hE6.size;have hdlow:∀a n c,dv= .slice (some a) n c->a.block<w4.heap.size:=fun a n c hv=>(hdb4 a n c hv).2;refine rqz ?_;intro gd K hgd hK;refine sgz (az2 h5 d5) ?_;refine Fn.mono zjn ?_;rintro _ w6 ⟨rfl,hE7,hs7,hb8⟩;try simp only[go_sem]
 apply hK;have hEw6:=hEw5.trans hE7;have tyEq:datC R cut 2≠ []->ty=2:=fun h=>hty (zg3.2 h)
 -- the hosts,whatever the type says of no records
 have hH:zbo ty (datC R cut 2)=zbo 2 (datC R cut 2):=by
  by_cases hne:datC R cut 2=[]
  ·rw[hne];unfold zbo zaz;split<;>split<;>rfl
  ·rw[tyEq hne]
 have hit:=zlH (C:=fun b=>b=b7) (hz.e0.trans hEw6) hb8 how rfl (hdv5.ext hE7) (fun b hb=>by omega) (by have:=zbg (R:=R) (n:=cut) (t:=2);have:=hz.rl;omega) (zb4 hR (t:=2) (n:=cut) (fun d hd=>hd));rw[hH]at hit;obtain⟨D,hD⟩:∃D,w6.heap.size=D:=⟨_,rfl⟩;have hHl:(zbo 2 (datC R cut 2)).length<=1000000000:=by
  have h1:=zdx [] (zaz 2 (datC R cut 2));have h2:=zfh 2 (datC R cut 2);have h3:=zbg (R:=R) (n:=cut) (t:=2);have h4:=hz.rl;unfold zbo;omega
 have hHg:∀x∈zbo 2 (datC R cut 2),NmG x:=fun x hx=>zb4 hR (t:=2) (n:=cut) (fun d hd=>hd) x (zcg _ _ x hx);have hslow:∀a n c,sv= .slice (some a) n c->a.block<w5.heap.size:=fun a n c hv=>(hsb a n c hv).2;repeat refine c_r ?_
 refine zek (g:=282) (cap:=#[.pointer (some ⟨w5.heap.size,0,.none⟩)]) vq0 rfl hit (Keep.refl _ _) (ynl _) (fun b hb=>by omega)
  (fun x U B args h=>by obtain⟨v,h,_⟩:=h;rw[h];rfl)
  (RfI w0 w D w.heap.size (w.heap.size+1) b7 ov lv dv sv cut R (datC R cut 2))
  (fun _ _ _=>False) ?_ (fun _ _ _ _ h _=>h.elim) ?_ ?_ ?_ (fun _ _ _ _ _ _ h _=>h.elim)
 ·rintro pre U A B ⟨i1,isz,i2,i3,i4,i5,gv,G,i6,i7,i8,i9,i10⟩ hU hk;have hsA:=(Array.getElem?_eq_some_iff.1 i6).1;have hks:=hk.size;have hlow:∀b,b<D->¬span w6.heap.size (2+1) b:=fun b hb=>by unfold span;omega
  refine⟨Keep.to_ext i1 rfl (fun b hb=>by unfold span at hb;omega) hk,by omega,(hk.block _ (Array.getElem?_eq_some_iff.1 i2).1 (hlow _ (by omega))).trans i2,(hk.block _ (Array.getElem?_eq_some_iff.1 i3).1 (hlow _ (by omega))).trans i3,?_,?_,gv,G,(hk.block _ hsA (hlow _ (by omega))).trans i6,i7,i8.keep hk (fun b hb h=>by have:=(i8.ge hb).1;unfold span at h;omega),fun x hx=>?_,i10⟩
  ·exact i4.blocks fun a n c hv=>by
    have h1:=hdlow a n c hv;exact hk.block _ (by have:=i1.size;omega) (hlow _ (by omega))
  ·exact i5.blocks fun a n c hv=>by
    have h1:=hslow a n c hv;exact hk.block _ (by omega) (hlow _ (by omega))
  ·obtain⟨j1,j2,j3,j4⟩:=i9 x hx;exact⟨j1,j2.keep hk j3 (fun b hb _=>by unfold span;omega),j3.ext hk.size,j4⟩
 ·exact⟨hEw6,by omega,Ext.at hE7 hsA5,Ext.at hE7 hsC5,hdv5.ext hE7,hsv.ext hE7,.slice .none 0 0,[],Ext.at hE7 hB7,rfl,Owns.nil _ _ _ _ _,fun x h=>absurd h (by simp),fun b=>⟨fun h=>h.elim,fun h=>by cases h⟩⟩
 ·rintro lp pre U x A args ⟨suf,hxs⟩ hszA ⟨i1,isz,i2,i3,i4,i5,gv,G,i6,i7,i8,i9,i10⟩ hUb ⟨xv,rfl,hxr⟩;obtain⟨ax,cx,hxv,_⟩:=id hxr;have hxg:NmG x:=hHg x (by rw[hxs];simp);have hpl:pre.length+1<=(zbo 2 (datC R cut 2)).length:=by rw[hxs];simp
  refine rq ?_;intro gd K hgd hK;try simp only[go_sem]
  apply hK;refine zas ?_;refine⟨rfl,Keep.refl _ _,fun Y hY=>?_⟩;have hlow:∀b,b<D->¬two w6.heap.size b:=fun b hb=>by unfold two;omega
  have hhigh:∀b,D+2<=b->¬two w6.heap.size b:=fun b hb=>by unfold two;omega
  have hYs:=hY.size;have k2:=(hY.block _ (Array.getElem?_eq_some_iff.1 i2).1 (hlow _ (by omega))).trans i2;have k3:=(hY.block _ (Array.getElem?_eq_some_iff.1 i3).1 (hlow _ (by omega))).trans i3;have k6:=(hY.block _ (Array.getElem?_eq_some_iff.1 i6).1 (hlow _ (by omega))).trans i6;have k4:Rows 5 (DatAt w0) Y dv (datC R cut 2):=i4.blocks fun a n c hv=>hY.block _ (by have:=hdlow a n c hv;omega) (hlow _ (by have:=hdlow a n c hv;omega));have k5:Row Y sv (cut.map vs):=i5.blocks fun a n c hv=>hY.block _ (by have:=hslow a n c hv;omega) (hlow _ (by have:=hslow a n c hv;omega));have k8:=i8.keep hY (fun b hb=>hhigh b (by have:=(i8.ge hb).1;omega));have k9:∀x∈G,Row w0 x.2.1 (x.1.1.map vs)/\Rows 5 (DatAt w0) Y x.2.2 x.1.2/\BlkB (D+3) Y x.2.2/\∀a n c,x.2.2= .slice (some a) n c->some a.block≠gv.ownBlock:=fun x hx=>by
   obtain⟨j1,j2,j3,j4⟩:=i9 x hx;exact⟨j1,j2.keep hY j3 (fun b hb _=>hhigh b (by omega)),j3.ext hYs,j4⟩
  have hwY:Ext w Y:=Keep.to_ext i1 rfl (fun b hb=>by unfold two at hb;omega) hY;have hw0Y:=hz.e0.trans hwY;have d2:=zae (n:=2) (l:=[ov,lv]) k2 rfl;have hzY:=hz.ext hwY;clear i1 i2 i3 i4 i5 i6 i8 i9;refine rqz ?_;intro gd K hgd hK;refine sgz (az2 h2 d2) ?_;refine Fn.mono (Glue_ok hzY (hxr.ext hw0Y) hxg.m.s) ?_;rintro gl Y1 ⟨hY1,hgr,hgb⟩;obtain⟨ag,cg,hgv,hcg,_⟩:=hgr.open;try simp only[go_sem]
  apply hK;have hY1s:=hY1.size;refine gz hgv ?_;refine wc0 ?_ ?_
  ·intro hlt;simp only[ydT]at hlt;have hgne:zbe R x≠ []:=List.length_pos_iff.1 (by omega);have k61:=Ext.at hY1 k6;have g4:zad Y1 (some ⟨b7,4,.none⟩)=some gv:=zcr (l:=[vi 4,dv,sv,.bool false,gv]) k61 rfl;have hgx:one xv=true:=by rw[hxv];rfl
   have hgo:one gl=true:=by rw[hgv];rfl
   refine rqz ?_;intro gd K hgd hK;refine sgz (az3 h7 g4 yn0) ?_;rw[hxv];refine⟨by kernel_rfl,?_⟩;rw[show bdV Tryz.prog 382 [(0,.slice ax (x.map vs).length cx),(1,.slice ag (zbe R x).length cg)]=some (.agg #[.slice ax (x.map vs).length cx,.slice ag (zbe R x).length cg]) from by kernel_rfl];rw[←hxv,←hgv];refine sgz (az3 h7 g4 yn0) ?_;refine zaR (a:=((x,zbe R x),(xv,gl))) (l:=[xv,gl]) ze6 (by rfl) (by rfl) (by rfl) (by rfl) ⟨rfl,hgx,hgo⟩ (by decide) ?_;intro Y2 hY2 hsY2 hoY2;refine sgz (az3 h7 g4 yn0) ?_;have hGl:G.length<=pre.length:=by
    have h1:=congrArg List.length i7;rw[ylm]at h1;have h2:=zgk R pre;omega
   refine zaG ze6 ((k8.ext hY1).ext hY2) hoY2.rows (by rfl) (by rfl) (by rfl) (by rfl) (by rfl) (by rfl) (by decide) vr0 vr0 (by rw[List.length_singleton];omega) (by decide) (by omega) ?_;intro gv' Y3 hgv' _ hkY3 hfr;refine sgz (az2 h7 yn0) ?_;have hown:∀b,some b=gv.ownBlock->D+3<=b/\b<Y.heap.size:=fun b hb=>k8.ge hb;have hb7o:¬some b7=gv.ownBlock:=fun h=>by have:=hown b7 h;omega
   have k63:=(hkY3.block b7 (by omega) hb7o).trans (Ext.at hY2 k61);obtain⟨ag',cg',hgv'',_⟩:=hgv'.rows.open;refine zaU (P:=Tryz.prog) (t:=182) (j:=4) (l:=[vi 4,dv,sv,.bool false,gv]) k63 (by simp) (by rw[hgv''];rfl) rfl rfl ?_;intro Y4 hsY4 hbY4 hkY4;try simp only[go_sem]
   apply hK;have hY2s:=hY2.size;have hY3s:=hkY3.size;have hown':∀b,some b=gv'.ownBlock->D+3<=b/\b<Y3.heap.size:=fun b hb=>hgv'.ge hb;have hb7o':¬some b7=gv'.ownBlock:=fun h=>by have:=hown' b7 h;omega
   -- from Y2 on:the row of one's own and b7 alone
   have hk24:Keep (fun b=>b=b7\/some b=gv.ownBlock) Y2 Y4:=(hkY3.mono (fun b _ h=> .inr h)).trans (hkY4.mono (fun b _ h=> .inl h));have hYY2:=hY1.trans hY2;have hYY4:Keep (fun b=>b=b7\/some b=gv.ownBlock) Y Y4:=(hYY2.mono (fun b _ h=>h.elim)).trans hk24;have hlow2:∀b,b<D->b≠b7->¬(b=b7\/some b=gv.ownBlock):=fun b hb hne h=>by
    rcases h with h|h
    ·exact hne h
    ·have:=hown b h;omega
   have hlowd:∀{v:Value} {L:Nat},L<=D->(∀a n c,v= .slice (some a) n c->a.block<L/\a.block≠b7)->∀a n c,v= .slice (some a) n c->Y4.heap[a.block]? =Y.heap[a.block]?:=fun {v L} hL h a n c hv=>by
    have h1:=h a n c hv;exact hYY4.block _ (by omega) (hlow2 _ (by omega) h1.2)
   have dq:∀(q:Value) (yw:World),(∀a n c,q= .slice (some a) n c->a.block<Y2.heap.size/\a.block≠b7/\some a.block≠gv.ownBlock)->∀a n c,q= .slice (some a) n c->Y4.heap[a.block]? =Y2.heap[a.block]?:=fun q yw h a n c hv=>by
    obtain⟨h1,h2,h3⟩:=h a n c hv;exact hk24.block _ h1 (fun h=>by
     rcases h with h|h
     ·exact h2 h
     ·exact h3 h)
   repeat refine c_r ?_
   refine⟨fun b=>some b=gv'.ownBlock,⟨Keep.to_ext hwY rfl (fun b hb=>by
     rcases hb with hb|hb
     ·omega
     ·have:=hown b hb;omega) hYY4,by have:=hYY4.size;omega,(hYY4.block _ (by omega) (hlow2 _ (by omega) (by omega))).trans k2,(hYY4.block _ (by omega) (hlow2 _ (by omega) (by omega))).trans k3,?_,?_,gv',G++ [((x,zbe R x),(xv,gl))],by simpa using hbY4,?_,hgv'.keep hkY4 (fun b hb h=>hb7o' (h▸hb)),fun y hy=>?_,fun b=>Iff.rfl⟩,fun b hb=>?_,?_⟩
   ·exact k4.blocks (hlowd (L:=w4.heap.size) (by omega) fun a n c hv=>⟨hdlow a n c hv,by have:=hdlow a n c hv;omega⟩)
   ·exact k5.blocks (hlowd (L:=w5.heap.size) (by omega) fun a n c hv=>⟨hslow a n c hv,hsne a n c hv⟩)
   ·rw[List.map_append,i7,zgl,if_neg hgne];rfl
   ·rcases List.mem_append.1 hy with hy|hy
    ·obtain⟨j1,j2,j3,j4⟩:=k9 y hy;have j3':BlkB (D+3) Y2 y.2.2:=(j3.ext hY1s).ext hY2s;refine⟨j1,((j2.ext hY1).ext hY2).blocks (dq _ Y (fun a n c hv=>⟨(j3' a n c hv).2,by have:=j3' a n c hv;omega,j4 a n c hv⟩)),j3'.ext (by omega),fun a n c hv hb=>?_⟩;rcases hfr _ hb with h|h
     ·exact j4 a n c hv h
     ·have:=(j3' a n c hv).2;omega
    ·rw[List.mem_singleton.1 hy];have hgb2:BlkB Y.heap.size Y2 gl:=hgb.ext hY2s;refine⟨hxr,(hgr.ext hY2).blocks (dq _ Y (fun a n c hv=>⟨(hgb2 a n c hv).2,by have:=hgb2 a n c hv;omega,fun h=>by have:=hgb2 a n c hv;have:=hown _ h;omega⟩)),(hgb2.ext (by omega)).mono (by omega),fun a n c hv hb=>?_⟩;have h1:=hgb2 a n c hv;rcases hfr _ hb with h|h
     ·have:=hown _ h;omega
     ·omega
   ·rcases hfr b hb with h|h
    ·exact .inl ((i10 b).2 h)
    ·exact .inr ⟨by omega,by have:=(hown' b hb).2;omega⟩
   ·exact hYY4.mono (fun b _ h=>h.imp id (fun h=>(i10 b).2 h))
  ·intro hge;simp only[ydF]at hge;have hgnil:zbe R x=[]:=List.length_eq_zero_iff.1 (by omega);repeat refine c_r ?_
   refine⟨U,⟨hwY.trans hY1,by omega,Ext.at hY1 k2,Ext.at hY1 k3,k4.ext hY1,k5.ext hY1,gv,G,Ext.at hY1 k6,by rw[zgl,if_pos hgnil,List.append_nil];exact i7,k8.ext hY1,fun y hy=>?_,i10⟩,fun b hb=> .inl hb,hY1.mono (fun _ _ h=>h.elim)⟩;obtain⟨j1,j2,j3,j4⟩:=k9 y hy;exact⟨j1,j2.ext hY1,j3.ext hY1s,j4⟩
 ·rintro xs U B rfl hszB hUb ⟨i1,isz,i2,i3,i4,i5,gv,G,i6,i7,i8,i9,i10⟩ hDB;have d5':=zae (n:=5) (l:=[vi 4,dv,sv,.bool false,gv]) i6 rfl;obtain⟨agl,cgl,hgle,_⟩:=i8.rows.open;obtain⟨asv,csv,hsve,_⟩:=id i5;have hDlt:w6.heap.size<B.heap.size:=(Array.getElem?_eq_some_iff.1 hDB).1;refine rqz ?_;intro gd K hgd hK;refine sgz (az3 h7 h4 d5') ?_;refine zaD (P:=Tryz.prog) (t:=184) (l:=[vi 4,dv,sv,.bool false,gv]) i3 rfl (fun v h=>by
   simp at h;rcases h with rfl|rfl|rfl|rfl|rfl
   ·rfl
   ·rw[hdv'];rfl
   ·rw[hsve];rfl
   ·rfl
   ·rw[hgle];rfl) rfl rfl ?_
  intro z hz' hbz hkz;try simp only[go_sem]
  refine en hK ?_;refine zbz (.inr rfl) Tryz.ntmps198 rfl ((hkz.block _ (by omega) (by omega)).trans hDB) ?_;intro Z hkZ hsZ;have hBZ:Keep (fun b=>b=w.heap.size+1\/b=w6.heap.size) B Z:=(hkz.mono (fun b _ h=> .inl h)).trans (hkZ.mono (fun b _ h=> .inr h));refine⟨_,zaI (x:=⟨w.heap.size+1,0,.none⟩) (k:=5) ((vq1 h4)) rfl rfl (zae (l:=[vi 4,dv,sv,.bool false,gv]) ((hkZ.block _ (by omega) (by omega)).trans hbz) rfl) zap,Keep.to_ext i1 rfl (fun b hb=>by omega) hBZ,_,rfl,dv,sv,gv,rfl,?_,?_,?_,?_,?_⟩
  ·exact i4.blocks fun a n c hv=>hBZ.block _ (by have:=hdlow a n c hv;omega) (by have h1:=hdb4 a n c hv;have:=hdlow a n c hv;have h3:=hdb a n c hv;omega)
  ·exact hdb4.ext (by have:=hBZ.size;omega)
  ·refine .inl ⟨i5.blocks fun a n c hv=>hBZ.block _ (by have:=hslow a n c hv;omega) (by have h1:=hsb a n c hv;omega),(hsb.ext (by have:=hBZ.size;omega)).mono (by omega)⟩
  ·have hgZ:Rows 2 glC Z gv G:=i8.rows.blocks fun a n c hv=>hBZ.block _ (i8.blk a n c hv).2 (by have:=i8.blk a n c hv;omega);have hgl:=hgZ.mapM (C':=GlB w0 w.heap.size Z) Prod.fst (fun cs x hx hc=>by
    obtain⟨j1,j2,j3,j4⟩:=i9 x hx;exact⟨x.2.1,x.2.2,hc.1,j1,j2.blocks fun a n c hv=>hBZ.block _ (j3 a n c hv).2 (by have:=j3 a n c hv;omega),(j3.ext hBZ.size).mono (by omega)⟩)
   rw[i7]at hgl;exact hgl
  ·exact(i8.blk.ext hBZ.size).mono (by omega)
def zeroRes:ResL:=⟨0,[],[],false,[]⟩
def zaE(R:List RecL)(q n:Nm):Option ResL:=
 if datC R n 39=[] then .none
 else if zaA (zbU q n (toN 39 ((datC R n 39).take 1)))=0 then some ⟨5,(datC R n 39).take 1,zbU q n (toN 39 ((datC R n 39).take 1)),false,[]⟩
 else some ⟨6,[],[],false,[]⟩
def atL(R:List RecL)(n:Nm)(t:Int)(wild:Bool):ResL:=
 if datC R n t≠ [] then⟨1,datC R n t,[],wild,[]⟩
 else if datC R n 5≠ [] then⟨5,(datC R n 5).take 1,toN 5 ((datC R n 5).take 1),wild,[]⟩
 else⟨2,[],[],wild,[]⟩
theorem toN_m{R:List RecL}(hR:zdJ R){n:Nm}{t u:Int}:NmM (toN u ((datC R n t).take 1)):=by
 unfold toN;cases hq:(zbo u ((datC R n t).take 1)).getLast? with
 |none=>exact⟨fun l h=>(by cases h),by simp⟩
 |some x=>
  have h1:=List.mem_of_getLast? hq;exact(zb4 hR (t:=t) (n:=n) (fun d hd=>List.mem_of_mem_take hd) x (zcg _ _ x h1)).m
theorem za7(w:World):Row w (.slice .none 0 0) (([]:Nm).map vs):=⟨.none,0,rfl,ynl _,fun j h=>absurd h (by simp)⟩
abbrev zR:List Value:=[vi 0,.slice .none 0 0,.slice .none 0 0,.bool false,.slice .none 0 0]
theorem zku{w0 w:World}{ov lv qv nv:Value}{o q n:Nm}{R:List RecL}(hz:ZnAt w0 w ov lv o R)(hR:zdJ R)(hq:Row w qv (q.map vs))(hn:Row w nv (n.map vs))(mq:NmM q)(mn:NmM n)(hu:zaV q n=true):
  Fn Tryz.prog 199 #[.agg #[ov,lv],qv,nv] w (fun v w'=>Ext w w'/\∃cs,v= .tuple #[.agg cs.toArray,.bool (zaE R q n).isSome]/\ResB w0 w.heap.size w' cs ((zaE R q n).getD zeroRes)):=by
 obtain⟨ao,co,hov,_⟩:=id hz.org;obtain⟨al,cl,hlv,_⟩:=hz.recs.open;rw[hov,hlv];refine enter Tryz.func199 Tryz.ntmps199 rfl rfl ?_;refine gz0 ?_;rw[←hov,←hlv];rw[zai];refine zaF ?_;intro w1 hE1 hs1 hA hC;have d2:=zae (n:=2) (l:=[ov,lv]) hA rfl;have hz1:=hz.ext hE1;refine rq ?_;intro gd K hgd hK;refine sgz d2 ?_;refine Fn.mono (zjO hz1 hR (hn.ext hE1) mn.s) ?_;rintro _ w2 ⟨hE2,dv,tv,rfl,hdv,hdb,htv⟩;obtain⟨bb,hbb⟩:∃bb:Bool,decide (datC R n 39≠ [])=bb:=⟨_,rfl⟩;rw[hbb];try simp only[go_sem]
 apply hK;have hC2:=hE2.at hC;have s2:=hE2.size;have hEw2:=hE1.trans hE2;refine gz0 ?_;by_cases hne:datC R n 39≠ []
 ·rw[yet hne]at hbb;subst hbb;refine zay (t:=false) vq0 (fun h=>by cases h) ?_;intro _;refine rqz ?_;intro gd K hgd hK;try simp only[go_sem]
  refine Fn.mono (NSwap_ok w2 qv nv tv q n (toN 39 ((datC R n 39).take 1)) (hq.ext hEw2) (hn.ext hEw2) (htv.ext (hz.e0.trans hEw2)) mq mn (toN_m hR) hu) ?_;rintro v w3 ⟨hE3,hgood,hbad⟩;have hC3:=hE3.at hC2;have s3:=hE3.size;by_cases hck:zaA (zbU q n (toN 39 ((datC R n 39).take 1)))=0
  ·obtain⟨sv,rfl,hsv,hsvb⟩:=hgood hck;obtain⟨as1,cs1,hsv',_⟩:=id hsv;obtain⟨ad,cd,hdv',_⟩:=hdv.open;have hren:zaE R q n=some ⟨5,(datC R n 39).take 1,zbU q n (toN 39 ((datC R n 39).take 1)),false,[]⟩:=by unfold zaE;rw[if_neg hne,if_pos hck]
   try simp only[go_sem]
   apply hK;refine gz0 ?_;refine wc0 ?_ ?_
   ·intro h;simp at h
   intro _;refine rqz ?_;intro gd K hgd hK;try simp only[go_sem]
   rw[hsv',hdv'];refine⟨by kernel_rfl,?_⟩;rw[show bdV Tryz.prog 184 [(0,vi 5),(2,.slice as1 ((zbU q n (toN 39 ((datC R n 39).take 1))).map vs).length cs1),(1,.slice ad ((datC R n 39).take 1).length cd)]=some (.agg #[vi 5,.slice ad ((datC R n 39).take 1).length cd,.slice as1 ((zbU q n (toN 39 ((datC R n 39).take 1))).map vs).length cs1,.bool false,.slice .none 0 0]) from by kernel_rfl];try simp only[go_sem]
   refine zaD (P:=Tryz.prog) (t:=184) (l:=[vi 5,.slice ad ((datC R n 39).take 1).length cd,.slice as1 ((zbU q n (toN 39 ((datC R n 39).take 1))).map vs).length cs1,.bool false,.slice .none 0 0]) hC3 rfl (fun v h=>by simp at h;rcases h with rfl|rfl|rfl|rfl|rfl<;>rfl) rfl rfl ?_;intro z hz' hbz hkz;try simp only[go_sem]
   refine en hK ?_;refine zat (.inr rfl) Tryz.ntmps199 rfl (zaI (x:=⟨w.heap.size+1,0,.none⟩) (k:=5) vq0 rfl rfl (zae hbz rfl) (zam (v:= .bool true) vr0 zap)) ?_;refine⟨Keep.to_ext (hEw2.trans hE3) rfl (fun b hb=>by omega) hkz,_,by rw[hren];rfl,?_⟩;rw[hren];refine⟨_,_,_,rfl,?_,?_,.inl ⟨?_,?_⟩,Rows.nil _ _ _,BlkB.nil⟩
   ·rw[←hdv'];exact(hdv.ext hE3).keep hkz (hdb.ext hE3.size) (fun b hb _=>by omega)
   ·rw[←hdv'];exact(hdb.ext (by omega)).mono (by omega)
   ·rw[←hsv'];exact hsv.keepB hkz hsvb (fun b hb _=>by omega)
   ·rw[←hsv'];exact(hsvb.ext (by omega)).mono (by omega)
  ·have hv:=hbad hck;subst hv;have hren:zaE R q n=some ⟨6,[],[],false,[]⟩:=by unfold zaE;rw[if_neg hne,if_neg hck]
   try simp only[go_sem]
   apply hK;refine gz0 ?_;refine wc0 ?_ ?_
   ·intro _;refine rqz ?_;intro gd K hgd hK;try simp only[go_sem]
    refine⟨by kernel_rfl,?_⟩;rw[show bdV Tryz.prog 184 [(0,vi 6)]=some (.agg #[vi 6,.slice .none 0 0,.slice .none 0 0,.bool false,.slice .none 0 0]) from by kernel_rfl];try simp only[go_sem]
    refine zaD (P:=Tryz.prog) (t:=184) (l:=[vi 6,.slice .none 0 0,.slice .none 0 0,.bool false,.slice .none 0 0]) hC3 rfl (fun v h=>by simp at h;rcases h with rfl|rfl|rfl|rfl|rfl<;>rfl) rfl rfl ?_;intro z hz' hbz hkz;try simp only[go_sem]
    refine en hK ?_;refine zat (.inr rfl) Tryz.ntmps199 rfl (zaI (x:=⟨w.heap.size+1,0,.none⟩) (k:=5) vq0 rfl rfl (zae hbz rfl) (zam (v:= .bool true) vr0 zap)) ?_;exact⟨Keep.to_ext (hEw2.trans hE3) rfl (fun b hb=>by omega) hkz,_,by rw[hren];rfl,by rw[hren];exact⟨_,_,_,rfl,Rows.nil _ _ _,BlkB.nil,.inr (za7 _),Rows.nil _ _ _,BlkB.nil⟩⟩
   ·intro h;simp at h
 ·have hnil:datC R n 39=[]:=by simpa using hne
  have hren:zaE R q n= .none:=by unfold zaE;rw[if_pos hnil]
  rw[yef hne]at hbb;subst hbb;refine zay (t:=true) vq0 ?_ (fun h=>by cases h);intro _;refine rqz ?_;intro gd K hgd hK;try simp only[go_sem]
  refine⟨by kernel_rfl,?_⟩;rw[show bdV Tryz.prog 184 []=some (.agg #[vi 0,.slice .none 0 0,.slice .none 0 0,.bool false,.slice .none 0 0]) from by kernel_rfl];try simp only[go_sem]
  refine zaD (P:=Tryz.prog) (t:=184) (l:=zR) hC2 rfl (fun v h=>by simp at h;rcases h with rfl|rfl|rfl|rfl|rfl<;>rfl) rfl rfl ?_;intro z hz' hbz hkz;try simp only[go_sem]
  refine en hK ?_;refine zat (.inr rfl) Tryz.ntmps199 rfl (zaI (x:=⟨w.heap.size+1,0,.none⟩) (k:=5) vq0 rfl rfl (zae hbz rfl) (zam (v:= .bool false) vr0 zap)) ?_;exact⟨Keep.to_ext hEw2 rfl (fun b hb=>by omega) hkz,_,by rw[hren];rfl,by rw[hren];exact⟨_,_,_,rfl,Rows.nil _ _ _,BlkB.nil,.inr (za7 _),Rows.nil _ _ _,BlkB.nil⟩⟩
theorem At_ok{w0 w:World}{ov lv nv:Value}{o n:Nm}{R:List RecL}{t:Int}{wild:Bool}(hz:ZnAt w0 w ov lv o R)(hR:zdJ R)(hn:Row w nv (n.map vs))(mn:NmS n):
  Fn Tryz.prog 201 #[.agg #[ov,lv],nv,vi t,.bool wild] w (fun v w'=>Ext w w'/\∃cs,v= .agg cs.toArray/\ResB w0 w.heap.size w' cs (atL R n t wild)):=by
 obtain⟨ao,co,hov,_⟩:=id hz.org;obtain⟨al,cl,hlv,_⟩:=hz.recs.open;rw[hov,hlv];refine enter Tryz.func201 Tryz.ntmps201 rfl rfl ?_;refine gz0 ?_;rw[←hov,←hlv];rw[zai];refine zaF ?_;intro w1 hE1 hs1 hA hC;have p1:zad w1 (some ⟨w.heap.size,1,.none⟩)=some lv:=zab hA rfl;have hz1:=hz.ext hE1;refine rq ?_;intro gd K hgd hK;refine sgz (az2 p1 yn0) ?_;refine Fn.mono (Of_ok hz1.e0 hz1.recs (hn.ext hE1) mn.lb (by have:=mn.len;omega) hz.ok hz.rl) ?_;rintro _ w2 ⟨hE2,ow,ty,tl,dv,rfl,how,hty,hdv,hdb⟩;have hdd:(ofC R n t).map RecL.dat=datC R n t:=rfl;rw[hdd]at hdv;obtain⟨bb,hbb⟩:∃bb:Bool,decide (datC R n t≠ [])=bb:=⟨_,rfl⟩;rw[show decide (ofC R n t≠ [])=bb from by rw[←hbb];exact decide_eq_decide.2 (zg3 (R:=R) (n:=n) (t:=t))];try simp only[go_sem]
 have hB3:=zau w2 (.cells #[.slice .none 0 0,vi 0,v32 0,.slice .none 0 0] 340 (0,0));have hE4:=Ext.alloc w2 (.cells #[.slice .none 0 0,vi 0,v32 0,.slice .none 0 0] 340 (0,0));have hs4:=zai w2 (.cells #[.slice .none 0 0,vi 0,v32 0,.slice .none 0 0] 340 (0,0));revert hB3 hE4 hs4;generalize w2.alloc (.cells #[.slice .none 0 0,vi 0,v32 0,.slice .none 0 0] 340 (0,0))=w3;intro hB3 hE4 hs4;obtain⟨ad,cd,hdv',hcd,_⟩:=hdv.open;refine zaD (P:=Tryz.prog) (t:=340) (l:=[ow,vi ty,v32 tl,dv]) hB3 rfl (fun v h=>by
  simp at h;rcases h with rfl|rfl|rfl|rfl
  ·exact how
  ·rfl
  ·rfl
  ·rw[hdv'];rfl) rfl rfl ?_
 intro w4 hs5 hB5 hk5;try simp only[go_sem]
 apply hK;have hE5:Ext w2 w4:=Keep.to_ext hE4 rfl (fun b hb=>by omega) hk5;have hE14:=hE2.trans hE5;have hEw4:=hE1.trans hE14;have q3:zad w4 (some ⟨w2.heap.size,3,.none⟩)=some dv:=zcr hB5 rfl;have hdv4:=hdv.ext hE5;have hdb4:BlkB w1.heap.size w4 dv:=hdb.ext hE5.size;have hA4:=Ext.at hE14 hA;have hC4:=Ext.at hE14 hC;have e2:=hE14.size;clear hB3 hE4 hs4 hk5 hs5;refine gz0 ?_;by_cases hne:datC R n t≠ []
 ·rw[yet hne]at hbb;subst hbb;have hat:atL R n t wild=⟨1,datC R n t,[],wild,[]⟩:=by unfold atL;rw[if_pos hne]
  refine zay (t:=true) vq0 ?_ (fun h=>by cases h);intro _;refine rqz ?_;intro gd K hgd hK;refine sgz (az2 q3 yn0) ?_;rw[hdv'];refine⟨by kernel_rfl,?_⟩;rw[show bdV Tryz.prog 184 [(0,vi 1),(1,.slice ad (datC R n t).length cd),(3,.bool wild)]=some (.agg #[vi 1,.slice ad (datC R n t).length cd,.slice .none 0 0,.bool wild,.slice .none 0 0]) from by kernel_rfl];try simp only[go_sem]
  refine zaD (P:=Tryz.prog) (t:=184) (l:=[vi 1,.slice ad (datC R n t).length cd,.slice .none 0 0,.bool wild,.slice .none 0 0]) hC4 rfl (fun v h=>by simp at h;rcases h with rfl|rfl|rfl|rfl|rfl<;>rfl) rfl rfl ?_;intro z hz' hbz hkz;try simp only[go_sem]
  refine en hK ?_;refine zat (.inr rfl) Tryz.ntmps201 rfl (zaI (x:=⟨w.heap.size+1,0,.none⟩) (k:=5) vq0 rfl rfl (zae hbz rfl) zap) ?_;refine⟨Keep.to_ext hEw4 rfl (fun b hb=>by omega) hkz,_,rfl,?_⟩;rw[hat];refine⟨_,_,_,rfl,?_,?_,.inr (za7 _),Rows.nil _ _ _,BlkB.nil⟩
  ·rw[←hdv'];exact hdv4.keep hkz hdb4 (fun b hb _=>by omega)
  ·rw[←hdv'];exact(hdb4.ext (by omega)).mono (by omega)
 ·have hnil:datC R n t=[]:=by simpa using hne
  rw[yef hne]at hbb;subst hbb;refine zay (t:=false) vq0 (fun h=>by cases h) ?_;intro _;have d2:=zae (n:=2) (l:=[ov,lv]) hA4 rfl;have hz4:=hz.ext hEw4;refine rqz ?_;intro gd K hgd hK;refine sgz d2 ?_;refine Fn.mono (zjO hz4 hR (hn.ext hEw4) mn) ?_;rintro _ w5 ⟨hE6,fv,tv,rfl,hfv,hfb,htv⟩;obtain⟨b5,hb5⟩:∃bb:Bool,decide (datC R n 5≠ [])=bb:=⟨_,rfl⟩;rw[hb5];try simp only[go_sem]
  apply hK;have hC5:=Ext.at hE6 hC4;have e6:=hE6.size;have hEw5:=hEw4.trans hE6;refine gz0 ?_;by_cases hne5:datC R n 5≠ []
  ·rw[yet hne5]at hb5;subst hb5;obtain⟨af,cf,hfv',_⟩:=hfv.open;obtain⟨at1,ct1,htv',_⟩:=id htv;have hat:atL R n t wild=⟨5,(datC R n 5).take 1,toN 5 ((datC R n 5).take 1),wild,[]⟩:=by unfold atL;rw[if_neg hne,if_pos hne5]
   refine zay (t:=true) vq0 ?_ (fun h=>by cases h);intro _;refine rqz ?_;intro gd K hgd hK;try simp only[go_sem]
   rw[hfv',htv'];refine⟨by kernel_rfl,?_⟩;rw[show bdV Tryz.prog 184 [(0,vi 5),(2,.slice at1 ((toN 5 ((datC R n 5).take 1)).map vs).length ct1),(1,.slice af ((datC R n 5).take 1).length cf),(3,.bool wild)]=some (.agg #[vi 5,.slice af ((datC R n 5).take 1).length cf,.slice at1 ((toN 5 ((datC R n 5).take 1)).map vs).length ct1,.bool wild,.slice .none 0 0]) from by kernel_rfl];try simp only[go_sem]
   refine zaD (P:=Tryz.prog) (t:=184) (l:=[vi 5,.slice af ((datC R n 5).take 1).length cf,.slice at1 ((toN 5 ((datC R n 5).take 1)).map vs).length ct1,.bool wild,.slice .none 0 0]) hC5 rfl (fun v h=>by simp at h;rcases h with rfl|rfl|rfl|rfl|rfl<;>rfl) rfl rfl ?_;intro z hz' hbz hkz;try simp only[go_sem]
   refine en hK ?_;refine zat (.inr rfl) Tryz.ntmps201 rfl (zaI (x:=⟨w.heap.size+1,0,.none⟩) (k:=5) vq0 rfl rfl (zae hbz rfl) zap) ?_;have hEz:Ext w z:=Keep.to_ext hEw5 rfl (fun b hb=>by omega) hkz;refine⟨hEz,_,rfl,?_⟩;rw[hat];refine⟨_,_,_,rfl,?_,?_,.inr ?_,Rows.nil _ _ _,BlkB.nil⟩
   ·rw[←hfv'];exact hfv.keep hkz hfb (fun b hb _=>by omega)
   ·rw[←hfv'];exact(hfb.ext (by omega)).mono (by omega)
   ·rw[←htv'];exact htv
  ·rw[yef hne5]at hb5;subst hb5;have hat:atL R n t wild=⟨2,[],[],wild,[]⟩:=by unfold atL;rw[if_neg hne,if_neg hne5]
   refine zay (t:=false) vq0 (fun h=>by cases h) ?_;intro _;refine rqz ?_;intro gd K hgd hK;try simp only[go_sem]
   refine⟨by kernel_rfl,?_⟩;rw[show bdV Tryz.prog 184 [(0,vi 2),(3,.bool wild)]=some (.agg #[vi 2,.slice .none 0 0,.slice .none 0 0,.bool wild,.slice .none 0 0]) from by kernel_rfl];try simp only[go_sem]
   refine zaD (P:=Tryz.prog) (t:=184) (l:=[vi 2,.slice .none 0 0,.slice .none 0 0,.bool wild,.slice .none 0 0]) hC5 rfl (fun v h=>by simp at h;rcases h with rfl|rfl|rfl|rfl|rfl<;>rfl) rfl rfl ?_;intro z hz' hbz hkz;try simp only[go_sem]
   refine en hK ?_;refine zat (.inr rfl) Tryz.ntmps201 rfl (zaI (x:=⟨w.heap.size+1,0,.none⟩) (k:=5) vq0 rfl rfl (zae hbz rfl) zap) ?_;refine⟨Keep.to_ext hEw5 rfl (fun b hb=>by omega) hkz,_,rfl,?_⟩;rw[hat];exact⟨_,_,_,rfl,Rows.nil _ _ _,BlkB.nil,.inr (za7 _),Rows.nil _ _ _,BlkB.nil⟩
def goL(o:Nm)(R:List RecL)(q:Nm):List Nm->Option ResL
 | []=> .none
 |n::l=>if cutP o R n=true then some (zeI R n) else if n.length=q.length then .none else match zaE R q n with
  |some r=>some r
  | .none=>goL o R q l
def za1(o:Nm)(R:List RecL)(q:Nm)(t:Int):ResL:=
 if zaV q o=false then⟨7,[],[],false,[]⟩ else match goL o R q (za8 o q) with
 |some r=>r
 | .none=>if zaK o R q=true then atL R q t false else match zaW o R q with
  |some s=>atL R s t true
  | .none=>⟨3,[],[],false,[]⟩
def passL(o:Nm)(R:List RecL)(q n:Nm):Prop:=cutP o R n=false/\n.length≠q.length/\zaE R q n= .none
theorem ze5{o:Nm}{R:List RecL}{q:Nm}:∀{pre l:List Nm},(∀n∈pre,passL o R q n)->goL o R q (pre++l)=goL o R q l
 | [],_,_=>rfl
 |n::pre,l,h=>by
  obtain⟨h1,h2,h3⟩:=h n (List.mem_cons_self ..);rw[List.cons_append];simp only[goL];rw[h1,if_neg Bool.false_ne_true,if_neg h2,h3];exact ze5 (fun m hm=>h m (List.mem_cons_of_mem _ hm))
theorem zhg{o:Nm}{R:List RecL}{n:Nm}:zfe o R n=0↔zaV n o=false:=by
 unfold zfe;by_cases h:zaV n o=true
 ·rw[if_pos h,h];constructor
  ·intro h2
   split at h2
   ·cases h2
   ·split at h2<;>cases h2
  ·intro h2;cases h2
 ·rw[if_neg h];simp at h;simp[h]
theorem zgd{q:Nm}{k:Nat}(hk:k<=q.length):zaV q (q.drop k)=true:=by
 unfold zaV;rw[Bool.and_eq_true,ydT,ydT];refine⟨by simp,?_⟩;rw[List.length_drop,show q.length - (q.length - k)=k from by omega]
theorem NmM.drop{n:Nm}(h:NmM n)(k:Nat):NmM (n.drop k):=⟨fun l hl=>h.lb l (List.drop_subset _ _ hl),by have:=h.len;simp;omega⟩
theorem Zone_ok{w0 w:World}{ov lv qv:Value}{o q:Nm}{R:List RecL}{t:Int}(hz:ZnAt w0 w ov lv o R)(hR:zdJ R)(hq:Row w qv (q.map vs))(mq:NmM q):
  Fn Tryz.prog 149 #[.agg #[ov,lv],qv,vi t] w (fun v w'=>Ext w w'/\∃cs,v= .agg cs.toArray/\ResB w0 w.heap.size w' cs (za1 o R q t)):=by
 obtain⟨ao,co,hov,_⟩:=id hz.org;obtain⟨al,cl,hlv,_⟩:=hz.recs.open;obtain⟨aq,cq,hqv,_⟩:=id hq;rw[ylm]at hov hqv;rw[hov,hlv,hqv];refine enter Tryz.func149 Tryz.ntmps149 rfl rfl ?_;refine gz0 ?_;rw[←hov,←hlv,←hqv];simp only[zai];refine zcz ?_;intro w1 hE1 hs1 hA hB hC;have d2:=zae (n:=2) (l:=[ov,lv]) hA rfl;have dq:zad w1 (some ⟨w.heap.size+1,0,.none⟩)=some qv:=zab hB rfl;have hz1:=hz.ext hE1;have ql:=mq.len;have hqo:(q.map vs).length=q.length:=ylm ..;refine rq ?_;intro gd K hgd hK;refine sgz (az2 d2 dq) ?_;refine Fn.mono (Where_ok hz1 (hq.ext hE1) mq.s) ?_;rintro _ w2 ⟨rfl,hE2⟩;try simp only[go_sem]
 apply hK;have hEw2:=hE1.trans hE2;have hA2:=hE2.at hA;have hB2:=hE2.at hB;have hC2:=hE2.at hC;have s2:=hE2.size
 -- a result into its variable,and the end
 refine wcz ?_ ?_
 ·intro hw;simp only[ydT]at hw;have hu:=zhg.1 hw;have hlk:za1 o R q t=⟨7,[],[],false,[]⟩:=by unfold za1;rw[if_pos hu]
  refine rqz ?_;intro gd K hgd hK;try simp only[go_sem]
  refine⟨by kernel_rfl,?_⟩;rw[show bdV Tryz.prog 184 [(0,vi 7)]=some (.agg #[vi 7,.slice .none 0 0,.slice .none 0 0,.bool false,.slice .none 0 0]) from by kernel_rfl];try simp only[go_sem]
  refine zaD (P:=Tryz.prog) (t:=184) (l:=[vi 7,.slice .none 0 0,.slice .none 0 0,.bool false,.slice .none 0 0]) hC2 rfl (fun v h=>by simp at h;rcases h with rfl|rfl|rfl|rfl|rfl<;>rfl) rfl rfl ?_;intro z hz' hbz hkz;try simp only[go_sem]
  refine en hK ?_;refine zat (.inr rfl) Tryz.ntmps149 rfl (zaI (x:=⟨w.heap.size+1+1,0,.none⟩) (k:=5) vq0 rfl rfl (zae hbz rfl) zap) ?_;exact⟨Keep.to_ext hEw2 rfl (fun b hb=>by omega) hkz,_,rfl,by rw[hlk];exact⟨_,_,_,rfl,Rows.nil _ _ _,BlkB.nil,.inr (za7 _),Rows.nil _ _ _,BlkB.nil⟩⟩
 intro hw;simp only[ydF]at hw;have hu:zaV q o=true:=by
  cases h:zaV q o with
  |true=>rfl
  |false=>exact absurd (zhg.2 h) hw
 have d2':=zae (n:=2) (l:=[ov,lv]) hA2 rfl;have dq':zad w2 (some ⟨w.heap.size+1,0,.none⟩)=some qv:=zab hB2 rfl;refine rqz ?_;intro gd K hgd hK;refine sgz (az2 d2' dq') ?_;refine Fn.mono (zi0 ⟨_,_,_,hqv⟩) ?_;rintro _ w3 ⟨rfl,hE3,hs3,hbz,hbn⟩;try simp only[go_sem]
 apply hK;have hEw3:=hEw2.trans hE3;have hz3:=hz.ext hEw3;have hq3:=hq.ext hEw3;have hA3:=hE3.at hA2;have hB3:=hE3.at hB2;have hC3:=hE3.at hC2;obtain⟨D,hD⟩:∃D,w3.heap.size=D:=⟨_,rfl⟩;have hdm:∀{x},x∈za8 o q->∃k,k<=q.length/\x=q.drop k:=fun {x} hx=>by
  unfold za8 at hx
  split at hx
  ·obtain⟨i,hi,h⟩:=zbM.1 hx;exact⟨i,by omega,h⟩
  ·cases hx
 repeat refine c_r ?_
 refine zaw (Q:=fun e σ' ds' v'=>((e= .normal\/e= .exit 0)/\ds'=[{target:= .collected w3.heap.size,args:=#[]}]/\v'.heap[w3.heap.size]? =some (.deferred (some []))/\σ' 3= .pointer (some ⟨w.heap.size,0,.none⟩)/\σ' 4= .pointer (some ⟨w.heap.size+1,0,.none⟩)/\σ' 6= .pointer (some ⟨w.heap.size+1+1,0,.none⟩)/\σ' 2=vi t/\Ext w3 v'/\goL o R q (za8 o q)= .none)\/
   (e= .ret/\ds'=[{target:= .collected w3.heap.size,args:=#[]}]/\v'.heap[w3.heap.size]? =some (.deferred (some []))/\σ' 6= .pointer (some ⟨w.heap.size+1+1,0,.none⟩)/\Ext w v'/\∃r cs,goL o R q (za8 o q)=some r/\v'.heap[w.heap.size+1+1]? =some (.cells cs.toArray 184 (0,0))/\ResB w0 (w3.heap.size+2) v' cs r)) ?_ ?_
 ·refine zdW (g:=242) (cap:=#[.pointer (some ⟨w2.heap.size+1,0,.none⟩),.pointer (some ⟨w2.heap.size,0,.none⟩)]) vq0 rfl (zl6 (C:=fun b=>b=w.heap.size+1+1) hbn hbz hq hz3.org (by omega) (by omega) hz.ol (by omega)) (Keep.refl _ _) (ynl _) (fun b hb=>by omega)
   (fun x B args h=>by obtain⟨v,h,_⟩:=h;rw[h];rfl)
   (fun pre B=>Ext w3 B/\∀x∈pre,passL o R q x)
   (fun c pre B=>(c= .exit 0/\Ext w3 B/\∃pre' x,pre=pre'++ [x]/\(∀y∈pre',passL o R q y)/\cutP o R x=false/\x.length=q.length)\/
    (c= .ret/\Ext w B/\∃pre' x r cs,pre=pre'++ [x]/\(∀y∈pre',passL o R q y)/\(∀l,goL o R q (x::l)=some r)/\B.heap[w.heap.size+1+1]? =some (.cells cs.toArray 184 (0,0))/\ResB w0 (w3.heap.size+2) B cs r)) ?_ ?_ ?_ ?_ ?_ ?_
  ·rintro pre B B' ⟨hEB,hp⟩ hk;exact⟨Keep.to_ext hEB rfl (fun b hb=>by unfold two at hb;omega) hk,hp⟩
  ·rintro c pre B B' h hk;rcases h with ⟨rfl,hEB,h⟩| ⟨rfl,hEB,pre',x,r,cs,h1,h2,h3,h4,h5⟩
   ·exact .inl ⟨rfl,Keep.to_ext hEB rfl (fun b hb=>by unfold two at hb;omega) hk,h⟩
   ·exact .inr ⟨rfl,Keep.to_ext hEB rfl (fun b hb=>by unfold two at hb;omega) hk,pre',x,r,cs,h1,h2,h3,(hk.block _ (Array.getElem?_eq_some_iff.1 h4).1 (by unfold two;omega)).trans h4,h5.keep hk (fun b hb _=>by unfold two;omega)⟩
  ·exact⟨Keep.refl _ _,fun x h=>absurd h (by simp)⟩
  ·rintro lp pre x suf B args hxs hszB ⟨hEB,hp⟩ ⟨xv,rfl,hxr⟩;obtain⟨kx,hkx,hxk⟩:=hdm (x:=x) (by rw[hxs];simp);have mx:NmM x:=hxk▸mq.drop kx;have hux:zaV q x=true:=by rw[hxk];exact zgd hkx
   have hxl:=mx.len;obtain⟨ax,cx,hxv,_⟩:=id hxr;rw[ylm]at hxv;have hol:=hz.ol;refine rq ?_;intro gd K hgd hK;try simp only[go_sem]
   apply hK;refine zas ?_;refine⟨rfl,KeepB.refl _ _ _,fun Y hY=>?_⟩;have hEY:Ext w3 Y:=Keep.to_ext hEB rfl (fun b hb=>by unfold two at hb;omega) hY;have hzY:=hz3.ext hEY;have p0:zad Y (some ⟨w.heap.size,0,.none⟩)=some ov:=zab (hEY.at hA3) rfl;have d2:=zae (n:=2) (l:=[ov,lv]) (hEY.at hA3) rfl;have dq:zad Y (some ⟨w.heap.size+1,0,.none⟩)=some qv:=zab (hEY.at hB3) rfl;have hYs:=hY.size;have hxY:Row Y xv (x.map vs):=hxr.ext (hEw3.trans hEY);have hqY:=hq3.ext hEY;have hCY:=hEY.at hC3;rw[hov]at p0;repeat refine c_r ?_
   refine zaw (Q:=fun e σ' ds' v'=>e= .normal/\ds'=[]/\σ' 7=xv/\σ' 3= .pointer (some ⟨w.heap.size,0,.none⟩)/\σ' 4= .pointer (some ⟨w.heap.size+1,0,.none⟩)/\σ' 6= .pointer (some ⟨w.heap.size+1+1,0,.none⟩)/\Ext Y v'/\σ' 31= .bool (cutP o R x)) ?_ ?_
   ·by_cases hl:(o.length:Int)<(x.length:Int)
    ·refine rq ?_;intro gd K hgd hK;have hg6:=gk 6 27 hgd rfl;try simp (disch:=first|omega|assumption|rfl) only[go_sem,hxv,p0,d2,yet hl,Nat.add_zero,↓hg6]
     rw[←hxv];refine Fn.mono (Has_ok hzY hxY mx.s) ?_;rintro _ Y2 ⟨rfl,hY2⟩;try simp only[go_sem]
     apply hK;refine⟨rfl,rfl,vq0,vq0,vq0,vq0,hY2,?_⟩;unfold cutP hasL;rw[show decide (o.length<x.length)=true from yet (by omega),Bool.true_and];simp only[go_sem]
    ·refine rq ?_;intro gd K hgd hK;have hg6:=gk 6 27 hgd rfl;try simp (disch:=first|omega|assumption|rfl) only[go_sem,hxv,p0,yef hl,Nat.add_zero,↓hg6]
     rw[←hxv];apply hK;refine⟨rfl,rfl,vq0,vq0,vq0,vq0,Keep.refl _ _,?_⟩;unfold cutP hasL;rw[show decide (o.length<x.length)=false from yef (by omega),Bool.false_and];simp only[go_sem]
   rintro _ σ1 _ Y1 ⟨rfl,rfl,h7,h3,h4,h6,hY1,h31⟩;have hEY1:=hEY.trans hY1;have hY1s:=hY1.size;repeat refine c_r ?_
   refine zay (t:=cutP o R x) ((vq1 h31)) ?_ ?_
   ·intro ht;have d2':=zac hY1 d2;refine rqz ?_;intro gd K hgd hK;refine sgz (az3 h3 h7 d2') ?_;refine Fn.mono (Refer_ok (hzY.ext hY1) hR (hxY.ext hY1) mx.s) ?_;rintro _ Y2 ⟨hY2,cs,rfl,hres⟩;refine sgz h6 ?_;have hY2s:=hY2.size;refine zaD (P:=Tryz.prog) (t:=184) (l:=cs) (Ext.at (hY1.trans hY2) hCY) hres.cells.1 hres.cells.2 (by rw[hres.cells.1];rfl) rfl ?_;intro z hz' hbz2 hkz;try simp only[go_sem]
    refine en hK ?_;exact⟨.inr ⟨rfl,Keep.to_ext (hEw3.trans (hEY1.trans hY2)) rfl (fun b hb=>by omega) hkz,pre,x,zeI R x,cs,rfl,hp,fun l=>by simp only[goL];rw[if_pos ht],hbz2,(hres.keep hkz (fun b hb _=>by omega)).mono (by omega)⟩,((hY1.trans hY2).toB (by omega) (fun _ _ h=>h.elim)).trans (hkz.toB (by omega) (fun i _ h=>h))⟩
   intro ht;have dq':=zaa hY1 dq;rw[hqv]at dq';refine gz (az4 h7 h4 hxv dq') ?_;refine wc0 ?_ ?_
   ·intro hl;simp only[ydT]at hl;repeat refine c_r ?_
    exact⟨.inl ⟨rfl,hEY1,pre,x,rfl,hp,ht,by omega⟩,hY1.toB (by omega) (fun _ _ h=>h.elim)⟩
   intro hl;simp only[ydF]at hl;have d2':=zac hY1 d2;have dq'':=zaa hY1 dq;refine rqz ?_;intro gd K hgd hK;refine sgz (az5 h3 h4 h7 d2' dq'') ?_;refine Fn.mono (zku (hzY.ext hY1) hR (hqY.ext hY1) (hxY.ext hY1) mq mx hux) ?_;rintro _ Y2 ⟨hY2,cs,rfl,hres⟩;try simp only[go_sem]
   have hB8:=zau Y2 (.cells #[vi 0,.slice .none 0 0,.slice .none 0 0,.bool false,.slice .none 0 0] 184 (0,0));have hE8:=Ext.alloc Y2 (.cells #[vi 0,.slice .none 0 0,.slice .none 0 0,.bool false,.slice .none 0 0] 184 (0,0));have hs8:=zai Y2 (.cells #[vi 0,.slice .none 0 0,.slice .none 0 0,.bool false,.slice .none 0 0] 184 (0,0));revert hB8 hE8 hs8;generalize Y2.alloc (.cells #[vi 0,.slice .none 0 0,.slice .none 0 0,.bool false,.slice .none 0 0] 184 (0,0))=Y3;intro hB8 hE8 hs8;refine zaD (P:=Tryz.prog) (t:=184) (l:=cs) hB8 hres.cells.1 hres.cells.2 (by rw[hres.cells.1];rfl) rfl ?_;intro Y4 hs9 hB9 hk9;try simp only[go_sem]
   apply hK;have hE24:Ext Y2 Y4:=Keep.to_ext hE8 rfl (fun b hb=>by omega) hk9;have hY4:=hY2.trans hE24;have hY4s:=hY4.size;have hres4:=hres.keep hE24 (fun b hb _ h=>h);have d9:=zae (n:=5) hB9 hres.cells.1.symm;refine gz0 ?_;refine zay (t:=(zaE R q x).isSome) vq0 ?_ ?_
   ·intro hs;obtain⟨r,hr⟩:=yxs hs;rw[hr]at hres4;refine rqz ?_;intro gd K hgd hK;refine sgz (az2 d9 h6) ?_;refine zaD (P:=Tryz.prog) (t:=184) (l:=cs) (Ext.at (hY1.trans hY4) hCY) hres.cells.1 hres.cells.2 (by rw[hres.cells.1];rfl) rfl ?_;intro z hz' hbz2 hkz;try simp only[go_sem]
    refine en hK ?_;exact⟨.inr ⟨rfl,Keep.to_ext (hEw3.trans (hEY1.trans hY4)) rfl (fun b hb=>by omega) hkz,pre,x,r,cs,rfl,hp,fun l=>by simp only[goL];rw[ht,if_neg Bool.false_ne_true,if_neg (by omega),hr],hbz2,(hres4.keep hkz (fun b hb _=>by omega)).mono (by omega)⟩,((hY1.trans hY4).toB (by omega) (fun _ _ h=>h.elim)).trans (hkz.toB (by omega) (fun i _ h=>h))⟩
   ·intro hs;have hnone:zaE R q x= .none:=by simpa using hs
    repeat refine c_r ?_
    refine⟨⟨hEY1.trans hY4,fun y hy=>?_⟩,(hY1.trans hY4).toB (by omega) (fun _ _ h=>h.elim)⟩;rcases List.mem_append.1 hy with hy|hy
    ·exact hp y hy
    ·rw[List.mem_singleton.1 hy];exact⟨ht,by omega,hnone⟩
  ·intro B hszB ⟨hEB,hp⟩ hDB;refine .inl ⟨.inl rfl,rfl,hDB,vq0,vq0,vq0,vq0,hEB,?_⟩;have:=ze5 (l:=[]) hp;rw[List.append_nil]at this;rw[this];rfl
  ·rintro c pre x0 suf B hszB hxs h hDB;rcases h with ⟨rfl,hEB,pre',x,hpre,h1,h2,h3⟩| ⟨rfl,hEB,pre',x,r,cs,hpre,h1,h2,h3,h4⟩
   ·obtain⟨rfl,h5⟩:=List.append_inj' hpre rfl;have hx0:x0=x:=by simpa using h5
    subst hx0;refine zfY ?_;refine .inl ⟨.inr rfl,rfl,hDB,vq0,vq0,vq0,vq0,hEB,?_⟩;rw[hxs,ze5 h1];simp only[goL];rw[h2,if_neg Bool.false_ne_true,if_pos h3]
   ·obtain⟨rfl,h5⟩:=List.append_inj' hpre rfl;have hx0:x0=x:=by simpa using h5
    subst hx0;refine zks ?_;refine .inr ⟨rfl,rfl,hDB,vq0,hEB,r,cs,?_,h3,h4⟩;rw[hxs,ze5 h1,h2]
 ·intro e σ1 ds1 v1 hcase;rcases hcase with ⟨he,rfl,hDv,h3,h4,h6,h2,hEv,hgo⟩| ⟨rfl,rfl,hDv,h6,hEv,r,cs,hgo,hbv,hres⟩
  ·refine zej he ?_;have hlk:za1 o R q t=if zaK o R q=true then atL R q t false else match zaW o R q with
     |some s=>atL R s t true
     | .none=>⟨3,[],[],false,[]⟩:=by
    unfold za1;rw[if_neg (by rw[hu];decide),hgo]
   have hEwv:=hEw3.trans hEv;have hzv:=hz3.ext hEv;have hqv':=hq3.ext hEv;have hCv:=Ext.at hEv hC3;have d2v:=zae (n:=2) (l:=[ov,lv]) (Ext.at hEv hA3) rfl;have dqv:zad v1 (some ⟨w.heap.size+1,0,.none⟩)=some qv:=zab (Ext.at hEv hB3) rfl;have hvs:=hEv.size;have hDlt:w3.heap.size<v1.heap.size:=(Array.getElem?_eq_some_iff.1 hDv).1
   -- a result laid into its variable,and the end
   have fin:∀{Y z:World} {cs:List Value} {r:ResL} {σ':Sto},Ext v1 Y->ResB w0 v1.heap.size Y cs r->r=za1 o R q t->z.heap.size=Y.heap.size->z.heap[w.heap.size+1+1]? =some (.cells cs.toArray 184 (0,0))->Keep (fun i=>i=w.heap.size+1+1) Y z->σ' 6= .pointer (some ⟨w.heap.size+1+1,0,.none⟩)->
     z.heap[w3.heap.size]? =some (.deferred (some []))/\∀Z,Keep (fun b=>b=w3.heap.size) z Z->Z.heap.size=z.heap.size->∃rs,resV Tryz.prog 68 σ' Z [.cell 6 184]=some rs/\(Ext w Z/\∃cs,resT rs= .agg cs.toArray/\ResB w0 w.heap.size Z cs (za1 o R q t)):=fun {Y z cs r σ'} hY hres hr hzs hbz hkz h6'=>by
    have hYs:=hY.size;refine⟨(hkz.block _ (by omega) (by omega)).trans (Ext.at hY hDv),fun Z hkZ hsZ=>⟨_,zaI (x:=⟨w.heap.size+1+1,0,.none⟩) (k:=5) ((vq1 h6')) rfl rfl (zae ((hkZ.block _ (by omega) (by omega)).trans hbz) hres.cells.1.symm) zap,?_,_,rfl,?_⟩⟩
    ·exact Keep.to_ext (Keep.to_ext (hEwv.trans hY) rfl (fun b hb=>by omega) hkz) rfl (fun b hb=>by omega) hkZ
    ·rw[←hr];exact(((hres.keep hkz (fun b hb _=>by omega)).keep hkZ (fun b hb _=>by omega))).mono (by omega)
   refine rqz ?_;intro gd K hgd hK;refine sgz (az4 h3 h4 d2v dqv) ?_;refine Fn.mono (zij hzv hqv' mq.s) ?_;rintro _ Y1 ⟨rfl,hY1⟩;try simp only[go_sem]
   apply hK;have hzY1:=hzv.ext hY1;have d2y:=zac hY1 d2v;have dqy:=zaa hY1 dqv;have hY1s:=hY1.size;repeat refine c_r ?_
   refine zay (t:=zaK o R q) vq0 ?_ ?_
   ·intro hex;rw[hex,if_pos rfl]at hlk;refine rqz ?_;intro gd K hgd hK;refine sgz (az5 h3 h4 h2 d2y dqy) ?_;refine Fn.mono (At_ok hzY1 hR (hqv'.ext hY1) mq.s) ?_;rintro _ Y2 ⟨hY2,cs,rfl,hres⟩;refine sgz h6 ?_;have hY2s:=hY2.size;refine zaD (P:=Tryz.prog) (t:=184) (l:=cs) (Ext.at (hY1.trans hY2) hCv) hres.cells.1 hres.cells.2 (by rw[hres.cells.1];rfl) rfl ?_;intro z hz' hbz2 hkz;try simp only[go_sem]
    refine en hK ?_;obtain⟨f1,f2⟩:=fin (hY1.trans hY2) (hres.mono hY1s) hlk.symm hz' hbz2 hkz h6;refine zbz (.inr rfl) Tryz.ntmps149 rfl f1 ?_;intro Z hkZ hsZ;exact f2 Z hkZ hsZ
   intro hex;rw[hex,if_neg Bool.false_ne_true]at hlk;refine rqz ?_;intro gd K hgd hK;refine sgz (az4 h3 h4 d2y dqy) ?_;refine Fn.mono (zmm hzY1 (hqv'.ext hY1) mq.s ql) ?_;rintro _ Y2 ⟨hY2,sv,rfl,hsv⟩;try simp only[go_sem]
   apply hK;have hY2s:=hY2.size;have hzY2:=hzY1.ext hY2;have d2z:=zac hY2 d2y;have dqz:=zaa hY2 dqy;refine gz0 ?_;refine zay (t:=(zaW o R q).isSome) vq0 ?_ ?_
   ·intro hs;obtain⟨s0,hs0⟩:=yxs hs;rw[hs0]at hlk hsv;have hsn:s0=zbt o R q:=by
     unfold zaW at hs0
     split at hs0
     ·exact(Option.some.inj hs0).symm
     ·cases hs0
    have hss:NmS s0:=by rw[hsn];exact zir mq.s ql
    refine rqz ?_;intro gd K hgd hK;refine sgz (az3 h3 h2 d2z) ?_;refine Fn.mono (At_ok hzY2 hR hsv hss) ?_;rintro _ Y3 ⟨hY3,cs,rfl,hres⟩;refine sgz h6 ?_;have hY3s:=hY3.size;refine zaD (P:=Tryz.prog) (t:=184) (l:=cs) (Ext.at ((hY1.trans hY2).trans hY3) hCv) hres.cells.1 hres.cells.2 (by rw[hres.cells.1];rfl) rfl ?_;intro z hz' hbz2 hkz;try simp only[go_sem]
    refine en hK ?_;obtain⟨f1,f2⟩:=fin ((hY1.trans hY2).trans hY3) (hres.mono (by omega)) hlk.symm hz' hbz2 hkz h6;refine zbz (.inr rfl) Tryz.ntmps149 rfl f1 ?_;intro Z hkZ hsZ;exact f2 Z hkZ hsZ
   ·intro hs;have hs0:zaW o R q= .none:=by simpa using hs
    rw[hs0]at hlk;refine rqz ?_;intro gd K hgd hK;refine sgz h6 ?_;refine⟨by kernel_rfl,?_⟩;rw[show bdV Tryz.prog 184 [(0,vi 3)]=some (.agg #[vi 3,.slice .none 0 0,.slice .none 0 0,.bool false,.slice .none 0 0]) from by kernel_rfl];refine sgz h6 ?_;refine zaD (P:=Tryz.prog) (t:=184) (l:=[vi 3,.slice .none 0 0,.slice .none 0 0,.bool false,.slice .none 0 0]) (Ext.at (hY1.trans hY2) hCv) rfl (fun v h=>by simp at h;rcases h with rfl|rfl|rfl|rfl|rfl<;>rfl) rfl rfl ?_;intro z hz' hbz2 hkz;try simp only[go_sem]
    refine en hK ?_;obtain⟨f1,f2⟩:=fin (r:=⟨3,[],[],false,[]⟩) (hY1.trans hY2) ⟨_,_,_,rfl,Rows.nil _ _ _,BlkB.nil,.inr (za7 _),Rows.nil _ _ _,BlkB.nil⟩ hlk.symm hz' hbz2 hkz h6;refine zbz (.inr rfl) Tryz.ntmps149 rfl f1 ?_;intro Z hkZ hsZ;exact f2 Z hkZ hsZ
  ·have hlk:za1 o R q t=r:=by
    unfold za1;rw[if_neg (by rw[hu];decide),hgo]
   have hDlt:w3.heap.size<v1.heap.size:=(Array.getElem?_eq_some_iff.1 hDv).1;repeat refine c_r ?_
   refine zbz (.inr rfl) Tryz.ntmps149 rfl hDv ?_;intro Z hkZ hsZ;refine⟨_,zaI (x:=⟨w.heap.size+1+1,0,.none⟩) (k:=5) ((vq1 h6)) rfl rfl (zae ((hkZ.block _ (by have:=hE3.size;omega) (by omega)).trans hbv) hres.cells.1.symm) zap,Keep.to_ext hEv rfl (fun b hb=>by omega) hkZ,_,rfl,?_⟩;rw[hlk];exact(hres.keep hkZ (fun b hb _=>by omega)).mono (by omega)
def zb0(R:List RecL)(G:List (Nm×List DatL))(h:Nm):List (Nm×List DatL):=
 if (G.any fun x=>decide (zaL x.1=zaL h))=false/\zbe R h≠ [] then G++ [(h,zbe R h)] else G
def zfE(R:List RecL)(hs:List Nm):List (Nm×List DatL):=hs.foldl (zb0 R) []
theorem ze3{R:List RecL}:∀(hs:List Nm) (G:List (Nm×List DatL)) (had:List (List UInt8)),(∀h∈hs,NmG h)->(∀x∈G,zaL x.1∈had)->(∀h,NmG h->zaL h∈had->zbe R h≠ []->(G.any fun x=>decide (zaL x.1=zaL h))=true)->
  hs.foldl (zb0 R) G=G++zbA R (zaZ had hs)
 | [],G,had,_,_,_=>by simp[zaZ,zbA]
 |h::hs,G,had,hg,ha,hb=>by
  have h1:=hg h (List.mem_cons_self ..);have hg':=fun x hx=>hg x (List.mem_cons_of_mem _ hx);rw[List.foldl_cons];by_cases hc:zaL h∈had
  ·have e:zaZ had (h::hs)=zaZ had hs:=by
    rw[zaZ,if_pos (by simpa using hc)]
   rw[e];have e2:zb0 R G h=G:=by
    unfold zb0;rw[if_neg];rintro⟨h2,h3⟩;rw[hb h h1 hc h3]at h2;cases h2
   rw[e2];exact ze3 hs G had hg' ha hb
  ·have e:zaZ had (h::hs)=h::zaZ (zaL h::had) hs:=by
    rw[zaZ,if_neg (by simpa using hc)]
   rw[e];have hno:(G.any fun x=>decide (zaL x.1=zaL h))=false:=by
    rw[List.any_eq_false];intro x hx h2;rw[ydT]at h2;exact hc (h2▸ha x hx)
   by_cases hgl:zbe R h=[]
   ·have e2:zb0 R G h=G:=by
     unfold zb0;rw[if_neg (fun h=>h.2 hgl)]
    have e3:zbA R (h::zaZ (zaL h::had) hs)=zbA R (zaZ (zaL h::had) hs):=by
     unfold zbA;simp[hgl]
    rw[e2,e3];refine ze3 hs G (zaL h::had) hg' (fun x hx=>List.mem_cons_of_mem _ (ha x hx)) (fun k hk hm hne=>?_);rcases List.mem_cons.1 hm with h2|h2
    ·have:=zkG hk.ne h1.ne h2;rw[this]at hne;exact absurd hgl hne
    ·exact hb k hk h2 hne
   ·have e2:zb0 R G h=G++ [(h,zbe R h)]:=by
     unfold zb0;rw[if_pos ⟨hno,hgl⟩]
    have e3:zbA R (h::zaZ (zaL h::had) hs)=(h,zbe R h)::zbA R (zaZ (zaL h::had) hs):=by
     unfold zbA;simp[hgl]
    rw[e2,e3,ze3 hs (G++ [(h,zbe R h)]) (zaL h::had) hg' ?_ ?_]
    ·simp
    ·intro x hx;rcases List.mem_append.1 hx with hx|hx
     ·exact List.mem_cons_of_mem _ (ha x hx)
     ·rw[List.mem_singleton.1 hx];exact List.mem_cons_self ..
    ·intro k hk hm hne;rw[List.any_append];rcases List.mem_cons.1 hm with h2|h2
     ·rw[Bool.or_eq_true];right;simp[h2]
     ·rw[hb k hk h2 hne,Bool.true_or]
theorem hints_is{R:List RecL}{hs:List Nm}(h:∀x∈hs,NmG x):zfE R hs=zbA R (zaZ [] hs):=by
 unfold zfE;rw[ze3 hs [] [] h (fun x hx=>by cases hx) (fun k _ hm=>by cases hm)];rfl
theorem ziC(R:List RecL)(hs:List Nm)(h:Nm):zfE R (hs++ [h])=zb0 R (zfE R hs) h:=by
 unfold zfE;rw[List.foldl_append];rfl
structure HI(w0:World)(B:Nat)(A:World)(gv:Value)(G:List GlX):Prop where
 own:Owns 2 glC B A 312 gv G
 row:∀x∈G,Row w0 x.2.1 (x.1.1.map vs)/\Rows 5 (DatAt w0) A x.2.2 x.1.2/\BlkB B A x.2.2/\∀a n c,x.2.2= .slice (some a) n c->some a.block≠gv.ownBlock
 nm:∀x∈G,NmG x.1.1
theorem HI.ext{w0 A A':World}{B:Nat}{gv:Value}{G:List GlX}(h:HI w0 B A gv G)(hE:Ext A A'):HI w0 B A' gv G:=
 ⟨h.own.ext hE,fun x hx=>by
  obtain⟨h1,h2,h3,h4⟩:=h.row x hx;exact⟨h1,h2.ext hE,h3.ext hE.size,h4⟩,h.nm⟩
theorem HI.app{w0 A A':World}{B:Nat}{gv v':Value}{G:List GlX}{s:GlX}(h:HI w0 B A gv G)(hs:Row w0 s.2.1 (s.1.1.map vs)/\Rows 5 (DatAt w0) A s.2.2 s.1.2/\BlkB B A s.2.2/\∀a n c,s.2.2= .slice (some a) n c->some a.block≠gv.ownBlock)
  (hnm:NmG s.1.1) (ho:Owns 2 glC B A' 312 v' (G++ [s])) (hk:Keep (fun b=>some b=gv.ownBlock) A A') (hb:∀b,some b=v'.ownBlock->some b=gv.ownBlock\/A.heap.size<=b):HI w0 B A' v' (G++ [s]):=by
 refine⟨ho,fun y hy=>?_,fun y hy=>?_⟩
 ·have hy2:Row w0 y.2.1 (y.1.1.map vs)/\Rows 5 (DatAt w0) A y.2.2 y.1.2/\BlkB B A y.2.2/\∀a n c,y.2.2= .slice (some a) n c->some a.block≠gv.ownBlock:=by
   rcases List.mem_append.1 hy with hy|hy
   ·exact h.row y hy
   ·rw[List.mem_singleton.1 hy];exact hs
  obtain⟨h1,h2,h3,h4⟩:=hy2;refine⟨h1,h2.blocks fun a n c hv=>hk.block _ (h3 a n c hv).2 (h4 a n c hv),h3.ext hk.size,fun a n c hv e=>?_⟩;rcases hb _ e with e|e
  ·exact h4 a n c hv e
  ·have:=(h3 a n c hv).2;omega
 ·rcases List.mem_append.1 hy with hy|hy
  ·exact h.nm y hy
  ·rw[List.mem_singleton.1 hy];exact hnm
theorem zmt{w0 w:World}{ov lv dv:Value}{o:Nm}{R:List RecL}{D:List DatL}(hz:ZnAt w0 w ov lv o R)(hs:zdX R)(hd:Rows 5 (DatAt w0) w dv D)(hD:∀d∈D,∃h t,d.names=h::t/\NmG h)(hDl:D.length<=1000000000):
  Fn Tryz.prog 231 #[.agg #[ov,lv],dv] w (fun v w'=>Ext w w'/\Rows 2 (GlB w0 w.heap.size w') w' v (zbA R (zbo 2 D))/\BlkB w.heap.size w' v):=by
 obtain⟨ao,co,hov,_⟩:=id hz.org;obtain⟨al,cl,hlv,_⟩:=hz.recs.open;obtain⟨aD,cD,rfl,hcD,hgD⟩:=hd.open;rw[hov,hlv];refine enter Tryz.func231 Tryz.ntmps231 rfl rfl ?_;refine gz0 ?_;rw[←hov,←hlv];refine zax ?_;intro w1 hE1 hs1 hA;have d2:=zae (n:=2) (l:=[ov,lv]) hA rfl;have s1:=hE1.size;refine gz0 ?_;refine zao (fun m σ ds A=>ds=[]/\∃(i:Nat) (gv:Value) (G:List GlX),i+m=D.length/\σ 6=vi i/\σ 5=gv/\σ 1= .slice aD D.length cD/\σ 2= .pointer (some ⟨w.heap.size,0,.none⟩)/\Ext w1 A/\HI w0 w1.heap.size A gv G/\G.length<=i/\G.map Prod.fst=zfE R ((D.take i).filterMap fun d=>d.names.head?)) D.length ?_ ?_
 ·exact⟨rfl,0,.slice .none 0 0,[],by omega,vr0,vq0,vq0,vq0,Keep.refl _ _,⟨Owns.nil _ _ _ _ _,fun x h=>absurd h (by simp),fun x h=>absurd h (by simp)⟩,ynl _,rfl⟩
 rintro m σ ds A ⟨rfl,i,gv,G,him,h6,h5,h1,h2,hEA,hHI,hGl,hGm⟩;have hwA:=hE1.trans hEA;refine gz (az2 h6 h1) ?_;refine wc0 ?_ ?_
 ·intro hlt;simp only[ydT]at hlt;have hi:i<D.length:=by omega
  have hi0:=cj i;have hi1:(i:Int)<(D.length:Int):=by omega
  have hi1':=ci i;obtain⟨cd,hcd,hDd⟩:=hgD i hi;obtain⟨d,hdd⟩:∃d,D[i]=d:=⟨_,rfl⟩;rw[hdd]at hDd;obtain⟨h,tl,hnames,hNm⟩:=hD d (hdd▸List.getElem_mem hi);obtain⟨xD,rfl⟩:=yxs (zak hcd);obtain⟨xi,hxi⟩:∃xi,adr (some xD) (i*5)=some xi:=⟨_,rfl⟩;rw[hxi]at hcd;have hcdA:=zac hwA hcd;obtain⟨nm,nu,tx,rw',hcs,n1,_⟩:=hDd.ex;obtain⟨vals,⟨an,cn,rfl,hcn,hgn⟩,hvl,hvr⟩:=n1;have hvl1:0<vals.length:=by rw[hvl,hnames];simp
  obtain⟨xN,rfl⟩:=yxs (zag (hgn 0 hvl1));have e1:zad A (adr (some xi) 1)=some (.slice (some xN) vals.length cn):=zah hcdA (j:=1) (by rw[hcs];rfl);have e2:zad A (some xN)=some (vals[0]'hvl1):=by
   have:=zaa (hz.e0.trans hwA) (hgn 0 hvl1)
   rwa [zaj]at this
  obtain⟨hv,hhv⟩:∃hv,vals[0]'hvl1=hv:=⟨_,rfl⟩;have hrow:Row w0 hv (h.map vs):=by
   have:=hvr 0 hvl1 (by rw[hnames];simp);rw[hhv]at this;simpa [hnames] using this
  rw[hhv]at e2;have htk:((D.take (i+1)).filterMap fun d=>d.names.head?)=((D.take i).filterMap fun d=>d.names.head?)++ [h]:=by
   rw[zal hi,hdd,List.filterMap_append];simp[hnames]
  have hv0:(0:Int)<(vals.length:Int):=by omega
  have hz0:(0:Int)<=0:=by omega
  refine rqz ?_;intro gd K hgd hK;simp (disch:=first|omega|assumption|rfl) only[go_sem,h1,h6,hi0,hi1,hxi,e1,e2,hv0,hz0,zaj,Nat.zero_mul,Int.toNat_zero];refine hK _ _ ?_;clear hK hgd;clear K gd;refine gz0 ?_;have hGb:G.length<=1000000000:=by omega
  refine zaw (Q:=fun e σ' ds' v'=>e= .exit 2/\ds'=[]/\σ' 7=hv/\σ' 6=vi i/\σ' 5=gv/\σ' 1= .slice (some xD) D.length cD/\σ' 2= .pointer (some ⟨w.heap.size,0,.none⟩)/\Ext A v'/\σ' 8= .bool (G.any fun x=>decide (zaL x.1.1=zaL h))) ?_ ?_
  ·refine zao (fun m2 σ ds v=>ds=[]/\∃(j:Nat),j+m2=G.length/\σ 9=vi j/\σ 8= .bool ((G.take j).any fun x=>decide (zaL x.1.1=zaL h))/\σ 7=hv/\σ 6=vi i/\σ 5=gv/\σ 1= .slice (some xD) D.length cD/\σ 2= .pointer (some ⟨w.heap.size,0,.none⟩)/\Ext A v) G.length ?_ ?_
   ·exact⟨rfl,0,by omega,vr0,vr0,vq0,vq1 h6,vq1 h5,vq1 h1,vq1 h2,Keep.refl _ _⟩
   clear h6 h5 h1 h2;rintro m2 σ2 ds2 V ⟨rfl,j,hjm,h9,h8,h7,h6,h5,h1,h2,hV⟩;obtain⟨ag,cg,hgv,hcg,hgG⟩:=hHI.own.rows.open;refine gz (az3 h9 h5 hgv) ?_;refine wc0 ?_ ?_
   ·intro hlt2;simp only[ydT]at hlt2;have hj:j<G.length:=by omega
    have hj0:=cj j;have hj1:(j:Int)<(G.length:Int):=by omega
    have hj1':=ci j;obtain⟨cj,hcj,hCj⟩:=hgG j hj;obtain⟨xG,rfl⟩:=yxs (zak hcj);obtain⟨yi,hyi⟩:∃yi,adr (some xG) (j*2)=some yi:=⟨_,rfl⟩;rw[hyi,hCj.1]at hcj;obtain⟨r1,r2,r3,r4⟩:=hHI.row G[j] (List.getElem_mem hj);have hNj:=hHI.nm G[j] (List.getElem_mem hj);have y0:zad V (some yi)=some G[j].2.1:=by
     have:=zah (zac hV hcj) (j:=0) rfl
     rwa [zaj]at this
    obtain⟨bb,hbb⟩:∃bb,((G.take j).any fun x=>decide (zaL x.1.1=zaL h))=bb:=⟨_,rfl⟩;have htj:((G.take (j+1)).any fun x=>decide (zaL x.1.1=zaL h))=(bb||decide (zaL G[j].1.1=zaL h)):=by
     rw[zal hj,List.any_append,hbb];simp
    rw[hbb]at h8;have hw0V:=hz.e0.trans (hwA.trans hV);cases bb with
    |true=>
     refine rqz ?_;intro gd K hgd hK;have hg1:=gk 1 31 hgd rfl;try simp (disch:=first|omega|assumption|rfl) only[go_sem,h8,h5,h9,h7,↓hg1]
     apply hK;refine gz (az2 h9 hj1') ?_;exact⟨m2 - 1,by omega,rfl,j+1,by omega,vq0,by rw[htj,Bool.true_or];simp only[go_sem],vq1 h7,vq1 h6,vq1 h5,vq1 h1,vq1 h2,hV⟩
    |false=>
     refine rqz ?_;intro gd K hgd hK;have hg1:=gk 1 31 hgd rfl;try simp (disch:=first|omega|assumption|rfl) only[go_sem,h8,h5,hgv,h9,h7,hj0,hj1,hyi,y0,zaj,↓hg1]
     refine Fn.mono (zb9 V _ _ (r1.ext hw0V) hNj.lb hNj.len) ?_;rintro _ V1 ⟨rfl,hV1⟩;try simp (disch:=first|omega|assumption|rfl) only[go_sem,h7,↓hg1]
     refine Fn.mono (zb9 V1 _ _ (hrow.ext (hw0V.trans hV1)) hNm.lb hNm.len) ?_;rintro _ V2 ⟨rfl,hV2⟩;try simp (disch:=first|omega|assumption|rfl) only[go_sem,↓hg1]
     apply hK;refine gz (az2 h9 hj1') ?_;exact⟨m2 - 1,by omega,rfl,j+1,by omega,vq0,by rw[htj,Bool.false_or];first| (simp only[go_sem];done)| (simp only[go_sem];rfl),vq1 h7,vq1 h6,vq1 h5,vq1 h1,vq1 h2,(hV.trans hV1).trans hV2⟩
   ·intro hge2;simp only[ydF]at hge2;have hj:j=G.length:=by omega
    rw[hj,List.take_length]at h8;repeat refine c_r ?_
    exact⟨rfl,rfl,vq1 h7,vq1 h6,vq1 h5,vq1 h1,vq1 h2,hV,vq1 h8⟩
  clear h6 h5 h1 h2;rintro _ σ1 _ A1 ⟨rfl,rfl,h7,h6,h5,h1,h2,hA1,h8⟩;have hwA1:=hwA.trans hA1;have hHI1:=hHI.ext hA1;obtain⟨bb,hbb⟩:∃bb,(G.any fun x=>decide (zaL x.1.1=zaL h))=bb:=⟨_,rfl⟩;have hbb':((G.map Prod.fst).any fun x=>decide (zaL x.1=zaL h))=bb:=by rw[List.any_map];exact hbb
  rw[hbb]at h8;have d2A:=zac (hEA.trans hA1) d2;refine rqz ?_;intro gd K hgd hK;refine sgz (az3 h2 h7 d2A) ?_;refine Fn.mono (RGlue_ok (hz.ext hwA1) hs (hrow.ext (hz.e0.trans hwA1)) (fun l hl=>by have:=hNm.lb l hl;omega) (by have:=hNm.len;omega)) ?_;rintro gl A2 ⟨hA2,hgl,hglb⟩;try simp only[go_sem]
  apply hK;obtain⟨al2,cl2,hgle,_⟩:=hgl.open;have hwA2:=hwA1.trans hA2;have hHI2:=hHI1.ext hA2;have hgll:(zbe R h).length<=100000000000:=by
   have l1:=zbg (R:=R) (n:=h) (t:=1);have l28:=zbg (R:=R) (n:=h) (t:=28);have:=hz.rl;unfold zbe;rw[List.length_append];omega
  have hstep:zfE R ((D.take (i+1)).filterMap fun d=>d.names.head?)=if bb=false/\zbe R h≠ [] then G.map Prod.fst++ [(h,zbe R h)] else G.map Prod.fst:=by
   rw[htk,ziC,←hGm];unfold zb0;rw[hbb']
  repeat refine c_r ?_
  refine zaw (Q:=fun e σ' ds' v'=>e= .normal/\ds'=[]/\σ' 10=gl/\σ' 7=hv/\σ' 6=vi i/\σ' 5=gv/\σ' 1= .slice (some xD) D.length cD/\σ' 2= .pointer (some ⟨w.heap.size,0,.none⟩)/\v'=A2/\σ' 51= .bool (!bb && decide (0<((zbe R h).length:Int)))) ?_ ?_
  ·cases bb with
   |true=>
    refine rq ?_;intro gd K hgd hK;have hg2:=gk 2 47 hgd rfl;try simp (disch:=first|omega|assumption|rfl) only[go_sem,h8,↓hg2]
    apply hK;exact⟨rfl,rfl,vq0,vq1 h7,vq1 h6,vq1 h5,vq1 h1,vq1 h2,rfl,vr0⟩
   |false=>
    refine rq ?_;intro gd K hgd hK;have hg2:=gk 2 47 hgd rfl;try simp (disch:=first|omega|assumption|rfl) only[go_sem,h8,hgle,↓hg2]
    apply hK;exact⟨rfl,rfl,vq1 hgle,vq1 h7,vq1 h6,vq1 h5,vq1 h1,vq1 h2,rfl,vr0⟩
  clear h6 h5 h1 h2 h7 h8;rintro _ σ3 _ A3 ⟨rfl,rfl,h10,h7,h6,h5,h1,h2,hA3,h51⟩;rw[hA3];clear hA3 A3;repeat refine c_r ?_
  refine zay (t:=!bb && decide (0<((zbe R h).length:Int))) ((vq1 h51)) ?_ ?_
  ·intro ht;simp only[Bool.and_eq_true,Bool.not_eq_true',ydT]at ht;have hne:zbe R h≠ []:=fun h0=>by rw[h0]at ht;simp at ht
   rw[if_pos ⟨ht.1,hne⟩]at hstep;obtain⟨oa,oc,how,_⟩:=id hrow;obtain⟨on,hon⟩:∃on,(h.map vs).length=on:=⟨_,rfl⟩;obtain⟨gn,hgn2⟩:∃gn,(zbe R h).length=gn:=⟨_,rfl⟩;rw[hon]at how;rw[hgn2]at hgle;have hone:one hv=true:=by rw[how];rfl
   have hong:one gl=true:=by rw[hgle];rfl
   refine rqz ?_;intro gd K hgd hK;refine sgz (az3 h5 h7 h10) ?_;refine⟨by kernel_rfl,?_⟩;rw[how,hgle,show bdV Tryz.prog 312 [(0,.slice oa on oc),(1,.slice al2 gn cl2)]=some (.agg #[.slice oa on oc,.slice al2 gn cl2]) from by kernel_rfl];try simp only[go_sem]
   rw[←how,←hgle];refine zaR (l:=[hv,gl]) (a:=(((h,zbe R h),(hv,gl)):GlX)) ze6 rfl rfl rfl rfl ⟨rfl,hone,hong⟩ (by decide) ?_;intro A3 hA3 hs3 ho3;refine sgz h5 ?_;have hA2s:=hA2.size;have hA1s:=hA1.size;have hEAs:=hEA.size;refine zaG ze6 (hHI2.ext hA3).own ho3.rows rfl rfl rfl rfl rfl rfl (by decide) vr0 vr0 (by simp;omega) (by decide) (by omega) ?_;intro v7 A4 ho7 hE7 hk7 hb7;try simp only[go_sem]
   apply hK;have hgl3:=hgl.ext hA3;have hglb3:=hglb.ext hA3.size;have hnew:=(hHI2.ext hA3).app (s:=(((h,zbe R h),(hv,gl)):GlX)) ⟨hrow,hgl3,hglb3.mono (by omega),fun a n c hv e=>by
    have h8:=(hglb3 a n c hv).1;have h9:=(hHI1.own.ge e).2;omega⟩ hNm ho7 hk7 hb7
   refine gz (az2 h6 hi1') ?_;exact⟨m - 1,by omega,rfl,i+1,v7,_,by omega,vq0,vq0,vq1 h1,vq1 h2,hE7 w1 (((hEA.trans hA1).trans hA2).trans hA3) (ynl _),hnew,by simp;omega,by rw[hstep];simp⟩
  ·intro ht;have hno:¬(bb=false/\zbe R h≠ []):=by
    rintro⟨rfl,h2⟩;have:=List.length_pos_iff.2 h2;rw[Bool.not_false,Bool.true_and,ydF]at ht;omega
   rw[if_neg hno]at hstep;refine gz (az2 h6 hi1') ?_;exact⟨m - 1,by omega,rfl,i+1,gv,G,by omega,vq0,vq1 h5,vq1 h1,vq1 h2,(hEA.trans hA1).trans hA2,hHI2,by omega,hstep.symm⟩
 ·intro hge;simp only[ydF]at hge;have hi:i=D.length:=by omega
  refine gz h5 ?_;refine rt0 Tryz.ntmps231 ?_;rw[hi,List.take_length]at hGm;have hg:∀x∈(D.filterMap fun d=>d.names.head?),NmG x:=fun x hx=>by
   obtain⟨d,hd,h⟩:=List.mem_filterMap.1 hx;obtain⟨h',t,hn,hN⟩:=hD d hd;rw[hn]at h;cases h;exact hN
  rw[hints_is hg]at hGm;have htg:zbo 2 D=zaZ [] (D.filterMap fun d=>d.names.head?):=by
   unfold zbo zaz;rw[if_pos (show zev 2=true from by decide)]
  have hgl:=hHI.own.rows.mapM (C':=GlB w0 w.heap.size A) Prod.fst (fun cs x hx hc=>by
   obtain⟨j1,j2,j3,j4⟩:=hHI.row x hx;exact⟨x.2.1,x.2.2,hc.1,j1,j2,j3.mono (by omega)⟩)
  rw[hGm,←htg]at hgl;exact⟨hwA,hgl,hHI.own.blk.mono (by omega)⟩
def LeadR(R:List RecL):Prop:=∀r∈R,(r.dat.ty=2\/r.dat.ty=5\/r.dat.ty=39)->r.dat.names≠ []
theorem zeA{R:List RecL}{n:Nm}{t:Int}{d:DatL}(h:d∈datC R n t):d.ty=t:=by
 unfold datC at h;obtain⟨x,hx,rfl⟩:=List.mem_map.1 h;have:=ofC_is x hx;unfold isL at this;simp only[Bool.and_eq_true,ydT]at this;exact this.1.symm
theorem zew{R:List RecL}(hR:zdJ R)(hL:LeadR R){n:Nm}{t:Int}(ht:t=2\/t=5\/t=39){d:DatL}(h:d∈datC R n t):∃h t,d.names=h::t/\NmG h:=by
 have hty:=zeA h;obtain⟨r,hr,rfl⟩:=zdB h;have hne:=hL r hr (by rw[hty];exact ht);cases hn:r.dat.names with
 |nil=>exact absurd hn hne
 |cons a l=>exact⟨a,l,rfl,hR r hr a (by rw[hn];exact List.mem_cons_self ..)⟩
theorem zkD{t:Int}(ht:zev t=true){d:DatL}{h:Nm}{tl:List Nm}(hn:d.names=h::tl):toN t [d]=h:=by
 unfold toN zbo zaz;rw[if_pos ht];simp[hn,zaZ]
theorem zjx{w0 w:World}(hE:Ext w0 w){a:Addr}{cs:List Value}{d:DatL}(hc:zan w (some a) 5=some cs)(hd:DatAt w0 cs d){h:Nm}{tl:List Nm}(hn:d.names=h::tl):
  ∃xN m cn hv,zad w (adr (some a) 1)=some (.slice (some xN) m cn)/\0<m/\zad w (some xN)=some hv/\Row w0 hv (h.map vs):=by
 obtain⟨nm,nu,tx,rw',hcs,n1,_⟩:=hd.ex;obtain⟨vals,⟨an,cn,rfl,hcn,hgn⟩,hvl,hvr⟩:=n1;have hvl1:0<vals.length:=by rw[hvl,hn];simp
 obtain⟨xN,rfl⟩:=yxs (zag (hgn 0 hvl1));refine⟨xN,vals.length,cn,vals[0],zah hc (j:=1) (by rw[hcs];rfl),hvl1,?_,?_⟩
 ·have:=zaa hE (hgn 0 hvl1)
  rwa [zaj]at this
 ·have:=hvr 0 hvl1 (by rw[hn];simp);simpa [hn] using this
theorem RAt_ok{w0 w:World}{ov lv nv:Value}{o n:Nm}{R:List RecL}{t:Int}{wild:Bool}(hz:ZnAt w0 w ov lv o R)(hs:zdX R)(hR:zdJ R)(hL:LeadR R)(hn:Row w nv (n.map vs))(mn:NmS n):
  Fn Tryz.prog 233 #[.agg #[ov,lv],nv,vi t,.bool wild] w (fun v w'=>Ext w w'/\∃cs,v= .agg cs.toArray/\ResB w0 w.heap.size w' cs (atL R n t wild)):=by
 obtain⟨ao,co,hov,_⟩:=id hz.org;obtain⟨al,cl,hlv,_⟩:=hz.recs.open;rw[hov,hlv];refine enter Tryz.func233 Tryz.ntmps233 rfl rfl ?_;repeat refine c_r ?_
 refine rg0 ?_;repeat refine c_r ?_
 rw[←hov,←hlv];rw[zai];refine zaF ?_;intro w1 hE1 hs1 hA hC;have d2:=zae (n:=2) (l:=[ov,lv]) hA rfl;have hz1:=hz.ext hE1;have nl:=mn.len;refine rq ?_;intro gd K hgd hK;try simp (disch:=first|omega|assumption|rfl) only[go_sem,d2]
 refine Fn.mono (zca hz1 hs (hn.ext hE1) mn.lb (by omega)) ?_;rintro dv w2 ⟨hE2,hdv,hdb⟩;obtain⟨ad,cd,hdv',hcd,_⟩:=hdv.open;try simp only[go_sem]
 refine hK _ _ ?_;clear hK hgd;clear K;try clear gd
 have hEw2:=hE1.trans hE2;have hC2:=Ext.at hE2 hC;have e2:=hE2.size;have l1:=zbg (R:=R) (n:=n) (t:=t);have l5:=zbg (R:=R) (n:=n) (t:=5);have rl:=hz.rl;repeat refine c_r ?_
 refine rg1 hdv' ?_;repeat refine c_r ?_
 refine wc0 ?_ ?_
 ·intro hlt;simp only[ydT]at hlt;have hne:datC R n t≠ []:=List.length_pos_iff.1 (by omega);have hat:atL R n t wild=⟨1,datC R n t,[],wild,[]⟩:=by unfold atL;rw[if_pos hne]
  repeat refine c_r ?_
  refine rq ?_;intro gd K hgd hK;try simp only[go_sem]
  refine⟨by kernel_rfl,?_⟩;rw[show bdV Tryz.prog 255 [(0,vi 1),(1,.slice ad (datC R n t).length cd),(3,.bool wild)]=some (.agg #[vi 1,.slice ad (datC R n t).length cd,.slice .none 0 0,.bool wild,.slice .none 0 0]) from by kernel_rfl];try simp only[go_sem]
  refine zaD (P:=Tryz.prog) (t:=255) (l:=[vi 1,.slice ad (datC R n t).length cd,.slice .none 0 0,.bool wild,.slice .none 0 0]) hC2 rfl (fun v h=>by simp at h;rcases h with rfl|rfl|rfl|rfl|rfl<;>rfl) rfl rfl ?_;intro z hz' hbz hkz;try simp only[go_sem]
  refine hK _ _ ?_;clear hK hgd;clear K;try clear gd
  repeat refine c_r ?_
  refine zat (.inr rfl) Tryz.ntmps233 rfl (zaI (x:=⟨w.heap.size+1,0,.none⟩) (k:=5) vq0 rfl rfl (zae hbz rfl) zap) ?_;refine⟨Keep.to_ext hEw2 rfl (fun b hb=>by omega) hkz,_,rfl,?_⟩;rw[hat];refine⟨_,_,_,rfl,?_,?_,.inr (za7 _),Rows.nil _ _ _,BlkB.nil⟩
  ·rw[←hdv'];exact hdv.keep hkz hdb (fun b hb _=>by omega)
  ·rw[←hdv'];exact(hdb.ext (by omega)).mono (by omega)
 ·intro hlt;simp only[ydF]at hlt;have hnil:datC R n t=[]:=List.length_eq_zero_iff.1 (by omega);have hne:¬datC R n t≠ []:=fun h=>h hnil;have d2':=zac hE2 d2;repeat refine c_r ?_
  refine rq ?_;intro gd K hgd hK;try simp (disch:=first|omega|assumption|rfl) only[go_sem,d2']
  refine Fn.mono (zca (hz.ext hEw2) hs (hn.ext hEw2) mn.lb (by omega)) ?_;rintro fv w5 ⟨hE6,hfv,hfb⟩;obtain⟨af,cf,hfv',hcf,hgf⟩:=hfv.open;try simp only[go_sem]
  refine hK _ _ ?_;clear hK hgd;clear K;try clear gd
  have hC5:=Ext.at hE6 hC2;have e6:=hE6.size;have hEw5:=hEw2.trans hE6;repeat refine c_r ?_
  refine rg1 hfv' ?_;repeat refine c_r ?_
  refine wc0 ?_ ?_
  ·intro hlt5;simp only[ydT]at hlt5;have hpos:0<(datC R n 5).length:=by omega
   have hne5:datC R n 5≠ []:=List.length_pos_iff.1 hpos;have hat:atL R n t wild=⟨5,(datC R n 5).take 1,toN 5 ((datC R n 5).take 1),wild,[]⟩:=by unfold atL;rw[if_neg hne,if_pos hne5]
   obtain⟨d0,l0,hd0⟩:∃d0 l0,datC R n 5=d0::l0:=by
    cases h:datC R n 5 with
    |nil=>exact absurd h hne5
    |cons a l=>exact⟨a,l,rfl⟩
   obtain⟨h,tl,hnames,hNm⟩:=zew hR hL (.inr (.inl rfl)) (d:=d0) (n:=n) (t:=5) (by rw[hd0];exact List.mem_cons_self ..);have htk:(datC R n 5).take 1=[d0]:=by rw[hd0];rfl
   have hto:toN 5 ((datC R n 5).take 1)=h:=by rw[htk];exact zkD (by decide) hnames
   obtain⟨c0,hc0,hD0⟩:=hgf 0 hpos;have hg0:(datC R n 5)[0]=d0:=by simp only[hd0];rfl
   rw[hg0]at hD0;obtain⟨xf,rfl⟩:=yxs (zak hc0);rw[Nat.zero_mul,zaj]at hc0;obtain⟨xN,m,cn,hv,g1,gm,g2,g3⟩:=zjx (hz.e0.trans hEw5) hc0 hD0 hnames;have gm':(0:Int)<(m:Int):=by omega
   have hz0:(0:Int)<=0:=by omega
   have h01:(0:Int)<=1:=by omega
   have h11:(1:Int)<=(cf:Int):=by omega
   have t1:Int.toNat 1=1:=rfl;have hlt5':(0:Int)<((datC R n 5).length:Int):=by omega
   obtain⟨oa,oc,how,_⟩:=id g3;obtain⟨on,hon⟩:∃on,(h.map vs).length=on:=⟨_,rfl⟩;rw[hon]at how;repeat refine c_r ?_
   refine zaJ (fun i=>i==10) [(0,true),(1,true),(2,true),(3,true),(4,true),(5,true),(6,true),(7,true),(8,true),(9,true),(10,false)] NoS mixed (by kernel_rfl) ?_;intro gd K x hgd hx hxe hK;clear hxe;have g1x:=zaa hx g1;have g2x:=zaa hx g2;simp (disch:=first|omega|assumption|rfl) only[go_sem,g1x,g2x,h01,h11,t1,gm',hz0,hlt5',Nat.sub_zero,Nat.zero_mul,zaj,ite_self,Int.toNat_zero];refine⟨by kernel_rfl,?_⟩;rw[how,show bdV Tryz.prog 255 [(0,vi 5),(1,.slice (some xf) 1 cf),(2,.slice oa on oc),(3,.bool wild)]=some (.agg #[vi 5,.slice (some xf) 1 cf,.slice oa on oc,.bool wild,.slice .none 0 0]) from by kernel_rfl];simp (disch:=first|omega|assumption|rfl) only[go_sem];refine zaD (P:=Tryz.prog) (t:=255) (l:=[vi 5,.slice (some xf) 1 cf,.slice oa on oc,.bool wild,.slice .none 0 0]) (Ext.at hx hC5) rfl (fun v h=>by simp at h;rcases h with rfl|rfl|rfl|rfl|rfl<;>rfl) rfl rfl ?_;intro z hz' hbz hkz;refine⟨.inl rfl,?_⟩;simp (disch:=first|omega|assumption|rfl) only[go_sem];refine hK _ _ ?_;clear hK hgd;clear K;try clear gd
   repeat refine c_r ?_
   refine zat (.inr rfl) Tryz.ntmps233 rfl (zaI (x:=⟨w.heap.size+1,0,.none⟩) (k:=5) vq0 rfl rfl (zae hbz rfl) zap) ?_;have hxs:=hx.size;have hEz:Ext w z:=Keep.to_ext (hEw5.trans hx) rfl (fun b hb=>by omega) hkz;refine⟨hEz,_,rfl,?_⟩;rw[hat,hto,htk];have hfv1:Rows 5 (DatAt w0) w5 (.slice (some xf) 1 cf) [d0]:=by
    have h2:=hfv;rw[hfv']at h2;have h1:=h2.take (m:=1) (c2:=cf) (by omega) (by omega);rw[htk]at h1;exact h1
   rw[hfv']at hfb;refine⟨_,_,_,rfl,?_,?_,.inr ?_,Rows.nil _ _ _,BlkB.nil⟩
   ·exact(hfv1.ext hx).keep hkz (BlkB.same (hfb.ext hx.size)) (fun b hb _=>by omega)
   ·exact((BlkB.same (hfb.ext hx.size)).ext (by omega)).mono (by omega)
   ·rw[←how];exact g3
  ·intro hlt5;simp only[ydF]at hlt5;have hne5:¬datC R n 5≠ []:=fun h=>by have:=List.length_pos_iff.2 h;omega
   have hat:atL R n t wild=⟨2,[],[],wild,[]⟩:=by unfold atL;rw[if_neg hne,if_neg hne5]
   repeat refine c_r ?_
   refine rq ?_;intro gd K hgd hK;try simp only[go_sem]
   refine⟨by kernel_rfl,?_⟩;rw[show bdV Tryz.prog 255 [(0,vi 2),(3,.bool wild)]=some (.agg #[vi 2,.slice .none 0 0,.slice .none 0 0,.bool wild,.slice .none 0 0]) from by kernel_rfl];try simp only[go_sem]
   refine zaD (P:=Tryz.prog) (t:=255) (l:=[vi 2,.slice .none 0 0,.slice .none 0 0,.bool wild,.slice .none 0 0]) hC5 rfl (fun v h=>by simp at h;rcases h with rfl|rfl|rfl|rfl|rfl<;>rfl) rfl rfl ?_;intro z hz' hbz hkz;try simp only[go_sem]
   refine hK _ _ ?_;clear hK hgd;clear K;try clear gd
   repeat refine c_r ?_
   refine zat (.inr rfl) Tryz.ntmps233 rfl (zaI (x:=⟨w.heap.size+1,0,.none⟩) (k:=5) vq0 rfl rfl (zae hbz rfl) zap) ?_;refine⟨Keep.to_ext hEw5 rfl (fun b hb=>by omega) hkz,_,rfl,?_⟩;rw[hat];exact⟨_,_,_,rfl,Rows.nil _ _ _,BlkB.nil,.inr (za7 _),Rows.nil _ _ _,BlkB.nil⟩
theorem zlK{R:List RecL}(hs:zdX R){n:Nm}{t:Int}:hasL R n t=true↔datC R n t≠ []:=by
 rw[←zg3,zeu hs];unfold hasL;rw[List.any_eq_true,ne_eq,List.filter_eq_nil_iff];constructor
 ·rintro⟨x,hx,h⟩ h2;exact h2 x hx h
 ·intro h;apply Classical.byContradiction;intro h2;exact h fun x hx h3=>h2 ⟨x,hx,h3⟩
structure ResN(w0 wn:World)(B:Nat)(w:World)(cs:List Value)(r:ResL):Prop where
 ex:∃dv nv gv,cs=[vi r.kind,dv,nv,.bool r.wild,gv]/\Rows 5 (DatAt w0) w dv r.data/\BlkB B w dv/\((Row w nv (r.name.map vs)/\BlkB B w nv)\/Row wn nv (r.name.map vs))/\Rows 2 (GlB w0 B w) w gv r.glue/\BlkB B w gv
theorem ResB.n{w0 wn w:World}{B:Nat}{cs:List Value}{r:ResL}(h:ResB w0 B w cs r)(hE:Ext w0 wn):ResN w0 wn B w cs r:=by
 obtain⟨dv,nv,gv,e,h1,h2,h3,h4,h5⟩:=h.ex;exact⟨dv,nv,gv,e,h1,h2,h3.imp id (fun h=>h.ext hE),h4,h5⟩
theorem ResN.keep{w0 wn w x:World}{B:Nat}{cs:List Value}{r:ResL}(h:ResN w0 wn B w cs r){S:Nat->Prop}(hk:Keep S w x)(hS:∀b,B<=b->b<w.heap.size->¬S b):ResN w0 wn B x cs r:=by
 obtain⟨dv,nv,gv,e,h1,h2,h3,h4,h5⟩:=h.ex;refine⟨dv,nv,gv,e,h1.keep hk h2 hS,h2.ext hk.size,?_,(h4.keep hk h5 hS).to fun cs y hy=>?_,h5.ext hk.size⟩
 ·rcases h3 with ⟨h3,h6⟩|h3
  ·exact .inl ⟨h3.blocks fun a n c hv=>hk.block _ (h6 a n c hv).2 (hS _ (h6 a n c hv).1 (h6 a n c hv).2),h6.ext hk.size⟩
  ·exact .inr h3
 ·obtain⟨hv,dv,e,g1,g2,g3⟩:=hy;exact⟨hv,dv,e,g1,g2.keep hk g3 hS,g3.ext hk.size⟩
theorem ResN.at{w0 wn w:World}{B:Nat}{cs:List Value}{r:ResL}(h:ResN w0 wn B w cs r)(hE:Ext wn w):ResAt w0 w cs r:=by
 obtain⟨dv,nv,gv,e,h1,h2,h3,h4,h5⟩:=h.ex;refine⟨dv,nv,gv,e,h1,?_,h4.to fun cs y hy=>?_⟩
 ·rcases h3 with ⟨h3,_⟩|h3
  ·exact h3
  ·exact h3.ext hE
 ·obtain⟨hv,dv,e,g1,g2,_⟩:=hy;exact⟨hv,dv,e,g1,g2⟩
theorem ResN.mono{w0 wn w:World}{B B':Nat}{cs:List Value}{r:ResL}(h:ResN w0 wn B w cs r)(hB:B'<=B):ResN w0 wn B' w cs r:=by
 obtain⟨dv,nv,gv,e,h1,h2,h3,h4,h5⟩:=h.ex;refine⟨dv,nv,gv,e,h1,h2.mono hB,h3.imp (fun h=>⟨h.1,h.2.mono hB⟩) id,h4.to fun cs y hy=>?_,h5.mono hB⟩;obtain⟨hv,dv,e,g1,g2,g3⟩:=hy;exact⟨hv,dv,e,g1,g2,g3.mono hB⟩
theorem RLook_ok{w0 w:World}{ov lv qv:Value}{o q:Nm}{R:List RecL}{t:Int}(hz:ZnAt w0 w ov lv o R)(hs:zdX R)(hR:zdJ R)(hL:LeadR R)(hq:Row w qv (q.map vs))(mq:NmM q):
  Fn Tryz.prog 181 #[.agg #[ov,lv],qv,vi t] w (fun v w'=>Ext w w'/\∃cs,v= .agg cs.toArray/\ResN w0 w w.heap.size w' cs (za1 o R q t)):=by
 obtain⟨ao,co,hov,_⟩:=id hz.org;obtain⟨al,cl,hlv,_⟩:=hz.recs.open;obtain⟨aq,cq,hqv,hcq,hgq⟩:=id hq;simp only[ylm]at hov hqv hcq hgq;have ql:=mq.len;have hol:=hz.ol;have rl:=hz.rl;rw[hov,hlv,hqv];refine enter Tryz.func181 Tryz.ntmps181 rfl rfl ?_;repeat refine c_r ?_
 refine rg0 ?_;repeat refine c_r ?_
 rw[←hlv];rw[zai];refine zaF ?_;intro w1 hE1 hs1 hA hC;rw[←hov]at hA;have d2:=zae (n:=2) (l:=[ov,lv]) hA rfl;have p0:zad w1 (some ⟨w.heap.size,0,.none⟩)=some ov:=zab hA rfl;rw[hov]at p0;have hz1:=hz.ext hE1;have hq1:=hq.ext hE1;rw[hqv]at hq1;have ho1:=hz1.org;rw[hov]at ho1;refine rq ?_;intro gd K hgd hK;try simp (disch:=first|omega|assumption|rfl) only[go_sem,p0,Nat.add_zero]
 refine Fn.mono (zcS w1 _ _ _ _ hq1 ho1 mq.s.lb hz.lb (by omega) (by omega)) ?_;rintro _ w2 ⟨rfl,hE2⟩;try simp only[go_sem]
 refine hK _ _ ?_;clear hK hgd;clear K;try clear gd
 have hE12:=hE1.trans hE2;have hC2:=Ext.at hE2 hC;by_cases hu:zaV q o=true
 rotate_left
 ·have hu':zaV q o=false:=by simpa using hu
  have hlk:za1 o R q t=⟨7,[],[],false,[]⟩:=by unfold za1;rw[if_pos hu']
  rw[hu'];repeat refine c_r ?_
  refine zay (t:=true) vr0 ?_ (fun h=>by cases h);intro _;repeat refine c_r ?_
  refine rq ?_;intro gd K hgd hK;try simp only[go_sem]
  refine⟨by kernel_rfl,?_⟩;rw[show bdV Tryz.prog 255 [(0,vi 7)]=some (.agg #[vi 7,.slice .none 0 0,.slice .none 0 0,.bool false,.slice .none 0 0]) from by kernel_rfl];try simp only[go_sem]
  refine zaD (P:=Tryz.prog) (t:=255) (l:=[vi 7,.slice .none 0 0,.slice .none 0 0,.bool false,.slice .none 0 0]) hC2 rfl (fun v h=>by simp at h;rcases h with rfl|rfl|rfl|rfl|rfl<;>rfl) rfl rfl ?_;intro z hz' hbz hkz;try simp only[go_sem]
  refine hK _ _ ?_;clear hK hgd;clear K;try clear gd
  repeat refine c_r ?_
  refine zat (.inr rfl) Tryz.ntmps181 rfl (zaI (x:=⟨w.heap.size+1,0,.none⟩) (k:=5) vq0 rfl rfl (zae hbz rfl) zap) ?_;exact⟨Keep.to_ext hE12 rfl (fun b hb=>by omega) hkz,_,rfl,by rw[hlk];exact⟨_,_,_,rfl,Rows.nil _ _ _,BlkB.nil,.inr (za7 _),Rows.nil _ _ _,BlkB.nil⟩⟩
 rw[hu];have hle:=zb3 hu;have hlkS:∀r,goL o R q (za8 o q)=some r->za1 o R q t=r:=fun r h=>by
  unfold za1;rw[hu,if_neg (by decide),h]
 have hlkE:goL o R q (za8 o q)= .none->zaK o R q=true->za1 o R q t=atL R q t false:=fun h h2=>by
  unfold za1;rw[hu,if_neg (by decide),h];simp only[h2,if_true]
 have hlkW:goL o R q (za8 o q)= .none->zaK o R q=false->∀s,zaW o R q=some s->za1 o R q t=atL R s t true:=fun h h2 s h3=>by
  unfold za1;rw[hu,if_neg (by decide),h];simp only[h2,h3,Bool.false_eq_true,if_false]
 have hlkN:goL o R q (za8 o q)= .none->zaK o R q=false->zaW o R q= .none->za1 o R q t=⟨3,[],[],false,[]⟩:=fun h h2 h3=>by
  unfold za1;rw[hu,if_neg (by decide),h];simp only[h2,h3,Bool.false_eq_true,if_false]
 have hdn:za8 o q=zbp q (q.length - o.length):=by unfold za8;rw[if_pos hle]
 repeat refine c_r ?_
 refine zay (t:=false) vr0 (fun h=>by cases h) ?_;intro _;have p02:=zaa hE2 p0;repeat refine c_r ?_
 refine rg2 p02 Nat.add_zero ?_;repeat refine c_r ?_
 have hK:(q.length:Int) - (o.length:Int)=((q.length - o.length:Nat):Int):=by omega
 refine zaw (Q:=fun e σ' ds' v'=>(e= .exit 0/\ds'=[]/\σ' 1= .slice aq q.length cq/\σ' 2=vi t/\σ' 3= .pointer (some ⟨w.heap.size,0,.none⟩)/\σ' 6= .pointer (some ⟨w.heap.size+1,0,.none⟩)/\Ext w2 v'/\goL o R q (za8 o q)= .none)\/
   (e= .ret/\ds'=[]/\σ' 6= .pointer (some ⟨w.heap.size+1,0,.none⟩)/\Ext w v'/\∃r cs,goL o R q (za8 o q)=some r/\v'.heap[w.heap.size+1]? =some (.cells cs.toArray 255 (0,0))/\ResN w0 w (w.heap.size+2) v' cs r)) ?_ ?_
 ·refine zao (fun m σ ds A=>ds=[]/\∃(i:Int),i+1<=(m:Int)/\σ 7=vi i/\((i= -1/\goL o R q (za8 o q)= .none)\/∃k:Nat,i=k/\k<=q.length - o.length/\goL o R q (za8 o q)=goL o R q (zbp q k))/\σ 1= .slice aq q.length cq/\σ 2=vi t/\σ 3= .pointer (some ⟨w.heap.size,0,.none⟩)/\σ 6= .pointer (some ⟨w.heap.size+1,0,.none⟩)/\Ext w2 A) (q.length+1) ?_ ?_
  ·exact⟨rfl,(q.length:Int) - (o.length:Int),by omega,vq0,.inr ⟨q.length - o.length,hK,ynl _,by rw[hdn]⟩,vq0,vq0,vq0,vq0,Keep.refl _ _⟩
  rintro m σ ds A ⟨rfl,i,him,h7,hir,h1,h2,h3,h6,hEA⟩;have hwA:=hE12.trans hEA;repeat refine c_r ?_
  refine rg1 h7 ?_;repeat refine c_r ?_
  refine wc0 ?_ ?_
  rotate_left
  ·intro hge;simp only[ydF,ge_iff_le]at hge;repeat refine c_r ?_
   refine .inl ⟨rfl,rfl,vq1 h1,vq1 h2,vq1 h3,vq1 h6,hEA,?_⟩;rcases hir with ⟨_,h⟩| ⟨k,rfl,_⟩
   ·exact h
   ·omega
  intro hge;simp only[ydT,ge_iff_le]at hge;rcases hir with ⟨rfl,_⟩| ⟨k,rfl,hkK,hgo⟩
  ·omega
  have hk1:(k:Int)<=(q.length:Int):=by omega
  have hrow:Row w (.slice (if cq=k then aq else adr aq k) (q.length - k) (cq - k)) ((q.drop k).map vs):=by
   have:=Row.tail (l:=q.map vs) (by simp) hcq (by simpa using hgq) (lo:=k) (by omega);rw[←List.map_drop]at this;simpa using this
  obtain⟨x,hx⟩:∃x,q.drop k=x:=⟨_,rfl⟩;obtain⟨xv,hxv⟩:∃xv,(.slice (if cq=k then aq else adr aq k) (q.length - k) (cq - k):Value)=xv:=⟨_,rfl⟩;have mx:NmM x:=hx▸mq.drop k;have hux:zaV q x=true:=by rw[←hx];exact zgd (by omega)
  have hxl:x.length=q.length - k:=by rw[←hx,List.length_drop]
  obtain⟨lx,hlx,hlj⟩:∃lx,zbp q k=x::lx/\(k=0\/∃j,k=j+1/\lx=zbp q j):=by
   rw[←hx];cases k with
   |zero=>exact⟨[],rfl,.inl rfl⟩
   |succ j=>exact⟨zbp q j,rfl,.inr ⟨j,rfl,rfl⟩⟩
  rw[hlx]at hgo;have hgx:∀l,(cutP o R x=false->k=0->goL o R q (x::l)= .none):=fun l h1 h2=>by
   simp only[goL];rw[h1,if_neg Bool.false_ne_true,if_pos (hxl.trans (by rw[h2,Nat.sub_zero]))]
  rw[hx,hxv]at hrow;have hxA:=hrow.ext hwA;have hzA:=hz.ext hwA;have d2A:=zac (hE2.trans hEA) d2;have p0A:=zaa (hE2.trans hEA) p0;have hCA:=Ext.at (hE2.trans hEA) hC;have sA:=(hE2.trans hEA).size;repeat refine c_r ?_
  refine rq ?_;intro gd K hgd hK;try simp (disch:=first|omega|assumption|rfl) only[go_sem,h7,h1,hge,hk1]
  rw[hxv];refine hK _ _ ?_;clear hK hgd;clear K;try clear gd
  repeat refine c_r ?_
  refine zaw (Q:=fun e σ' ds' v'=>e= .normal/\ds'=[]/\σ' 8=xv/\σ' 7=vi k/\σ' 1= .slice aq q.length cq/\σ' 2=vi t/\σ' 3= .pointer (some ⟨w.heap.size,0,.none⟩)/\σ' 6= .pointer (some ⟨w.heap.size+1,0,.none⟩)/\Ext A v'/\σ' 46= .bool (cutP o R x)) ?_ ?_
  ·by_cases hl:(k:Int)<(q.length:Int) - (o.length:Int)
   ·refine rq ?_;intro gd K hgd hK;have hg8:=gk 8 42 hgd rfl;try simp (disch:=first|omega|assumption|rfl) only[go_sem,h7,h1,h3,p0A,d2A,yet hl,Nat.add_zero,↓hg8]
    refine Fn.mono (zmu hzA hxA mx.s.lb (by have:=mx.len;omega)) ?_;rintro _ Y ⟨rfl,hY⟩;try simp only[go_sem]
    refine hK _ _ ?_;clear hK hgd;clear K;try clear gd
    refine⟨rfl,rfl,vq0,vq1 h7,vq1 h1,vq1 h2,vq1 h3,vq1 h6,hY,?_⟩;rw[show cutP o R x=hasL R x 2 from by unfold cutP;rw[show decide (o.length<x.length)=true from yet (by omega),Bool.true_and]]
    first| (simp only[go_sem];done)| (simp only[go_sem];rfl)
   ·refine rq ?_;intro gd K hgd hK;have hg8:=gk 8 42 hgd rfl;try simp (disch:=first|omega|assumption|rfl) only[go_sem,h7,h1,h3,p0A,yef hl,Nat.add_zero,↓hg8]
    refine hK _ _ ?_;clear hK hgd;clear K;try clear gd
    refine⟨rfl,rfl,vq0,vq1 h7,vq1 h1,vq1 h2,vq1 h3,vq1 h6,Keep.refl _ _,?_⟩;rw[show cutP o R x=false from by unfold cutP;rw[show decide (o.length<x.length)=false from yef (by omega),Bool.false_and]]
    first| (simp only[go_sem];done)| (simp only[go_sem];rfl)
  clear h7 h1 h2 h3 h6;rintro _ σ1 _ Y ⟨rfl,rfl,h8,h7,h1,h2,h3,h6,hY,h46⟩;have d2Y:=zac hY d2A;have hzY:=hzA.ext hY;have hxY:=hxA.ext hY;have hwY:=hwA.trans hY;have hCY:=Ext.at hY hCA;have sY:=hY.size;repeat refine c_r ?_
  refine zay (t:=cutP o R x) ((vq1 h46)) ?_ ?_
  ·intro ht;repeat refine c_r ?_
   refine rq ?_;intro gd K hgd hK;try simp (disch:=first|omega|assumption|rfl) only[go_sem,h3,h8,d2Y]
   refine Fn.mono (zca hzY hs hxY mx.s.lb (by have:=mx.len;omega)) ?_;rintro dv Y1 ⟨hY1,hdv,hdb⟩;try simp only[go_sem]
   refine hK _ _ ?_;clear hK hgd;clear K;try clear gd
   obtain⟨ad,cd,hdv',hcd,_⟩:=hdv.open;have d2Y1:=zac hY1 d2Y;have sY1:=hY1.size;have ld:=zbg (R:=R) (n:=x) (t:=2);repeat refine c_r ?_
   refine rq ?_;intro gd K hgd hK;try simp (disch:=first|omega|assumption|rfl) only[go_sem,h3,h8,d2Y1]
   refine Fn.mono (zmt (hzY.ext hY1) hs hdv (fun d hd=>zew hR hL (.inl rfl) hd) (by omega)) ?_;rintro gv Y2 ⟨hY2,hgv,hgb⟩;obtain⟨ag,cg,hgv',hcg,_⟩:=hgv.open;try simp only[go_sem]
   obtain⟨xa,xc,hxe,_⟩:=id hrow;obtain⟨xn,hxn⟩:∃xn,(x.map vs).length=xn:=⟨_,rfl⟩;rw[hxn]at hxe;have sY2:=hY2.size;refine⟨by kernel_rfl,?_⟩;rw[hxe,hdv',hgv',show bdV Tryz.prog 255 [(0,vi 4),(1,.slice ad (datC R x 2).length cd),(2,.slice xa xn xc),(4,.slice ag (zbA R (zbo 2 (datC R x 2))).length cg)]=some (.agg #[vi 4,.slice ad (datC R x 2).length cd,.slice xa xn xc,.bool false,.slice ag (zbA R (zbo 2 (datC R x 2))).length cg]) from by kernel_rfl];try simp (disch:=first|omega|assumption|rfl) only[go_sem,h6]
   refine zaD (P:=Tryz.prog) (t:=255) (l:=[vi 4,.slice ad (datC R x 2).length cd,.slice xa xn xc,.bool false,.slice ag (zbA R (zbo 2 (datC R x 2))).length cg]) (Ext.at (hY1.trans hY2) hCY) rfl (fun v h=>by simp at h;rcases h with rfl|rfl|rfl|rfl|rfl<;>rfl) rfl rfl ?_;intro z hz' hbz hkz;try simp only[go_sem]
   refine hK _ _ ?_;clear hK hgd;clear K;try clear gd
   repeat refine c_r ?_
   refine .inr ⟨rfl,rfl,vq1 h6,Keep.to_ext (hwY.trans (hY1.trans hY2)) rfl (fun b hb=>by omega) hkz,zeI R x,_,?_,hbz,?_⟩
   ·rw[hgo];simp only[goL];rw[if_pos ht]
   ·refine⟨_,_,_,rfl,?_,?_,.inr ?_,?_,?_⟩
    ·rw[←hdv'];exact(hdv.ext hY2).keep hkz (hdb.ext hY2.size) (fun b hb _=>by omega)
    ·rw[←hdv'];exact((hdb.ext hY2.size).ext (by omega)).mono (by omega)
    ·rw[←hxe];exact hrow
    ·rw[←hgv'];refine(hgv.keep hkz hgb (fun b hb _=>by omega)).to fun cs y hy=>?_;obtain⟨hv,dv,e,g1,g2,g3⟩:=hy;exact⟨hv,dv,e,g1,g2.keep hkz g3 (fun b hb _=>by omega),(g3.ext (by omega)).mono (by omega)⟩
    ·rw[←hgv'];exact(hgb.ext (by omega)).mono (by omega)
  intro ht;have hqY:=hq.ext hwY;rw[hqv]at hqY;repeat refine c_r ?_
  refine zaw (Q:=fun e σ' ds' v'=>e= .normal/\ds'=[]/\σ' 8=xv/\σ' 7=vi k/\σ' 1= .slice aq q.length cq/\σ' 2=vi t/\σ' 3= .pointer (some ⟨w.heap.size,0,.none⟩)/\σ' 6= .pointer (some ⟨w.heap.size+1,0,.none⟩)/\Ext Y v'/\σ' 62= .bool (decide (0<k) && hasL R x 39)) ?_ ?_
  ·by_cases hl:(k:Int)>0
   ·refine rq ?_;intro gd K hgd hK;have hg2:=gk 2 58 hgd rfl;try simp (disch:=first|omega|assumption|rfl) only[go_sem,h7,h8,h3,d2Y,yet hl,↓hg2]
    refine Fn.mono (zmu hzY hxY mx.s.lb (by have:=mx.len;omega)) ?_;rintro _ Y1 ⟨rfl,hY1⟩;try simp only[go_sem]
    refine hK _ _ ?_;clear hK hgd;clear K;try clear gd
    refine⟨rfl,rfl,vq1 h8,vq1 h7,vq1 h1,vq1 h2,vq1 h3,vq1 h6,hY1,?_⟩;rw[show decide (0<k)=true from yet (by omega),Bool.true_and]
    first| (simp only[go_sem];done)| (simp only[go_sem];rfl)
   ·refine rq ?_;intro gd K hgd hK;have hg2:=gk 2 58 hgd rfl;try simp (disch:=first|omega|assumption|rfl) only[go_sem,h7,h8,h3,yef hl,↓hg2]
    refine hK _ _ ?_;clear hK hgd;clear K;try clear gd
    refine⟨rfl,rfl,vq1 h8,vq1 h7,vq1 h1,vq1 h2,vq1 h3,vq1 h6,Keep.refl _ _,?_⟩;rw[show decide (0<k)=false from yef (by omega),Bool.false_and]
    first| (simp only[go_sem];done)| (simp only[go_sem];rfl)
  clear h7 h1 h2 h3 h6 h8;rintro _ σ2 _ Z ⟨rfl,rfl,h8,h7,h1,h2,h3,h6,hZ,h62⟩;have d2Z:=zac hZ d2Y;have hzZ:=hzY.ext hZ;have hxZ:=hxY.ext hZ;have hqZ:=hqY.ext hZ;have hwZ:=hwY.trans hZ;have hCZ:=Ext.at hZ hCY;have sZ:=hZ.size;repeat refine c_r ?_
  refine zay (t:=decide (0<k) && hasL R x 39) ((vq1 h62)) ?_ ?_
  ·intro ht2;simp only[Bool.and_eq_true,ydT]at ht2;have hne:datC R x 39≠ []:=(zlK hs).1 ht2.2;have ld:=zbg (R:=R) (n:=x) (t:=39);have hpos:0<(datC R x 39).length:=List.length_pos_iff.2 hne;repeat refine c_r ?_
   refine rq ?_;intro gd K hgd hK;try simp (disch:=first|omega|assumption|rfl) only[go_sem,h3,h8,d2Z]
   refine Fn.mono (zca hzZ hs hxZ mx.s.lb (by have:=mx.len;omega)) ?_;rintro dv Z1 ⟨hZ1,hdv,hdb⟩;obtain⟨ad,cd,hdv',hcd,hgd2⟩:=hdv.open;have h01:(0:Int)<=1:=by omega
   have h11:(1:Int)<=(cd:Int):=by omega
   have t1:Int.toNat 1=1:=rfl;try simp (disch:=first|omega|assumption|rfl) only[go_sem,hdv',h01,h11,t1,Nat.sub_zero,Nat.zero_mul,zaj,ite_self]
   refine hK _ _ ?_;clear hK hgd;clear K;try clear gd
   obtain⟨d0,l0,hd0⟩:∃d0 l0,datC R x 39=d0::l0:=by
    cases h:datC R x 39 with
    |nil=>exact absurd h hne
    |cons a l=>exact⟨a,l,rfl⟩
   obtain⟨h,tl,hnames,hNm⟩:=zew hR hL (.inr (.inr rfl)) (d:=d0) (n:=x) (t:=39) (by rw[hd0];exact List.mem_cons_self ..);have htk:(datC R x 39).take 1=[d0]:=by rw[hd0];rfl
   have hto:toN 39 ((datC R x 39).take 1)=h:=by rw[htk];exact zkD (by decide) hnames
   obtain⟨c0,hc0,hD0⟩:=hgd2 0 hpos;have hg0:(datC R x 39)[0]=d0:=by simp only[hd0];rfl
   rw[hg0]at hD0;obtain⟨xf,rfl⟩:=yxs (zak hc0);rw[Nat.zero_mul,zaj]at hc0;obtain⟨xN,mN,cn,hv,g1,gm,g2,g3⟩:=zjx (hz.e0.trans (hwZ.trans hZ1)) hc0 hD0 hnames;have gm':(0:Int)<(mN:Int):=by omega
   have hz0:(0:Int)<=0:=by omega
   have h0lt1:(0:Int)<1:=by omega
   have hren:zaE R q x=if zaA (zbU q x h)=0 then some ⟨5,[d0],zbU q x h,false,[]⟩ else some ⟨6,[],[],false,[]⟩:=by
    unfold zaE;rw[if_neg hne,hto,htk]
   have hgoR:∀r,zaE R q x=some r->goL o R q (za8 o q)=some r:=fun r hr=>by
    rw[hgo];simp only[goL];rw[ht,if_neg Bool.false_ne_true,if_neg (by omega),hr]
   have sZ1:=hZ1.size;repeat refine c_r ?_
   refine rq ?_;intro gd K hgd hK;try simp (disch:=first|omega|assumption|rfl) only[go_sem,h1,h8,g1,g2,gm',hz0,h0lt1,Nat.zero_mul,zaj,Int.toNat_zero]
   refine Fn.mono (RSwap_ok Z1 _ _ _ q x h (hqZ.ext hZ1) (hxZ.ext hZ1) (g3.ext (hz.e0.trans (hwZ.trans hZ1))) mq mx hNm.m hux) ?_;rintro sv Z2 ⟨hZ2,hok,hbad⟩;have hC2':=Ext.at (hZ1.trans hZ2) hCZ;have sZ2:=hZ2.size;by_cases hck:zaA (zbU q x h)=0
   ·obtain⟨sv,rfl,hsv,hsb⟩:=hok hck;rw[if_pos hck]at hren;try simp only[go_sem]
    refine hK _ _ ?_;clear hK hgd;clear K;try clear gd
    repeat refine c_r ?_
    refine rg0 ?_;repeat refine c_r ?_
    refine zay (t:=false) vr0 (fun h=>by cases h) ?_;intro _;obtain⟨sa,sc,hse,_⟩:=id hsv;obtain⟨sn,hsn⟩:∃sn,((zbU q x h).map vs).length=sn:=⟨_,rfl⟩;rw[hsn]at hse;repeat refine c_r ?_
    refine rq ?_;intro gd K hgd hK;try simp only[go_sem]
    refine⟨by kernel_rfl,?_⟩;rw[hse,show bdV Tryz.prog 255 [(0,vi 5),(1,.slice (some xf) 1 cd),(2,.slice sa sn sc)]=some (.agg #[vi 5,.slice (some xf) 1 cd,.slice sa sn sc,.bool false,.slice .none 0 0]) from by kernel_rfl];try simp (disch:=first|omega|assumption|rfl) only[go_sem,h6]
    refine zaD (P:=Tryz.prog) (t:=255) (l:=[vi 5,.slice (some xf) 1 cd,.slice sa sn sc,.bool false,.slice .none 0 0]) hC2' rfl (fun v h=>by simp at h;rcases h with rfl|rfl|rfl|rfl|rfl<;>rfl) rfl rfl ?_;intro z hz' hbz hkz;try simp only[go_sem]
    refine hK _ _ ?_;clear hK hgd;clear K;try clear gd
    repeat refine c_r ?_
    refine .inr ⟨rfl,rfl,vq1 h6,Keep.to_ext (hwZ.trans (hZ1.trans hZ2)) rfl (fun b hb=>by omega) hkz,_,_,hgoR _ hren,hbz,?_⟩;have hfv1:Rows 5 (DatAt w0) Z1 (.slice (some xf) 1 cd) [d0]:=by
     have h2:=hdv;rw[hdv']at h2;have h1:=h2.take (m:=1) (c2:=cd) (by omega) (by omega);rw[htk]at h1;exact h1
    rw[hdv']at hdb;refine⟨_,_,_,rfl,?_,?_,.inl ⟨?_,?_⟩,Rows.nil _ _ _,BlkB.nil⟩
    ·exact(hfv1.ext hZ2).keep hkz (BlkB.same (hdb.ext hZ2.size)) (fun b hb _=>by omega)
    ·exact((BlkB.same (hdb.ext hZ2.size)).ext (by omega)).mono (by omega)
    ·rw[←hse];exact hsv.blocks fun a n c hv=>hkz.block _ (hsb a n c hv).2 (by have:=hsb a n c hv;omega)
    ·rw[←hse];exact(hsb.ext (by omega)).mono (by omega)
   ·have hb:=hbad hck;subst hb;rw[if_neg hck]at hren;try simp only[go_sem]
    refine hK _ _ ?_;clear hK hgd;clear K;try clear gd
    repeat refine c_r ?_
    refine rg0 ?_;repeat refine c_r ?_
    refine zay (t:=true) vr0 ?_ (fun h=>by cases h);intro _;repeat refine c_r ?_
    refine rq ?_;intro gd K hgd hK;try simp only[go_sem]
    refine⟨by kernel_rfl,?_⟩;rw[show bdV Tryz.prog 255 [(0,vi 6)]=some (.agg #[vi 6,.slice .none 0 0,.slice .none 0 0,.bool false,.slice .none 0 0]) from by kernel_rfl];try simp (disch:=first|omega|assumption|rfl) only[go_sem,h6]
    refine zaD (P:=Tryz.prog) (t:=255) (l:=[vi 6,.slice .none 0 0,.slice .none 0 0,.bool false,.slice .none 0 0]) hC2' rfl (fun v h=>by simp at h;rcases h with rfl|rfl|rfl|rfl|rfl<;>rfl) rfl rfl ?_;intro z hz' hbz hkz;try simp only[go_sem]
    refine hK _ _ ?_;clear hK hgd;clear K;try clear gd
    repeat refine c_r ?_
    exact .inr ⟨rfl,rfl,vq1 h6,Keep.to_ext (hwZ.trans (hZ1.trans hZ2)) rfl (fun b hb=>by omega) hkz,_,_,hgoR _ hren,hbz,⟨_,_,_,rfl,Rows.nil _ _ _,BlkB.nil,.inr (za7 _),Rows.nil _ _ _,BlkB.nil⟩⟩
  intro ht2;repeat refine c_r ?_
  refine rg1 h7 ?_;repeat refine c_r ?_
  refine⟨m - 1,by omega,rfl,(k:Int) - 1,by omega,vq0,?_,vq1 h1,vq1 h2,vq1 h3,vq1 h6,hEA.trans (hY.trans hZ)⟩;rcases hlj with rfl| ⟨j,rfl,rfl⟩
  ·exact .inl ⟨by omega,by rw[hgo];exact hgx _ ht rfl⟩
  ·refine .inr ⟨j,by omega,by omega,?_⟩;have hnone:zaE R q x= .none:=by
    unfold zaE;rw[if_pos];apply Classical.byContradiction;intro h;rw[show decide (0<j+1)=true from yet (by omega),(zlK hs).2 h]at ht2;cases ht2
   rw[hgo];simp only[goL];rw[ht,if_neg Bool.false_ne_true,if_neg (by omega),hnone]
 ·rintro e σ1 ds1 A (⟨rfl,rfl,h1,h2,h3,h6,hEA,hgo⟩| ⟨rfl,rfl,h6,hEw,r,cs,hgo,hb,hres⟩)
  rotate_left
  ·repeat refine c_r ?_
   refine zat (.inr rfl) Tryz.ntmps181 rfl (zaI (x:=⟨w.heap.size+1,0,.none⟩) (k:=5) ((vq1 h6)) rfl rfl (zae hb ?_) zap) ?_
   ·obtain⟨_,_,_,e,_⟩:=hres.ex;rw[e];rfl
   ·exact⟨hEw,_,rfl,by rw[hlkS r hgo];exact hres.mono (by omega)⟩
  have hwA:=hE12.trans hEA;have hzA:=hz.ext hwA;have hqA:=hq.ext hwA;rw[hqv]at hqA;have d2A:=zac (hE2.trans hEA) d2;have hCA:=Ext.at (hE2.trans hEA) hC;have sA:=(hE2.trans hEA).size;repeat refine c_r ?_
  refine rq ?_;intro gd K hgd hK;try simp (disch:=first|omega|assumption|rfl) only[go_sem,h3,h1,d2A]
  refine Fn.mono (zgA hzA hqA mq.s.lb (by omega)) ?_;rintro _ Y ⟨rfl,hY⟩;try simp only[go_sem]
  refine hK _ _ ?_;clear hK hgd;clear K;try clear gd
  have hzY:=hzA.ext hY;have hqY:=hqA.ext hY;have d2Y:=zac hY d2A;have hCY:=Ext.at hY hCA;have hwY:=hwA.trans hY;have sY:=hY.size;repeat refine c_r ?_
  refine zay (t:=zaK o R q) vr0 ?_ ?_
  ·intro hex;repeat refine c_r ?_
   refine rq ?_;intro gd K hgd hK;try simp (disch:=first|omega|assumption|rfl) only[go_sem,h3,h1,h2,d2Y]
   refine Fn.mono (RAt_ok hzY hs hR hL hqY mq.s) ?_;rintro _ Z ⟨hZ,cs,rfl,hres⟩;have sZ:=hZ.size;try simp (disch:=first|omega|assumption|rfl) only[go_sem,h6]
   refine zaD (P:=Tryz.prog) (t:=255) (l:=cs) (Ext.at hZ hCY) hres.cells.1 hres.cells.2 (by rw[hres.cells.1];rfl) rfl ?_;intro z hz' hbz hkz;try simp only[go_sem]
   refine hK _ _ ?_;clear hK hgd;clear K;try clear gd
   repeat refine c_r ?_
   refine zat (.inr rfl) Tryz.ntmps181 rfl (zaI (x:=⟨w.heap.size+1,0,.none⟩) (k:=5) ((vq1 h6)) rfl rfl (zae hbz hres.cells.1.symm) zap) ?_;refine⟨Keep.to_ext (hwY.trans hZ) rfl (fun b hb=>by omega) hkz,_,rfl,?_⟩;rw[hlkE hgo hex];exact((hres.n (hz.e0)).keep hkz (fun b hb _=>by omega)).mono (by omega)
  intro hex;repeat refine c_r ?_
  refine rq ?_;intro gd K hgd hK;try simp (disch:=first|omega|assumption|rfl) only[go_sem,h3,h1,d2Y]
  refine Fn.mono (zkv hzY hqY mq.s.lb (by omega)) ?_;rintro _ Z ⟨hZ,sv,rfl,hsv⟩;obtain⟨bb,hbb⟩:∃bb,(zaW o R q).isSome=bb:=⟨_,rfl⟩;rw[hbb];try simp only[go_sem]
  refine hK _ _ ?_;clear hK hgd;clear K;try clear gd
  have sZ:=hZ.size;have d2Z:=zac hZ d2Y;have hCZ:=Ext.at hZ hCY;repeat refine c_r ?_
  refine rg0 ?_;repeat refine c_r ?_
  cases bb with
  |true=>
   obtain⟨s,hso⟩:=yxs hbb;rw[hso]at hsv;have hse:s=zbt o R q:=by
    unfold zaW at hso
    split at hso
    ·cases hso;rfl
    ·cases hso
   have ms:NmS s:=hse▸zir (o:=o) (R:=R) mq.s (by omega);refine zay (t:=true) vr0 ?_ (fun h=>by cases h);intro _;repeat refine c_r ?_
   refine rq ?_;intro gd K hgd hK;try simp (disch:=first|omega|assumption|rfl) only[go_sem,h3,h2,d2Z]
   refine Fn.mono (RAt_ok (hzY.ext hZ) hs hR hL hsv ms) ?_;rintro _ Z2 ⟨hZ2,cs,rfl,hres⟩;have sZ2:=hZ2.size;try simp (disch:=first|omega|assumption|rfl) only[go_sem,h6]
   refine zaD (P:=Tryz.prog) (t:=255) (l:=cs) (Ext.at hZ2 hCZ) hres.cells.1 hres.cells.2 (by rw[hres.cells.1];rfl) rfl ?_;intro z hz' hbz hkz;try simp only[go_sem]
   refine hK _ _ ?_;clear hK hgd;clear K;try clear gd
   repeat refine c_r ?_
   refine zat (.inr rfl) Tryz.ntmps181 rfl (zaI (x:=⟨w.heap.size+1,0,.none⟩) (k:=5) ((vq1 h6)) rfl rfl (zae hbz hres.cells.1.symm) zap) ?_;refine⟨Keep.to_ext ((hwY.trans hZ).trans hZ2) rfl (fun b hb=>by omega) hkz,_,rfl,?_⟩;rw[hlkW hgo hex s hso];exact((hres.n (hz.e0)).keep hkz (fun b hb _=>by omega)).mono (by omega)
  |false=>
   have hso:zaW o R q= .none:=by simpa using hbb
   refine zay (t:=false) vr0 (fun h=>by cases h) ?_;intro _;repeat refine c_r ?_
   refine rq ?_;intro gd K hgd hK;try simp only[go_sem]
   refine⟨by kernel_rfl,?_⟩;rw[show bdV Tryz.prog 255 [(0,vi 3)]=some (.agg #[vi 3,.slice .none 0 0,.slice .none 0 0,.bool false,.slice .none 0 0]) from by kernel_rfl];try simp (disch:=first|omega|assumption|rfl) only[go_sem,h6]
   refine zaD (P:=Tryz.prog) (t:=255) (l:=[vi 3,.slice .none 0 0,.slice .none 0 0,.bool false,.slice .none 0 0]) hCZ rfl (fun v h=>by simp at h;rcases h with rfl|rfl|rfl|rfl|rfl<;>rfl) rfl rfl ?_;intro z hz' hbz hkz;try simp only[go_sem]
   refine hK _ _ ?_;clear hK hgd;clear K;try clear gd
   repeat refine c_r ?_
   refine zat (.inr rfl) Tryz.ntmps181 rfl (zaI (x:=⟨w.heap.size+1,0,.none⟩) (k:=5) ((vq1 h6)) rfl rfl (zae hbz rfl) zap) ?_;refine⟨Keep.to_ext (hwY.trans hZ) rfl (fun b hb=>by omega) hkz,_,rfl,?_⟩;rw[hlkN hgo hex hso];exact⟨_,_,_,rfl,Rows.nil _ _ _,BlkB.nil,.inr (za7 _),Rows.nil _ _ _,BlkB.nil⟩
theorem zmj{w0 w:World}(hE0:Ext w0 w){ov lv:Value}{o:Nm}{R:List RecL}(ho:Row w ov (o.map vs))(hl:Rows 7 (RecAt w0) w lv R)(hok:∀r∈R,zbr r)(hlen:R.length<=1000000000):
  Fn Tryz.prog 111 #[ov,lv] w (fun v w'=>Ext w w'/\∃cv,v= .agg #[ov,cv]/\Rows 7 (RecAt w0) w' cv (zaN R)):=by
 obtain⟨ao,co,hov,_⟩:=id ho;obtain⟨no,hno⟩:∃no,(o.map vs).length=no:=⟨_,rfl⟩;rw[hno]at hov;refine enter Tryz.func111 Tryz.ntmps111 rfl rfl ?_;refine gz0 ?_;refine zax ?_;intro w1 hE1 hs1 hA;refine rq ?_;intro gd K hgd hK;try simp only[go_sem]
 refine Fn.mono (zjP w0 w1 (hE0.trans hE1) (hl.ext hE1) hok hlen) ?_;rintro cv w2 ⟨hcv,hE2,hcb⟩;obtain⟨ac,cc,hcve,_⟩:=hcv.open;try simp only[go_sem]
 refine⟨by kernel_rfl,?_⟩;rw[hov,hcve,show bdV Tryz.prog 122 [(0,.slice ao no co),(1,.slice ac (zaN R).length cc)]=some (.agg #[.slice ao no co,.slice ac (zaN R).length cc]) from by kernel_rfl];try simp only[go_sem]
 refine zaD (P:=Tryz.prog) (t:=122) (l:=[.slice ao no co,.slice ac (zaN R).length cc]) (Ext.at hE2 hA) rfl (fun v h=>by simp at h;rcases h with rfl|rfl<;>rfl) rfl rfl ?_;intro z hz' hbz hkz;try simp only[go_sem]
 refine en hK ?_;refine zat (.inr rfl) Tryz.ntmps111 rfl (zaI (x:=⟨w.heap.size,0,.none⟩) (k:=2) vq0 rfl rfl (zae hbz rfl) zap) ?_;refine⟨Keep.to_ext (hE1.trans hE2) rfl (fun b hb=>by omega) hkz,.slice ac (zaN R).length cc,by rw[hov];rfl,?_⟩;rw[←hcve];exact hcv.keep hkz hcb (fun b hb _=>by omega)
theorem RZNew_ok{w0 w:World}(hE0:Ext w0 w){ov lv:Value}{o:Nm}{R:List RecL}(ho:Row w ov (o.map vs))(hl:Rows 7 (RecAt w0) w lv R)(hok:∀r∈R,zbr r)(hlen:R.length<=1000000000):
  Fn Tryz.prog 65 #[ov,lv] w (fun v w'=>Ext w w'/\∃cv,v= .agg #[ov,cv]/\Rows 7 (RecAt w0) w' cv (zaN R)):=by
 obtain⟨ao,co,hov,_⟩:=id ho;obtain⟨no,hno⟩:∃no,(o.map vs).length=no:=⟨_,rfl⟩;rw[hno]at hov;refine enter Tryz.func65 Tryz.ntmps65 rfl rfl ?_;refine gz0 ?_;refine zax ?_;intro w1 hE1 hs1 hA;refine rq ?_;intro gd K hgd hK;try simp only[go_sem]
 refine Fn.mono (zid w0 w1 (hE0.trans hE1) (hl.ext hE1) hok hlen) ?_;rintro cv w2 ⟨hcv,hE2⟩;obtain⟨ac,cc,hcve,_⟩:=hcv.rows.open;try simp only[go_sem]
 refine⟨by kernel_rfl,?_⟩;rw[hov,hcve,show bdV Tryz.prog 128 [(0,.slice ao no co),(1,.slice ac (zaN R).length cc)]=some (.agg #[.slice ao no co,.slice ac (zaN R).length cc]) from by kernel_rfl];try simp only[go_sem]
 refine zaD (P:=Tryz.prog) (t:=128) (l:=[.slice ao no co,.slice ac (zaN R).length cc]) (Ext.at hE2 hA) rfl (fun v h=>by simp at h;rcases h with rfl|rfl<;>rfl) rfl rfl ?_;intro z hz' hbz hkz;try simp only[go_sem]
 refine en hK ?_;refine zat (.inr rfl) Tryz.ntmps65 rfl (zaI (x:=⟨w.heap.size,0,.none⟩) (k:=2) vq0 rfl rfl (zae hbz rfl) zap) ?_;refine⟨Keep.to_ext (hE1.trans hE2) rfl (fun b hb=>by omega) hkz,.slice ac (zaN R).length cc,by rw[hov];rfl,?_⟩;rw[←hcve];exact hcv.rows.keep hkz hcv.blk (fun b hb _=>by omega)
def zbX(n:Nm):Bool:=few n && decide (zaA n=0)
theorem zbk{n:Nm}(h:zaA n=0):∀l∈n,l≠ []/\l.length<=63:=by
 intro l hl;unfold zaA at h;cases hf:n.find? (fun l=>decide (errL l≠0)) with
 |some x=>
  rw[hf]at h;have:=List.find?_some hf;simp only[ydT]at this;exact absurd h this
 |none=>
  have:=List.find?_eq_none.1 hf l hl;simp only[ydT,Decidable.not_not]at this;unfold errL at this
  split at this
  ·cases this
  ·rename_i h0;refine⟨h0,?_⟩
   split at this
   ·cases this
   ·omega
theorem sum_ge:∀n:Nm,n.length<=(n.map fun l=>1+l.length).sum
 | []=>Nat.zero_le _
 |a::n=>by
  have ih:=sum_ge n;rw[List.map_cons,List.sum_cons];have e:(a::n).length=n.length+1:=rfl;omega
theorem zgt{n:Nm}(h:zaA n=0):n.length<=255:=by
 have hl:=zbk h;unfold zaA at h
 split at h
 ·rename_i x hf;have:=List.find?_some hf;simp only[ydT]at this;exact absurd h this
 ·split at h
  ·cases h
  ·rename_i h2;unfold lenN at h2;have:=sum_ge n;omega
theorem zei{n:Nm}(h:zaA n=0):NmG n:=
 ⟨fun l hl=>(zbk h l hl).1,fun l hl=>by have:=(zbk h l hl).2;omega,by have:=zgt h;omega⟩
theorem zcb{n:Nm}(h:zbX n=true):NmG n:=by
 unfold zbX at h;simp only[Bool.and_eq_true,ydT]at h;exact zei h.2
theorem zjN(w:World)(a:Value)(xs:Nm)(ha:Row w a (xs.map vs)):
  Fn Tryz.prog 17 #[a] w (fun v w'=>v= .bool (zbX xs)/\Ext w w'):=by
 refine enter Tryz.func17 Tryz.ntmps17 rfl rfl ?_;refine gz0 ?_;cases hf:few xs with
 |true=>
  refine rq ?_;intro gd K hgd hK;have hg2:=gk 2 5 hgd rfl;try simp only[go_sem]
  refine Fn.mono (zgB w a xs ha) ?_;rintro _ w1 ⟨rfl,hE1⟩;rw[hf];try simp (disch:=first|omega|assumption|rfl) only[go_sem,↓hg2]
  refine Fn.mono (zbc w1 a xs (ha.ext hE1) (fun l hl=>by
   have:=few_lb hf l hl;simp only[few,Bool.and_eq_true,List.all_eq_true,ydT]at hf;have:=hf.2 l hl;omega) (by have:=few_len hf;omega)) ?_
  rintro _ w2 ⟨rfl,hE2⟩;try simp (disch:=first|omega|assumption|rfl) only[go_sem,↓hg2]
  refine en hK ?_;refine rt0 Tryz.ntmps17 ?_;refine⟨?_,hE1.trans hE2⟩;unfold zbX;rw[hf,Bool.true_and]
 |false=>
  refine rq ?_;intro gd K hgd hK;have hg2:=gk 2 5 hgd rfl;try simp only[go_sem]
  refine Fn.mono (zgB w a xs ha) ?_;rintro _ w1 ⟨rfl,hE1⟩;rw[hf];try simp (disch:=first|omega|assumption|rfl) only[go_sem,↓hg2]
  refine en hK ?_;refine rt0 Tryz.ntmps17 ?_;refine⟨?_,hE1⟩;unfold zbX;rw[hf,Bool.false_and]
theorem zmF(w:World)(t:Int):
  Fn Tryz.prog 264 #[vi t] w (fun v w'=>w'=w/\∃a b c:Int,v= .tuple #[vi a,vi b,vi c]/\((t=2\/t=5\/t=39)->a=1)/\(t=15->b=1)):=by
 refine enter Tryz.func264 Tryz.ntmps264 rfl rfl ?_;refine gz0 ?_;refine wc0 ?_ ?_
 ·intro h1;simp only[ydT]at h1;refine gz0 ?_;refine zat (.inr rfl) Tryz.ntmps264 rfl (zam vr0 (zam vr0 (zam vr0 zap))) ?_;exact⟨rfl,0,0,4,rfl,by omega,by omega⟩
 intro h1;simp only[ydF]at h1;refine gz0 ?_;refine wc0 ?_ ?_
 ·intro h2;simp only[ydT]at h2;refine gz0 ?_;refine zat (.inr rfl) Tryz.ntmps264 rfl (zam vr0 (zam vr0 (zam vr0 zap))) ?_;exact⟨rfl,0,0,16,rfl,by omega,by omega⟩
 intro h2;simp only[ydF]at h2;refine zf8 ?_;refine zaw (Q:=fun e σ' ds' v'=>e= .normal/\ds'=[]/\v'=w/\σ' 5=vi t/\∃bb,σ' 10= .bool bb/\bb=(decide (t=2)|| (decide (t=5)|| (decide (t=12)||decide (t=39))))) ?_ ?_
 ·refine zf8 ?_;refine rg0 ?_;refine zas ?_;refine wc0 ?_ ?_
  ·intro h;repeat refine c_r ?_
   exact⟨rfl,rfl,rfl,vq0,true,by simp only[go_sem];rw[h],by rw[h];rfl⟩
  intro e1;refine zf8 ?_;refine rg0 ?_;refine zas ?_;refine wc0 ?_ ?_
  ·intro h;repeat refine c_r ?_
   exact⟨rfl,rfl,rfl,vq0,true,by simp only[go_sem];rw[h],by rw[e1,h];rfl⟩
  intro e2;refine zf8 ?_;refine rg0 ?_;refine zas ?_;refine wc0 ?_ ?_
  ·intro h;repeat refine c_r ?_
   exact⟨rfl,rfl,rfl,vq0,true,by simp only[go_sem];rw[h],by rw[e1,e2,h];rfl⟩
  intro e3;refine rg0 ?_;exact⟨rfl,rfl,rfl,vq0,decide (t=39),vr0,by rw[e1,e2,e3];rfl⟩
 rintro _ σ1 _ v1 ⟨rfl,rfl,hv1,h5,bb,h10,hbb⟩;rw[hv1];clear hv1 v1;repeat refine c_r ?_
 refine zay (t:=bb) ((vq1 h10)) ?_ ?_
 ·intro ht;rw[ht]at hbb;refine gz0 ?_;refine zat (.inr rfl) Tryz.ntmps264 rfl (zam vr0 (zam vr0 (zam vr0 zap))) ?_;refine⟨rfl,1,0,0,rfl,fun _=>rfl,fun h=>?_⟩;subst h;cases hbb
 intro ht;rw[ht]at hbb;have hno:¬(t=2\/t=5\/t=39):=by
  rintro(rfl|rfl|rfl)<;>cases hbb
 refine gz h5 ?_;refine wc0 ?_ ?_
 ·intro h3;refine gz0 ?_;refine zat (.inr rfl) Tryz.ntmps264 rfl (zam vr0 (zam vr0 (zam vr0 zap))) ?_;exact⟨rfl,1,1,0,rfl,fun _=>rfl,fun _=>rfl⟩
 intro h3;simp only[ydF]at h3;refine gz h5 ?_;refine wc0 ?_ ?_
 ·intro h4;refine gz0 ?_;refine zat (.inr rfl) Tryz.ntmps264 rfl (zam vr0 (zam vr0 (zam vr0 zap))) ?_;exact⟨rfl,2,5,0,rfl,fun h=>absurd h hno,fun h=>absurd h h3⟩
 intro h4;refine gz h5 ?_;refine wc0 ?_ ?_
 ·intro h6;refine gz0 ?_;refine zat (.inr rfl) Tryz.ntmps264 rfl (zam vr0 (zam vr0 (zam vr0 zap))) ?_;exact⟨rfl,0,0,0,rfl,fun h=>absurd h hno,fun h=>absurd h h3⟩
 intro h6;refine gz0 ?_;refine zat (.inr rfl) Tryz.ntmps264 rfl (zam vr0 (zam vr0 (zam vr0 zap))) ?_;exact⟨rfl,0,0, -1,rfl,fun h=>absurd h hno,fun h=>absurd h h3⟩
theorem zb1(b:Bool):zbS undef b=false:=nr rfl
structure DatF(d:DatL):Prop where
 names:∀n∈d.names,(∀l∈n,l.length<=1000000000)/\n.length<=1000000000
 nn:d.names.length<=1000000000
 nu:d.nums.length<=1000000000
 nt:d.texts.length<=1000000000
 tl:∀l∈d.texts,l.length<=1000000000
 nr:d.raw.length<=1000000000
 n8:d.names.length<=8
def zgQ(t:Int):Prop:=t=2\/t=5\/t=39
theorem zhc{w0 w:World}(hE0:Ext w0 w){cs:List Value}{d:DatL}(hd:DatAt w0 cs d)(hf:DatF d):
  Fn Tryz.prog 218 #[.agg cs.toArray] w (fun v w'=>Ext w w'/\∃e:Int,v=vi e/\(e=0->(∀n∈d.names,zaA n=0)/\(zgQ d.ty->d.names.length=1))):=by
 obtain⟨nm,nu,tx,rw',rfl,⟨vals,⟨an,cn,rfl,hcn,hgn⟩,hvl,hvr⟩,⟨au,cu,rfl,hcu,hgu⟩,⟨at1,ct,rfl,hct,hgt⟩,⟨ar,cr,rfl,hcr,hgr⟩⟩:=hd.ex;simp only[ylm]at hcu hgu hct hgt hcr hgr;simp only[ylm];obtain⟨L,hL⟩:∃L:List Value,[vi d.ty,.slice an vals.length cn,.slice au d.nums.length cu,.slice at1 d.texts.length ct,.slice ar d.raw.length cr]=L:=⟨_,rfl⟩;refine enter Tryz.func218 Tryz.ntmps218 rfl rfl ?_;refine gz0 ?_;refine zax ?_;intro w1 hE1 hs1 hA;have p0:zad w1 (some ⟨w.heap.size,0,.none⟩)=some (vi d.ty):=zab hA rfl;have p1:zad w1 (some ⟨w.heap.size,1,.none⟩)=some (.slice an vals.length cn):=zab hA rfl;have p2:zad w1 (some ⟨w.heap.size,2,.none⟩)=some (.slice au d.nums.length cu):=zab hA rfl;have p3:zad w1 (some ⟨w.heap.size,3,.none⟩)=some (.slice at1 d.texts.length ct):=zab hA rfl;have p4:zad w1 (some ⟨w.heap.size,4,.none⟩)=some (.slice ar d.raw.length cr):=zab hA rfl;have nn:=hf.nn;have nu:=hf.nu;have nt:=hf.nt;have nr:=hf.nr;have rd:∀{x},Ext w1 x->zad x (some ⟨w.heap.size,1,.none⟩)=some (.slice an vals.length cn)/\zad x (some ⟨w.heap.size,3,.none⟩)=some (.slice at1 d.texts.length ct)/\zad x (some ⟨w.heap.size,0,.none⟩)=some (vi d.ty)/\zad x (some ⟨w.heap.size,2,.none⟩)=some (.slice au d.nums.length cu)/\zad x (some ⟨w.heap.size,4,.none⟩)=some (.slice ar d.raw.length cr):=
  fun hx=>⟨zaa hx p1,zaa hx p3,zaa hx p0,zaa hx p2,zaa hx p4⟩
 refine zaw (Q:=fun e σ' ds' v'=>e= .normal/\ds'=[]/\σ' 1= .pointer (some ⟨w.heap.size,0,.none⟩)/\v'=w1/\∃bb,σ' 17= .bool bb) ?_ ?_
 ·by_cases h1:d.ty<1
  ·refine rq ?_;intro gd K hgd hK;have hg3:=gk 3 13 hgd rfl;try simp (disch:=first|omega|assumption|rfl) only[go_sem,p0,Nat.add_zero,yet h1,↓hg3]
   apply hK;exact⟨rfl,rfl,vq0,rfl,_,vr0⟩
  ·refine rq ?_;intro gd K hgd hK;have hg3:=gk 3 13 hgd rfl;try simp (disch:=first|omega|assumption|rfl) only[go_sem,p0,Nat.add_zero,yef h1,↓hg3]
   apply hK;exact⟨rfl,rfl,vq0,rfl,_,vr0⟩
 rintro _ σ1 _ v1 ⟨rfl,rfl,h1,hv1,bb,h17⟩;rw[hv1];clear hv1 v1;repeat refine c_r ?_
 refine zay (t:=bb) ((vq1 h17)) ?_ ?_
 ·intro _;refine gz0 ?_;refine rt0 Tryz.ntmps218 ?_;exact⟨hE1,6,rfl,fun h=>by cases h⟩
 intro _;refine rqz ?_;intro gd K hgd hK;refine sgz (az3 h1 p0 Nat.add_zero) ?_;refine Fn.mono (zmF w1 d.ty) ?_;rintro _ w2 ⟨hw2,a,b,c,rfl,hca,hcb⟩;rw[hw2];clear hw2 w2;try simp only[go_sem]
 apply hK;refine gz (az5 h1 p3 yn0 p0 Nat.add_zero) ?_;refine zaw (Q:=fun e σ' ds' v'=>e= .normal/\ds'=[]/\σ' 1= .pointer (some ⟨w.heap.size,0,.none⟩)/\σ' 3=vi a/\σ' 4=vi b/\σ' 5=vi c/\v'=w1/\∃bb,σ' 6= .bool bb) ?_ ?_
 ·refine wc0 ?_ ?_
  ·intro h16;repeat refine c_r ?_
   by_cases h2:(d.texts.length:Int)>=1
   ·refine rq ?_;intro gd K hgd hK;have hg4:=gk 4 36 hgd rfl;try simp (disch:=first|omega|assumption|rfl) only[go_sem,h1,p3,yn0,yet h2,↓hg4]
    apply hK;exact⟨rfl,rfl,vq1 h1,vq0,vq0,vq0,rfl,_,vr0⟩
   ·refine rq ?_;intro gd K hgd hK;have hg4:=gk 4 36 hgd rfl;try simp (disch:=first|omega|assumption|rfl) only[go_sem,h1,p3,yn0,yef h2,↓hg4]
    apply hK;exact⟨rfl,rfl,vq1 h1,vq0,vq0,vq0,rfl,_,vr0⟩
  ·intro h16;repeat refine c_r ?_
   exact⟨rfl,rfl,vq1 h1,vq0,vq0,vq0,rfl,_,vr0⟩
 clear h1;rintro _ σ2 _ v1 ⟨rfl,rfl,h1,h3,h4,h5,hv1,b6,h6⟩;rw[hv1];clear hv1 v1;repeat refine c_r ?_
 refine zaw (Q:=fun e σ' ds' v'=>e= .normal/\ds'=[]/\σ' 1= .pointer (some ⟨w.heap.size,0,.none⟩)/\v'=w1/\∃bb,σ' 68= .bool bb/\(bb=false->(vals.length:Int)=a/\(d.nums.length:Int)=b)) ?_ ?_
 ·by_cases hA:(vals.length:Int)=a
  rotate_left
  ·refine rq ?_;intro gd K hgd hK;have hg5:=gk 5 47 hgd rfl;have hg12:=gk 12 54 hgd rfl;have hg15:=gk 15 57 hgd rfl;have hg23:=gk 23 65 hgd rfl;try simp (disch:=first|omega|assumption|rfl) only[go_sem,h1,h3,h4,h5,h6,p1,p2,p4,yn0,yef hA,Bool.not_true,Bool.not_false,zb1,↓hg5,↓hg12,↓hg15,↓hg23]
   apply hK;exact⟨rfl,rfl,vq1 h1,rfl,_,vr0,fun h=>by cases h⟩
  by_cases hB:(d.nums.length:Int)=b
  rotate_left
  ·refine rq ?_;intro gd K hgd hK;have hg5:=gk 5 47 hgd rfl;have hg12:=gk 12 54 hgd rfl;have hg15:=gk 15 57 hgd rfl;have hg23:=gk 23 65 hgd rfl;try simp (disch:=first|omega|assumption|rfl) only[go_sem,h1,h3,h4,h5,h6,p1,p2,p4,yn0,yet hA,yef hB,Bool.not_true,Bool.not_false,zb1,↓hg5,↓hg12,↓hg15,↓hg23]
   apply hK;exact⟨rfl,rfl,vq1 h1,rfl,_,vr0,fun h=>by cases h⟩
  by_cases hC:c>=0
  ·by_cases hD:(d.raw.length:Int)=c
   ·refine rq ?_;intro gd K hgd hK;have hg5:=gk 5 47 hgd rfl;have hg12:=gk 12 54 hgd rfl;have hg15:=gk 15 57 hgd rfl;have hg23:=gk 23 65 hgd rfl;try simp (disch:=first|omega|assumption|rfl) only[go_sem,h1,h3,h4,h5,h6,p1,p2,p4,yn0,yet hA,yet hB,yet hC,yet hD,Bool.not_true,Bool.not_false,zb1,↓hg5,↓hg12,↓hg15,↓hg23]
    apply hK;exact⟨rfl,rfl,vq1 h1,rfl,_,vr0,fun _=>⟨hA,hB⟩⟩
   ·refine rq ?_;intro gd K hgd hK;have hg5:=gk 5 47 hgd rfl;have hg12:=gk 12 54 hgd rfl;have hg15:=gk 15 57 hgd rfl;have hg23:=gk 23 65 hgd rfl;try simp (disch:=first|omega|assumption|rfl) only[go_sem,h1,h3,h4,h5,h6,p1,p2,p4,yn0,yet hA,yet hB,yet hC,yef hD,Bool.not_true,Bool.not_false,zb1,↓hg5,↓hg12,↓hg15,↓hg23]
    apply hK;exact⟨rfl,rfl,vq1 h1,rfl,_,vr0,fun h=>by cases h⟩
  ·refine rq ?_;intro gd K hgd hK;have hg5:=gk 5 47 hgd rfl;have hg12:=gk 12 54 hgd rfl;have hg15:=gk 15 57 hgd rfl;have hg23:=gk 23 65 hgd rfl;try simp (disch:=first|omega|assumption|rfl) only[go_sem,h1,h3,h4,h5,h6,p1,p2,p4,yn0,yet hA,yet hB,yef hC,Bool.not_true,Bool.not_false,zb1,↓hg5,↓hg12,↓hg15,↓hg23]
   apply hK;exact⟨rfl,rfl,vq1 h1,rfl,_,vr0,fun _=>⟨hA,hB⟩⟩
 clear h1 h3 h4 h5 h6;rintro _ σ3 _ v1 ⟨rfl,rfl,h1,hv1,b7,h68,hb7⟩;rw[hv1];clear hv1 v1;repeat refine c_r ?_
 refine zay (t:=b7) ((vq1 h68)) ?_ ?_
 ·intro _;refine gz0 ?_;refine rt0 Tryz.ntmps218 ?_;exact⟨hE1,2,rfl,fun h=>by cases h⟩
 intro hb;obtain⟨hA,hB⟩:=hb7 hb;have hlead:zgQ d.ty->d.names.length=1:=fun h=>by have:=hca h;omega
 refine gz0 ?_;refine zaw (Q:=fun e σ' ds' v'=>ds'=[]/\Ext w1 v'/\((e= .exit 0/\σ' 1= .pointer (some ⟨w.heap.size,0,.none⟩)/\∀n∈d.names,zaA n=0)\/(e= .ret/\∃e2:Int,e2≠0/\σ' 2=vi e2))) ?_ ?_
 ·refine zao (fun m σ ds A=>ds=[]/\∃(i:Nat),i+m=vals.length/\σ 7=vi i/\σ 1= .pointer (some ⟨w.heap.size,0,.none⟩)/\Ext w1 A/\∀j (h:j<d.names.length),j<i->zaA d.names[j]=0) vals.length ?_ ?_
  ·exact⟨rfl,0,by omega,vr0,vq1 h1,Keep.refl _ _,fun j h hj=>absurd hj (by omega)⟩
  clear h1;rintro m σ ds A ⟨rfl,i,him,h7,h1,hEA,hlow⟩;obtain⟨q1,q3,q0,q2,q4⟩:=rd hEA;refine gz (az4 h7 h1 q1 yn0) ?_;refine wc0 ?_ ?_
  ·intro hlt;simp only[ydT]at hlt;have hi:i<vals.length:=by omega
   have hi0:=cj i;have hi1:(i:Int)<(vals.length:Int):=by omega
   have hi1':=ci i;have hgi:=hgn i hi;obtain⟨xN,rfl⟩:=yxs (zag hgi);have hgi':=zaa (hE0.trans (hE1.trans hEA)) hgi;have hrow:=hvr i hi (by omega);obtain⟨n,hn⟩:∃n,d.names[i]'(by omega)=n:=⟨_,rfl⟩;rw[hn]at hrow;have hnf:=hf.names n (hn▸List.getElem_mem _);obtain⟨hv,hhv⟩:∃hv,vals[i]=hv:=⟨_,rfl⟩;rw[hhv]at hgi' hrow;refine rqz ?_;intro gd K hgd hK;refine sgz (az7 h7 h1 q1 yn0 hi0 hi1 hgi') ?_;refine Fn.mono (zbc A hv n (hrow.ext (hE0.trans (hE1.trans hEA))) hnf.1 hnf.2) ?_;rintro _ A2 ⟨rfl,hA2⟩;try simp only[go_sem]
   apply hK;refine gz0 ?_;by_cases h0:zaA n=0
   ·rw[h0];refine zay (t:=false) vr0 (fun h=>by cases h) ?_;intro _;refine gz (az2 h7 hi1') ?_;refine⟨m - 1,by omega,rfl,i+1,by omega,vq0,vq1 h1,hEA.trans hA2,fun j hj hji=>?_⟩;by_cases hj2:j=i
    ·subst hj2;rw[hn];exact h0
    ·exact hlow j hj (by omega)
   ·refine zay (t:=!decide (zaA n=0)) vr0 ?_ (fun h=>by rw[yef h0]at h;cases h);intro _;refine gz0 ?_;exact⟨rfl,hEA.trans hA2,.inr ⟨rfl,zaA n,h0,vq0⟩⟩
  ·intro hge;simp only[ydF]at hge;repeat refine c_r ?_
   refine⟨rfl,hEA,.inl ⟨rfl,vq1 h1,fun n hn=>?_⟩⟩;obtain⟨j,hj,rfl⟩:=List.getElem_of_mem hn;exact hlow j hj (by omega)
 clear h1;rintro e σ4 _ A ⟨rfl,hEA,⟨rfl,h1,hall⟩| ⟨rfl,e2,he2,h2⟩⟩
 rotate_left
 ·repeat refine c_r ?_
  refine rt1 h2 Tryz.ntmps218 ?_;exact⟨hE1.trans hEA,e2,rfl,fun h=>absurd h he2⟩
 have fin:∀e:Int,e=0->(∀n∈d.names,zaA n=0)/\(zgQ d.ty->d.names.length=1):=fun e _=>⟨hall,hlead⟩;obtain⟨q1,q3,q0,q2,q4⟩:=rd hEA;repeat refine c_r ?_
 have hvl0:(d.names.length:Int)=a:=by omega
 refine zaw (Q:=fun e σ' ds' v'=>e= .normal/\ds'=[]/\σ' 1= .pointer (some ⟨w.heap.size,0,.none⟩)/\v'=A/\∃bb,σ' 94= .bool bb) ?_ ?_
 ·by_cases h15:d.ty=15
  ·have hb1:=hcb h15;have hnu1:(0:Int)<(d.nums.length:Int):=by omega
   have hz0:(0:Int)<=0:=by omega
   have hg0:=hgu 0 (by omega);obtain⟨xU,rfl⟩:=yxs (zag hg0);rw[zaj]at hg0;have hg0':=zaa (hE0.trans (hE1.trans hEA)) hg0;rw[List.getElem_map]at hg0';refine rq ?_;intro gd K hgd hK;have hg3:=gk 3 88 hgd rfl;try simp (disch:=first|omega|assumption|rfl) only[go_sem,h1,q0,q2,Nat.add_zero,yn0,yet h15,hnu1,hz0,hg0',Nat.zero_mul,zaj,Int.toNat_zero,↓hg3]
   apply hK;exact⟨rfl,rfl,vq1 h1,rfl,_,vr0⟩
  ·refine rq ?_;intro gd K hgd hK;have hg3:=gk 3 88 hgd rfl;try simp (disch:=first|omega|assumption|rfl) only[go_sem,h1,q0,Nat.add_zero,yef h15,↓hg3]
   apply hK;exact⟨rfl,rfl,vq1 h1,rfl,_,vr0⟩
 clear h1;rintro _ σ5 _ v1 ⟨rfl,rfl,h1,hv1,b94,h94⟩;rw[hv1];clear hv1 v1;repeat refine c_r ?_
 refine zay (t:=b94) ((vq1 h94)) ?_ ?_
 ·intro _;refine gz0 ?_;refine rt0 Tryz.ntmps218 ?_;exact⟨hE1.trans hEA,7,rfl,fun h=>by cases h⟩
 intro _;refine gz0 ?_;refine zaw (Q:=fun e σ' ds' v'=>ds'=[]/\v'=A/\((e= .exit 2/\σ' 1= .pointer (some ⟨w.heap.size,0,.none⟩))\/(e= .ret/\σ' 2=vi 3))) ?_ ?_
 ·refine zao (fun m σ ds B=>ds=[]/\∃(i:Nat),i+m=d.texts.length/\σ 9=vi i/\σ 1= .pointer (some ⟨w.heap.size,0,.none⟩)/\B=A) d.texts.length ?_ ?_
  ·exact⟨rfl,0,by omega,vr0,vq1 h1,rfl⟩
  clear h1;rintro m σ ds B ⟨rfl,i,him,h9,h1,hB2⟩;rw[hB2];clear hB2 B;refine gz (az4 h9 h1 q3 yn0) ?_;refine wc0 ?_ ?_
  ·intro hlt;simp only[ydT]at hlt;have hi:i<d.texts.length:=by omega
   have hi0:=cj i;have hi1:(i:Int)<(d.texts.length:Int):=by omega
   have hi1':=ci i;have hgi:=hgt i hi;obtain⟨xT,rfl⟩:=yxs (zag hgi);have hgi':=zaa (hE0.trans (hE1.trans hEA)) hgi;rw[List.getElem_map]at hgi';have htl:=hf.tl _ (List.getElem_mem hi);refine gz (az7 h9 h1 q3 yn0 hi0 hi1 hgi') ?_;refine wc0 ?_ ?_
   ·intro hgt2;refine gz0 ?_;exact⟨rfl,rfl,.inr ⟨rfl,vq0⟩⟩
   ·intro hgt2;refine gz (az2 h9 hi1') ?_;exact⟨m - 1,by omega,rfl,i+1,by omega,vq0,vq1 h1,rfl⟩
  ·intro hge;repeat refine c_r ?_
   exact⟨rfl,rfl,.inl ⟨rfl,vq1 h1⟩⟩
 clear h1;rintro e σ6 _ v1 ⟨rfl,hv1,⟨rfl,h1⟩| ⟨rfl,h2⟩⟩
 rotate_left
 ·rw[hv1];repeat refine c_r ?_
  refine rt1 h2 Tryz.ntmps218 ?_;exact⟨hE1.trans hEA,3,rfl,fun h=>by cases h⟩
 rw[hv1];clear hv1 v1;refine gz (az3 h1 q4 yn0) ?_;refine wc0 ?_ ?_
 ·intro _;refine gz0 ?_;refine rt0 Tryz.ntmps218 ?_;exact⟨hE1.trans hEA,3,rfl,fun h=>by cases h⟩
 intro _;refine gz0 ?_;refine rt0 Tryz.ntmps218 ?_;exact⟨hE1.trans hEA,0,rfl,fin 0⟩
structure DatX(w0:World)(B:Nat)(A:World)(nm:Value)(cs:List Value)(d:DatL):Prop where
 ex:∃nu tx rw vals,cs=[vi d.ty,nm,nu,tx,rw]/\Row A nm vals/\vals.length=d.names.length/\(∀i (h:i<vals.length) (h':i<d.names.length),Row w0 vals[i] (d.names[i].map vs))/\Row w0 nu (d.nums.map v32)/\Row w0 tx (d.texts.map vs)/\Row w0 rw (d.raw.map zaf)
 blk:BlkB B A nm
theorem DatX.at{w0 A:World}{B:Nat}{nm:Value}{cs:List Value}{d:DatL}(h:DatX w0 B A nm cs d)(hE:Ext w0 A):DatAt A cs d:=by
 obtain⟨nu,tx,rw,vals,e,h1,h2,h3,h4,h5,h6⟩:=h.ex;exact⟨nm,nu,tx,rw,e,⟨vals,h1,h2,fun i a b=>(h3 i a b).ext hE⟩,h4.ext hE,h5.ext hE,h6.ext hE⟩
theorem DatX.keep{w0 A x:World}{B:Nat}{nm:Value}{cs:List Value}{d:DatL}(h:DatX w0 B A nm cs d){S:Nat->Prop}(hk:Keep S A x)(hS:∀a n c,nm= .slice (some a) n c->¬S a.block):DatX w0 B x nm cs d:=by
 obtain⟨nu,tx,rw,vals,e,h1,h2,h3,h4,h5,h6⟩:=h.ex;exact⟨⟨nu,tx,rw,vals,e,h1.blocks fun a n c hv=>hk.block _ (h.blk a n c hv).2 (hS a n c hv),h2,h3,h4,h5,h6⟩,h.blk.ext hk.size⟩
theorem DatX.mono{w0 A:World}{B B':Nat}{nm:Value}{cs:List Value}{d:DatL}(h:DatX w0 B A nm cs d)(hB:B'<=B):DatX w0 B' A nm cs d:=⟨h.ex,h.blk.mono hB⟩
theorem DOf_ok{w0 w:World}(hE0:Ext w0 w){cs:List Value}{d:DatL}(hd:DatAt w0 cs d)(hnn:d.names.length<=1000000000):
  Fn Tryz.prog 164 #[.agg cs.toArray] w (fun v w'=>Ext w w'/\∃cs' nm,v= .agg cs'.toArray/\DatX w0 w.heap.size w' nm cs' d):=by
 obtain⟨nm,nu,tx,rw',rfl,⟨vals,⟨an,cn,rfl,hcn,hgn⟩,hvl,hvr⟩,hnu,htx,hrw⟩:=hd.ex;obtain⟨au,cu,rfl,_⟩:=id hnu;obtain⟨at1,ct,rfl,_⟩:=id htx;obtain⟨ar,cr,rfl,_⟩:=id hrw;refine enter Tryz.func164 Tryz.ntmps164 rfl rfl ?_;refine gz0 ?_;rw[zai];refine zaF ?_;intro w1 hE1 hs1 hA hC;have p0:zad w1 (some ⟨w.heap.size,0,.none⟩)=some (vi d.ty):=zab hA rfl;have p1:zad w1 (some ⟨w.heap.size,1,.none⟩)=some (.slice an vals.length cn):=zab hA rfl;have p2:zad w1 (some ⟨w.heap.size,2,.none⟩)=some (.slice au (d.nums.map v32).length cu):=zab hA rfl;have p3:zad w1 (some ⟨w.heap.size,3,.none⟩)=some (.slice at1 (d.texts.map vs).length ct):=zab hA rfl;have p4:zad w1 (some ⟨w.heap.size,4,.none⟩)=some (.slice ar (d.raw.map zaf).length cr):=zab hA rfl;refine rq ?_;intro gd K hgd hK;refine sgz (az6 p0 p2 p3 p4 Nat.add_zero yn0) ?_;refine⟨by kernel_rfl,?_⟩;rw[show bdV Tryz.prog 208 [(0,vi d.ty),(2,.slice au (d.nums.map v32).length cu),(3,.slice at1 (d.texts.map vs).length ct),(4,.slice ar (d.raw.map zaf).length cr)]=some (.agg #[vi d.ty,.slice .none 0 0,.slice au (d.nums.map v32).length cu,.slice at1 (d.texts.map vs).length ct,.slice ar (d.raw.map zaf).length cr]) from by kernel_rfl];try simp only[go_sem]
 have hB3:=zau w1 (.cells #[vi 0,.slice .none 0 0,.slice .none 0 0,.slice .none 0 0,.slice .none 0 0] 208 (0,0));have hE4:=Ext.alloc w1 (.cells #[vi 0,.slice .none 0 0,.slice .none 0 0,.slice .none 0 0,.slice .none 0 0] 208 (0,0));have hs4:=zai w1 (.cells #[vi 0,.slice .none 0 0,.slice .none 0 0,.slice .none 0 0,.slice .none 0 0] 208 (0,0));revert hB3 hE4 hs4;generalize w1.alloc (.cells #[vi 0,.slice .none 0 0,.slice .none 0 0,.slice .none 0 0,.slice .none 0 0] 208 (0,0))=w2;intro hB3 hE4 hs4;refine zaD (P:=Tryz.prog) (t:=208) (l:=[vi d.ty,.slice .none 0 0,.slice au (d.nums.map v32).length cu,.slice at1 (d.texts.map vs).length ct,.slice ar (d.raw.map zaf).length cr]) hB3 rfl (fun v h=>by simp at h;rcases h with rfl|rfl|rfl|rfl|rfl<;>rfl) rfl rfl ?_;intro w3 hs5 hB5 hk5;try simp only[go_sem]
 apply hK;have hE13:Ext w1 w3:=Keep.to_ext hE4 rfl (fun b hb=>by omega) hk5;obtain⟨b3,hb3⟩:∃b3,w1.heap.size=b3:=⟨_,rfl⟩;rw[hb3]at hB5;have hs3:w3.heap.size=b3+1:=by omega
 refine gz0 ?_;rw[hb3];refine zao (fun m σ ds A=>ds=[]/\∃(i:Nat) (nv:Value),i+m=vals.length/\σ 4=vi i/\σ 1= .pointer (some ⟨w.heap.size,0,.none⟩)/\σ 2= .pointer (some ⟨w.heap.size+1,0,.none⟩)/\σ 3= .pointer (some ⟨b3,0,.none⟩)/\A.heap[b3]? =some (.cells [vi d.ty,nv,.slice au (d.nums.map v32).length cu,.slice at1 (d.texts.map vs).length ct,.slice ar (d.raw.map zaf).length cr].toArray 208 (0,0))/\Own w3.heap.size A 26 nv (vals.take i)/\Ext w1 A/\w3.heap.size<=A.heap.size) vals.length ?_ ?_
 ·exact⟨rfl,0,.slice .none 0 0,by omega,vr0,vq0,vq0,vq0,hB5,Own.nil _ _ _,hE13,ynl _⟩
 rintro m σ ds A ⟨rfl,i,nv,him,h4,h1,h2,h3,hb,hown,hEA,hsA⟩;have q1:=zaa hEA p1;have s1:=hE1.size;refine gz (az4 h4 h1 q1 yn0) ?_;refine wc0 ?_ ?_
 ·intro hlt;simp only[ydT]at hlt;have hi:i<vals.length:=by omega
  have hi0:=cj i;have hi1:(i:Int)<(vals.length:Int):=by omega
  have hi1':=ci i;have hgi:=hgn i hi;obtain⟨xN,rfl⟩:=yxs (zag hgi);obtain⟨xi,hxi⟩:∃xi,adr (some xN) i=some xi:=⟨_,rfl⟩;rw[hxi]at hgi;have hgA:=zaa (hE0.trans (hE1.trans hEA)) hgi;have hxb:xi.block<w3.heap.size:=by
   have:=zcB (show w0.cell? xi=some _ from hgi);have:=(hE0.trans (hE1.trans hE13)).size;omega
  have hrow:=hvr i hi (by omega);obtain⟨hv,hhv⟩:∃hv,vals[i]=hv:=⟨_,rfl⟩;rw[hhv]at hgA hrow;obtain⟨ha,hc,hve,_⟩:=id hrow;have hone:one hv=true:=by rw[hve];rfl
  have htk:vals.take (i+1)=vals.take i++ [hv]:=by rw[zal hi,hhv]
  have hnv:zad A (some ⟨b3,1,.none⟩)=some nv:=zcr hb rfl;have hvals:(vals.take i).length<=1000000000:=by rw[List.length_take];omega
  repeat refine c_r ?_
  refine zaJ (fun i=>i==10) [(0,true),(1,true),(2,true),(3,true),(4,true),(5,true),(6,true),(7,false),(8,false),(9,true),(10,false)] (zbE w3.heap.size) mixed (by kernel_rfl) ?_;intro gd K x hgd hx hxe hK;have hx0:=zez hxe;clear hxe;have hgx:=zaa hx0 hgA;have hnx:=zaa hx0 hnv;have q1x:=zaa hx0 q1;have hxs:=hx.size;refine sgz (az2 (az7 h4 h1 h3 q1x hgx hnx hi0) (az4 hi1 hxi yn0 Nat.mul_one)) ?_;refine⟨zcw (by omega),zcw (by omega),zde hxb,?_⟩;refine zdk (z:= .slice .none 0 0) (v:=hv) (by rfl) (by rfl) (by rfl) (by rfl) (by rw[hve];rfl) ?_;intro w5 hE5 hs5 ho5;refine⟨.inr hE5.keep,?_⟩;refine sg0 ?_;have hx5:=hx0.trans hE5;have hx5s:=hx5.size;refine zcv (hown.ext hx5) ho5.row rfl rfl rfl rfl rfl rfl vr0 vr0 (fun q hq=>by rw[List.mem_singleton.1 hq];exact hone) (by rw[List.length_singleton];omega) (by decide) (by omega) ?_;intro v7 w7 ho7 hE7 hk7 hb7;refine⟨.inr (hk7.mono fun b _ hb=>by have:=(hown.ge hb).1;show _<=_;omega),?_⟩;refine sgz h3 ?_;have hk7s:=hk7.size;obtain⟨a7,c7,hv7⟩:=ho7.slice;have hb3w:w7.heap[b3]? =some (.cells [vi d.ty,nv,.slice au (d.nums.map v32).length cu,.slice at1 (d.texts.map vs).length ct,.slice ar (d.raw.map zaf).length cr].toArray 208 (0,0)):=(hk7.block b3 (by omega) (fun h=>by have:=(hown.ge h).1;omega)).trans (Ext.at hx5 hb)
  refine zaU (P:=Tryz.prog) (t:=62) (j:=1) (l:=[vi d.ty,nv,.slice au (d.nums.map v32).length cu,.slice at1 (d.texts.map vs).length ct,.slice ar (d.raw.map zaf).length cr]) hb3w (by simp) (by rw[hv7];rfl) rfl rfl ?_;intro z hz' hbz hkz;refine⟨.inl rfl,?_⟩;refine sg0 ?_;apply hK;have hEz:Ext w1 z:=Keep.to_ext (hE7 w1 (hEA.trans hx5) (by omega)) rfl (fun b hb=>by omega) hkz;refine gz (az2 h4 hi1') ?_;exact⟨m - 1,by omega,rfl,i+1,v7,by omega,vq0,vq1 h1,vq1 h2,vq1 h3,hbz,by rw[htk];exact ho7.keep hkz (fun b hb h=>by have:=(ho7.ge hb).1;omega),hEz,by omega⟩
 ·intro hge;simp only[ydF]at hge;have hi:i=vals.length:=by omega
  rw[hi,List.take_length]at hown;obtain⟨na,nc,hnv⟩:=hown.slice;refine rqz ?_;intro gd K hgd hK;have d5:=zae (n:=5) hb rfl;refine sgz (az3 h3 h2 d5) ?_;refine zaD (P:=Tryz.prog) (t:=208) (l:=[vi d.ty,nv,.slice au (d.nums.map v32).length cu,.slice at1 (d.texts.map vs).length ct,.slice ar (d.raw.map zaf).length cr]) (Ext.at hEA hC) rfl (fun v h=>by
   simp at h;rcases h with rfl|rfl|rfl|rfl|rfl
   ·rfl
   ·rw[hnv];rfl
   ·rfl
   ·rfl
   ·rfl) rfl rfl ?_
  intro z hz' hbz hkz;try simp only[go_sem]
  refine en hK ?_;refine zat (.inr rfl) Tryz.ntmps164 rfl (zaI (x:=⟨w.heap.size+1,0,.none⟩) (k:=5) ((vq1 h2)) rfl rfl (zae hbz rfl) zap) ?_;have hEz:Ext w z:=Keep.to_ext (hE1.trans hEA) rfl (fun b hb=>by omega) hkz;have hownz:=hown.keep hkz (fun b hb h=>by have:=(hown.ge hb).1;omega);refine⟨hEz,_,nv,rfl,⟨⟨_,_,_,vals,rfl,hownz.row,hvl,hvr,hnu,htx,hrw⟩,fun a n c hv=>?_⟩⟩;have:=hownz.ge (b:=a.block) (by rw[hv];rfl);omega
end Go.Proofs.YtahbdamijngmmaaGreat
