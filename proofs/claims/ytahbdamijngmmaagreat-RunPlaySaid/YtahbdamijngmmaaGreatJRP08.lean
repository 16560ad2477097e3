/-
  Texts of a proof, joined: O4, W0, W1, W2, V7, V8, V9, VA, Y6, VB, VC, W3, W4, K29, W5, W6, W7, W8, K26.
  Conditions: none.
-/
import Derived.Test.YtahbdamijngmmaaGreatJRP07
import Derived.Test.YtahbdamijngmmaaGreatJRP01
set_option linter.unusedVariables false
set_option linter.unusedSimpArgs false
set_option linter.defProp false
set_option linter.unnecessarySimpa false
set_option maxHeartbeats 8000000
namespace Go.Proofs.YtahbdamijngmmaaGreat
open Go
set_option maxRecDepth 10000
theorem zls{w v:World}{b m:Nat}{lv:Value}{row:List MetL}(h:SetI w v b m lv row){bv sv u:Value}{p:List Int}{L:List zar}(hb:RowY (setB b m lv) v bv (p.map vi))(hp:p.length<=100000)
  (hs:Rows 6 (StN u) v sv L) (hsb:∀a n c,sv= .slice (some a) n c->a.block<v.heap.size/\¬setB b m lv a.block) (hu:∀s∈L,RowY (setB b m lv) v u (s.name.map vs)) (hg:∀s∈L,StG s) (hrk:∀y∈row,zky (keyS y.1)) (hlen:row.length+L.length<=100000000):
  Fn Tryz.prog 84 #[.pointer (some ⟨b,0,.none⟩),bv,sv] v (fun _ v'=>∃lv',SetI w v' b m lv' (zcs p 0 row L)/\Keep (setB b m lv) v v'/\∀i,setB b m lv' i->setB b m lv i\/v.heap.size<=i):=by
 obtain⟨a,c,rfl,_,_⟩:=hs.open;refine enter Tryz.func84 Tryz.ntmps84 rfl rfl ?_;refine go trivial ?_;refine zay (Q:=fun e σ' ds' x=>e= .exit 0/\ds'=[]/\∃lv',SetI w x b m lv' (zcs p 0 row L)/\Keep (setB b m lv) v x/\∀i,setB b m lv' i->setB b m lv i\/v.heap.size<=i) ?_ ?_
 ·refine zic L.length (fun i σ x=>(σ 11=vi i/\σ 10=vi L.length/\σ 9= .slice a L.length c/\σ 0= .pointer (some ⟨b,0,.none⟩)/\σ 1=bv)/\∃lv',SetI w x b m lv' (zcs p 0 row (L.take i))/\Keep (setB b m lv) v x/\∀j,setB b m lv' j->setB b m lv j\/v.heap.size<=j) ?_ ?_ ?_
  ·exact⟨⟨vr0,vq0,vq0,vq0,vq0⟩,lv,h,Keep.refl _ _,fun j hj=> .inl hj⟩
  ·rintro i σ X hi q ⟨s,lv1,hI,hk,hS⟩;have hrows:Rows 6 (StN u) X (.slice a L.length c) L:=hs.blocks fun a' n' c' e=>hk.block _ (hsb a' n' c' e).1 (hsb a' n' c' e).2;obtain⟨cs,hcs,rfl,hone⟩:=hrows.get hi;have hmem:=List.getElem_mem hi;have hux:=(hu _ hmem).turn hk hS;have hbx:=hb.turn hk hS;obtain⟨gN,gK⟩:=hg _ hmem;have hml:=zec (p:=p) (L:=L.take i) (k:=0) (row:=row);have hmt:=List.length_take_le i L;have hmk:∀y∈zcs p 0 row (L.take i),zky (keyS y.1):=fun y hy=>by
    rcases zeb hy with hy| ⟨hy,_⟩
    ·exact hrk y hy
    ·exact(hg _ (List.mem_of_mem_take hy)).k
   have hsn:zcs p 0 row (L.take (i+1))=putL (zcs p 0 row (L.take i)) (L[i],p++ [(i:Int)]):=by
    rw[zam hi,zge,List.length_take,yn0,Nat.min_eq_left (by omega)]
   obtain⟨S,hSe⟩:∃S,L[i]=S:=⟨_,rfl⟩;rw[hSe]at hcs hux gN gK hsn;obtain⟨xa,rfl⟩:=yxs (zak hcs);obtain⟨xi,hxi⟩:∃xi,adr (some xa) (i*6)=some xi:=⟨_,rfl⟩;rw[hxi]at hcs;refine go (an3 s q hxi) ?_;refine rq ?_;intro gd K hgd hK;unfold stV at hcs;refine sgz (az4 s q hxi hcs) ?_;refine zaV (P:=Tryz.prog) (l:=[vi S.sv,u,vi S.rw,vi S.rf,.bool S.ref,vi S.fin]) rfl (zbi (s:=S) hone) rfl rfl ?_;intro v1 hE1 hs1 hC;try simp only[go_sem]
   apply hK;obtain⟨c7,hc7⟩:∃c,X.heap.size=c:=⟨_,rfl⟩;rw[hc7]at hC ⊢;have hI1:=hI.ext hE1;have hu1:=hux.1.ext hE1;have g0:zad v1 (some ⟨c7,0,.none⟩)=some (vi S.sv):=zab (i:=0) hC rfl;have g1:zad v1 (some ⟨c7,1,.none⟩)=some u:=zab (i:=1) hC rfl;have g2:zad v1 (some ⟨c7,2,.none⟩)=some (vi S.rw):=zab (i:=2) hC rfl;have g3:zad v1 (some ⟨c7,3,.none⟩)=some (vi S.rf):=zab (i:=3) hC rfl;have g4:zad v1 (some ⟨c7,4,.none⟩)=some (.bool S.ref):=zab (i:=4) hC rfl;have g5:zad v1 (some ⟨c7,5,.none⟩)=some (vi S.fin):=zab (i:=5) hC rfl;have gF:=gN.fold;have gm:=gN.m;have lm:=gm.len;refine go trivial ?_;refine zay (Q:=fun e σ' ds' v'=>e= .normal/\ds'=[]/\(σ' 7= .pointer (some ⟨c7,0,.none⟩)/\σ' 6=vi i/\σ' 11=vi i/\σ' 10=vi L.length/\σ' 9= .slice (some xa) L.length c/\σ' 0= .pointer (some ⟨b,0,.none⟩)/\σ' 1=bv)/\Ext v1 v'/\
    ∃c8,σ' 8= .pointer (some ⟨c8,0,.none⟩)/\v'.heap[c8]? =some (.cells #[vs (keyS S).name,vi (keyS S).a,vi (keyS S).b,vi (keyS S).c,vi (keyS S).d,.bool (keyS S).ref] 250 (0,0))) ?_ ?_
   ·refine zep (fun i=>i==17) (.run [(0,true),(1,true),(4,true),(5,true),(6,true),(7,true),(8,true),(9,true),(10,true),(11,true),(12,true),(13,true),(14,true)] (.fork 4 [2,16] (fun i=>if i=2 then(.run [] (.fork 3 [3,16] (fun i=>if i=3 then(.run [(15,true),(16,false),(17,false)] .fin) else(.run [(3,false),(15,true),(17,false)] .fin)))) else(.run [(2,false),(3,false),(15,true),(17,false)] .fin)))) NoS mixed (by kernel_rfl) ?_;intro gd K x hgd hx hxe hK;clear hxe;have e0:=zaa hx g0;have e1:=zaa hx g1;have e2:=zaa hx g2;have e3:=zaa hx g3;have e4:=zaa hx g4;have e5:=zaa hx g5;refine sgz (az6 e0 e1 e2 e3 e4 e5) ?_;refine⟨by kernel_rfl,?_⟩;rw[show bdV Tryz.prog 248 [(0,vi S.sv),(1,vi S.rw),(2,vi S.rf),(3,vi S.fin)]=some (.agg #[vi S.sv,vi S.rw,vi S.rf,vi S.fin]) from by kernel_rfl];refine sgz (az6 e0 e1 e2 e3 e4 e5) ?_;have kbd:∀t:Lab,bdV Tryz.prog 250 [(0,vs t),(1,.agg #[vi S.sv,vi S.rw,vi S.rf,vi S.fin]),(2,.bool S.ref)]=some (.agg #[vs t,vi S.sv,vi S.rw,vi S.rf,vi S.fin,.bool S.ref]):=fun t=>by kernel_rfl
    have kone:∀q∈ [vs (zaP (zan S.name)),vi S.sv,vi S.rw,vi S.rf,vi S.fin,.bool S.ref],one q=true:=fun q hq=>by
     simp at hq;rcases hq with rfl|rfl|rfl|rfl|rfl|rfl<;>rfl
    have hux1:=hu1.ext hx;simp only[zaZ,zbb];refine⟨?_,?_⟩
    ·refine sg0 ?_;refine Fn.mono (zmD x u S.name hux1 gm.LB (by omega)) ?_;rintro fv y1 ⟨hf,hy1⟩;refine⟨.inr hy1,?_⟩;refine sg0 ?_;simp only[zaZ,zbb];refine⟨?_,?_⟩
     ·refine sg0 ?_;refine Fn.mono (zfi y1 fv _ hf gF.lb gF.len) ?_;rintro _ y2 ⟨rfl,hy2⟩;refine⟨.inr hy2,?_⟩;refine sg0 ?_;refine⟨by kernel_rfl,?_⟩;rw[kbd];refine sg0 ?_;refine⟨.inr (Ext.alloc y2 _),?_⟩;try simp only[go_sem]
      refine zaV (P:=Tryz.prog) (l:=[vs (zaP (zan S.name)),vi S.sv,vi S.rw,vi S.rf,vi S.fin,.bool S.ref]) rfl kone rfl rfl ?_;intro y3 hy3 hs3 hB;refine⟨.inl rfl,?_⟩;refine sg0 ?_;apply hK;exact⟨rfl,rfl,sc s,hx.trans (hy1.trans (hy2.trans hy3)),_,vr0,hB⟩
     ·refine sg0 ?_;refine⟨.inr (Ext.alloc y1 _),?_⟩;obtain⟨z,hz⟩:∃z,y1.alloc (.cells #[vs [],vi 0,vi 0,vi 0,vi 0,.bool false] 250 (0,0))=z:=⟨_,rfl⟩;have hEz:Ext y1 z:=by rw[←hz];exact Ext.alloc _ _
      have hBz:=zav y1 (.cells #[vs [],vi 0,vi 0,vi 0,vi 0,.bool false] 250 (0,0));rw[hz]at hBz ⊢;try simp only[go_sem]
      refine Fn.mono (zfi z fv _ (hf.ext hEz) gF.lb gF.len) ?_;rintro _ y2 ⟨rfl,hy2⟩;refine⟨.inr hy2,?_⟩;refine sg0 ?_;refine⟨by kernel_rfl,?_⟩;rw[kbd];refine sg0 ?_;refine zaC (P:=Tryz.prog) (l:=[vs (zaP (zan S.name)),vi S.sv,vi S.rw,vi S.rf,vi S.fin,.bool S.ref]) (Ext.at hy2 hBz) rfl kone rfl rfl ?_;intro y3 hs3 hB hk3;refine⟨.inl rfl,?_⟩;refine sg0 ?_;apply hK;exact⟨rfl,rfl,sc s,hx.trans (hy1.trans (Keep.to_ext (hEz.trans hy2) rfl (fun j hj=>by omega) hk3)),_,vr0,hB⟩
    ·refine sg0 ?_;refine⟨.inr (Ext.alloc x _),?_⟩;obtain⟨z,hz⟩:∃z,x.alloc (.cells #[vs [],vi 0,vi 0,vi 0,vi 0,.bool false] 250 (0,0))=z:=⟨_,rfl⟩;have hEz:Ext x z:=by rw[←hz];exact Ext.alloc _ _
     have hBz:=zav x (.cells #[vs [],vi 0,vi 0,vi 0,vi 0,.bool false] 250 (0,0));rw[hz]at hBz ⊢;try simp only[go_sem]
     refine Fn.mono (zmD z u S.name (hux1.ext hEz) gm.LB (by omega)) ?_;rintro fv y1 ⟨hf,hy1⟩;refine⟨.inr hy1,?_⟩;refine sg0 ?_;refine Fn.mono (zfi y1 fv _ hf gF.lb gF.len) ?_;rintro _ y2 ⟨rfl,hy2⟩;refine⟨.inr hy2,?_⟩;refine sg0 ?_;refine⟨by kernel_rfl,?_⟩;rw[kbd];refine sg0 ?_;refine zaC (P:=Tryz.prog) (l:=[vs (zaP (zan S.name)),vi S.sv,vi S.rw,vi S.rf,vi S.fin,.bool S.ref]) (Ext.at (hy1.trans hy2) hBz) rfl kone rfl rfl ?_;intro y3 hs3 hB hk3;refine⟨.inl rfl,?_⟩;refine sg0 ?_;apply hK;exact⟨rfl,rfl,sc s,hx.trans (Keep.to_ext (hEz.trans (hy1.trans hy2)) rfl (fun j hj=>by omega) hk3),_,vr0,hB⟩
   clear s;rintro _ σ1 _ v2 ⟨rfl,rfl,s,hE2,c8,s8,hC8⟩;have hE12:=hE1.trans hE2;have hI2:=hI1.ext hE2;have hC2:=Ext.at hE2 hC;have d7:zao v2 (some ⟨c7,0,.none⟩) 6=some [vi S.sv,u,vi S.rw,vi S.rf,.bool S.ref,vi S.fin]:=zaf (l:=[vi S.sv,u,vi S.rw,vi S.rf,.bool S.ref,vi S.fin]) hC2 rfl;have d8:zao v2 (some ⟨c8,0,.none⟩) 6=some [vs (keyS S).name,vi (keyS S).a,vi (keyS S).b,vi (keyS S).c,vi (keyS S).d,.bool (keyS S).ref]:=zaf (l:=[vs (keyS S).name,vi (keyS S).a,vi (keyS S).b,vi (keyS S).c,vi (keyS S).d,.bool (keyS S).ref]) hC8 rfl;have hb2:RowY (setB b m lv1) v2 bv (p.map vi):=hbx.turn (hE12.mono fun _ _ h=>h.elim) fun _ h=> .inl h;have hu2:RowY (setB b m lv1) v2 u (S.name.map vs):=hux.turn (hE12.mono fun _ _ h=>h.elim) fun _ h=> .inl h;have hSlt:∀j,setB b m lv1 j->j<v2.heap.size:=fun j hj=>(hI2.lt hj).2
   -- the picks are laid,the state is put
   have fin:∀(y:World) (kv:Value),Ext v2 y->Own v2.heap.size y 3 kv ((p++ [(i:Int)]).map vi)->Fn Tryz.prog 138 #[.pointer (some ⟨b,0,.none⟩),keyV (keyS S),.agg #[vi S.sv,u,vi S.rw,vi S.rf,.bool S.ref,vi S.fin,kv]] y (fun _ v'=>∃lv',SetI w v' b m lv' (putL (zcs p 0 row (L.take i)) (S,p++ [(i:Int)]))/\Keep (setB b m lv1) y v'/\∀j,setB b m lv' j->setB b m lv1 j\/y.heap.size<=j):=fun y kv hy ho=>by
    have hxy:MetAt (setB b m lv1) y (stV u S++ [kv]) (S,p++ [(i:Int)]):=⟨u,kv,rfl,hu2.turn (hy.mono fun _ _ h=>h.elim) fun _ h=> .inl h,ho.row,fun _ a' n' c' e=>by
     obtain⟨k1,k2⟩:=ho.rowB.2 a' n' c' e;exact⟨k2,fun hj=>by have:=hSlt _ hj;omega⟩⟩
    exact put_ok (hI2.ext hy) hxy gK hmk (by omega)
   refine go trivial ?_;refine zay (Q:=fun e σ' ds' v'=>e= .normal/\ds'=[]/\(σ' 11=vi i/\σ' 10=vi L.length/\σ' 9= .slice (some xa) L.length c/\σ' 0= .pointer (some ⟨b,0,.none⟩)/\σ' 1=bv)/\∃y lv',Ext v2 y/\SetI w v' b m lv' (putL (zcs p 0 row (L.take i)) (S,p++ [(i:Int)]))/\Keep (setB b m lv1) y v'/\∀j,setB b m lv' j->setB b m lv1 j\/y.heap.size<=j) ?_ ?_
   ·refine zep (fun i=>i==10) (.run [(0,true),(1,true),(2,true),(3,true),(6,true)] (.fork 5 [4,7] (fun i=>if i=4 then(.run [] (.fork 4 [5,7] (fun i=>if i=5 then(.run [(7,false),(8,false),(9,true),(10,false)] .fin) else(.run [(5,false),(8,false),(9,true),(10,false)] .fin)))) else(.run [(4,false),(5,false),(8,false),(9,true),(10,false)] .fin)))) NoS mixed (by kernel_rfl) ?_;intro gd K x hgd hx hxe hK;clear hxe;have d7x:=zac hx d7;have d8x:=zac hx d8;refine sgz (az4 s s8 d7x d8x) ?_;obtain⟨au,cu,hue,_⟩:=id hu2.1;have mbd:∀ak nk ck,bdV Tryz.prog 164 [(0,.agg #[vi S.sv,u,vi S.rw,vi S.rf,.bool S.ref,vi S.fin]),(1,.slice ak nk ck)]=some (.agg #[vi S.sv,u,vi S.rw,vi S.rf,.bool S.ref,vi S.fin,.slice ak nk ck]):=by
     rw[hue];intro ak nk ck;kernel_rfl
    have hbx2:=hb2.1.ext hx;simp only[zaZ,zbb];refine⟨?_,?_⟩
    ·refine sg0 ?_;refine Fn.mono (zis hbx2 (by omega)) ?_;rintro _ y1 ⟨hc,hy1⟩;obtain⟨ac,cc,rfl,hcc,hcl⟩:=id hc.row;refine⟨.inr hy1,?_⟩;refine sg0 ?_;simp only[zaZ,zbb];refine⟨?_,?_⟩
     ·refine sg0 ?_;refine Fn.mono (P_ci.Clip_ok hcc) ?_;rintro _ y2 ⟨rfl,hy2⟩;replace hy2:=hy2.symm;subst hy2;refine⟨.inr (Keep.refl _ _),?_⟩;refine sg0 ?_;refine zdK (z:=vi 0) rfl rfl rfl rfl rfl ?_;intro y3 hy3 hs3 ho3;refine⟨.inr hy3.keep,?_⟩;replace hcl:=fun j hj=>zaa hy3 (hcl j hj);refine sg0 ?_;have hfull:Row y3 (.slice ac (p.map vi).length (p.map vi).length) (p.map vi):=⟨ac,_,rfl,ynl _,hcl⟩;refine zeA hfull ho3.row (by simp) rfl rfl rfl rfl (by decide) rfl vq0 vr0 (fun q hq=>by rw[List.mem_singleton.1 hq];rfl) (by simp;omega) ?_;intro kv2 y ho hy9;refine⟨.inr hy9.keep,?_⟩;obtain⟨ak,ck,hke⟩:=ho.slice;rw[hke];refine sg0 ?_;refine⟨by kernel_rfl,?_⟩;rw[mbd,←hke];refine sg0 ?_;have hxy:=(hy1.trans hy3).trans hy9;refine Fn.mono (fin y kv2 (hx.trans hxy) (by have:=(hx.trans (hy1.trans hy3)).size;have h2:=ho.mono this;rwa [←List.map_singleton (f:=vi),←List.map_append]at h2)) ?_;rintro _ v9 ⟨lv9,hI9,hk9,hS9⟩;refine⟨.inl rfl,?_⟩;refine sg0 ?_;apply hK;exact⟨rfl,rfl,sc s,y,lv9,hx.trans hxy,hI9,hk9,hS9⟩
     ·refine sg0 ?_;refine zdK (z:=vi 0) rfl rfl rfl rfl rfl ?_;intro y3 hy3 hs3 ho3;refine⟨.inr hy3.keep,?_⟩;replace hcl:=fun j hj=>zaa hy3 (hcl j hj);refine sg0 ?_;refine Fn.mono (P_ci.Clip_ok hcc) ?_;rintro _ y2 ⟨rfl,hy2⟩;replace hy2:=hy2.symm;subst hy2;refine⟨.inr (Keep.refl _ _),?_⟩;refine sg0 ?_;have hfull:Row y3 (.slice ac (p.map vi).length (p.map vi).length) (p.map vi):=⟨ac,_,rfl,ynl _,hcl⟩;refine zeA hfull ho3.row (by simp) rfl rfl rfl rfl (by decide) rfl vq0 vr0 (fun q hq=>by rw[List.mem_singleton.1 hq];rfl) (by simp;omega) ?_;intro kv2 y ho hy9;refine⟨.inr hy9.keep,?_⟩;obtain⟨ak,ck,hke⟩:=ho.slice;rw[hke];refine sg0 ?_;refine⟨by kernel_rfl,?_⟩;rw[mbd,←hke];refine sg0 ?_;have hxy:=(hy1.trans hy3).trans hy9;refine Fn.mono (fin y kv2 (hx.trans hxy) (by have:=(hx.trans (hy1.trans hy3)).size;have h2:=ho.mono this;rwa [←List.map_singleton (f:=vi),←List.map_append]at h2)) ?_;rintro _ v9 ⟨lv9,hI9,hk9,hS9⟩;refine⟨.inl rfl,?_⟩;refine sg0 ?_;apply hK;exact⟨rfl,rfl,sc s,y,lv9,hx.trans hxy,hI9,hk9,hS9⟩
    ·refine sg0 ?_;refine zdK (z:=vi 0) rfl rfl rfl rfl rfl ?_;intro y3 hy3 hs3 ho3;refine⟨.inr hy3.keep,?_⟩;refine sg0 ?_;refine Fn.mono (zis (hbx2.ext hy3) (by omega)) ?_;rintro _ y1 ⟨hc,hy1⟩;obtain⟨ac,cc,rfl,hcc,hcl⟩:=id hc.row;refine⟨.inr hy1,?_⟩;refine sg0 ?_;refine Fn.mono (P_ci.Clip_ok hcc) ?_;rintro _ y2 ⟨rfl,hy2⟩;replace hy2:=hy2.symm;subst hy2;refine⟨.inr (Keep.refl _ _),?_⟩;replace ho3:=ho3.ext hy1;refine sg0 ?_;have hfull:Row y1 (.slice ac (p.map vi).length (p.map vi).length) (p.map vi):=⟨ac,_,rfl,ynl _,hcl⟩;refine zeA hfull ho3.row (by simp) rfl rfl rfl rfl (by decide) rfl vq0 vr0 (fun q hq=>by rw[List.mem_singleton.1 hq];rfl) (by simp;omega) ?_;intro kv2 y ho hy9;refine⟨.inr hy9.keep,?_⟩;obtain⟨ak,ck,hke⟩:=ho.slice;rw[hke];refine sg0 ?_;refine⟨by kernel_rfl,?_⟩;rw[mbd,←hke];refine sg0 ?_;have hxy:=(hy3.trans hy1).trans hy9;refine Fn.mono (fin y kv2 (hx.trans hxy) (by have:=(hx.trans (hy3.trans hy1)).size;have h2:=ho.mono this;rwa [←List.map_singleton (f:=vi),←List.map_append]at h2)) ?_;rintro _ v9 ⟨lv9,hI9,hk9,hS9⟩;refine⟨.inl rfl,?_⟩;refine sg0 ?_;apply hK;exact⟨rfl,rfl,sc s,y,lv9,hx.trans hxy,hI9,hk9,hS9⟩
   clear s s8;rintro _ σ2 _ v3 ⟨rfl,rfl,s,y,lv9,hy,hI9,hk9,hS9⟩;refine go (an2 s q) ?_;have hz:=hy.size;have hkx:=hk.size;have hz1:=hE12.size;have hSv:∀j,setB b m lv1 j->setB b m lv j\/v.heap.size<=j:=hS;refine⟨rfl,sc (an2 s q),lv9,by rw[hsn];exact hI9,?_,fun j hj=>?_⟩
   ·have hky:Keep (setB b m lv1) X v3:=((hE12.trans hy).mono fun _ _ h=>h.elim).trans hk9;refine⟨hky.os.trans hk.os,hky.tape.trans hk.tape,hky.output.trans hk.output,Nat.le_trans hk.size hky.size,fun j hj hn=>?_,Nat.le_trans hk.drawn hky.drawn⟩;exact(hky.block j (by omega) (fun hc=>(hSv j hc).elim hn (by omega))).trans (hk.block j hj hn)
   ·rcases hS9 j hj with h|h
    ·exact hSv j h
    ·exact .inr (by omega)
  ·rintro σ x q ⟨s,lv1,hI,hk,hS⟩;rw[List.take_length]at hI;refine go (an2 s q) ?_;exact⟨rfl,rfl,lv1,hI,hk,hS⟩
 rintro _ σ _ x ⟨rfl,rfl,lv1,hI,hk,hS⟩;refine go trivial ?_;exact zaA (by simp) rfl ⟨lv1,hI,hk,hS⟩
theorem zef{α:Type}{xs ys:List α}{i:Nat}(h1:i<xs.length)(h2:i<ys.length)(ht:xs.take i=ys.take i)(he:xs[i]=ys[i]):xs.take (i+1)=ys.take (i+1):=by
 rw[zam h1,zam h2,ht,he]
theorem zmA(w:World){a b:Value}{xs ys:List Lab}(ha:Row w a (xs.map vs))(hb:Row w b (ys.map vs))(hl:xs.length<=1000000000000000):
  Fn Tryz.prog 114 #[a,b] w (fun v w'=>Ext w w'/\∃t,v= .bool t/\(t=true->xs=ys)):=by
 obtain⟨a1,c1,rfl,_,h1⟩:=ha;obtain⟨a2,c2,rfl,_,h2⟩:=hb;simp only[ylm,List.getElem_map]at h1 h2 ⊢;refine enter Tryz.func114 Tryz.ntmps114 rfl rfl ?_;repeat refine c_r ?_
 refine rg0 ?_;repeat refine c_r ?_
 by_cases hn:(xs.length:Int)=(ys.length:Int)
 rotate_left
 ·refine rg1 (yef hn) ?_;repeat refine c_r ?_
  refine wt Bool.not_false ?_;repeat (first|refine c_r ?_|refine rg0 ?_)
  refine rt0 Tryz.ntmps114 ?_;exact⟨Keep.refl _ _,_,rfl,fun h=>by cases h⟩
 refine rg1 (yet hn) ?_;repeat refine c_r ?_
 refine wf Bool.not_true ?_;have hn':xs.length=ys.length:=by omega
 repeat refine c_r ?_
 refine rg0 ?_;repeat refine c_r ?_
 refine zap (fun m σ ds A=>ds=[]/\∃(i:Nat),i+m=xs.length/\σ 5=vi i/\σ 0= .slice a1 xs.length c1/\σ 1= .slice a2 ys.length c2/\Ext w A/\xs.take i=ys.take i) xs.length ?_ ?_
 ·exact⟨rfl,0,by omega,vr0,vq0,vq0,Keep.refl _ _,rfl⟩
 rintro m σ ds A ⟨rfl,i,him,s5,s0,s1,hEA,ht⟩;repeat refine c_r ?_
 refine rg2 s5 s0 ?_;repeat refine c_r ?_
 refine wc0 ?_ ?_
 ·intro hlt;simp only[ydT]at hlt;have hi:i<xs.length:=by omega
  have hi2:i<ys.length:=by omega
  have hi0:=cj i;have hi1:(i:Int)<(ys.length:Int):=by omega
  have hi1':=ci i;have g1:=h1 i hi;have g2:=h2 i hi2;obtain⟨x1,rfl⟩:=yxs (zag g1);obtain⟨x2,rfl⟩:=yxs (zag g2);repeat refine c_r ?_
  refine zaJ (fun _=>false) [(0,true),(1,true),(2,true),(3,true),(4,true),(5,true),(6,true),(7,true),(8,true)] NoS mixed (by kernel_rfl) ?_;intro gd K x hgd hx hxe hK;clear hxe;have g1x:=zaa (hEA.trans hx) g1;have g2x:=zaa (hEA.trans hx) g2;simp (disch:=first|omega|assumption|rfl) only[go_sem,s5,s0,s1,hi0,hlt,hi1,g1x,g2x,Nat.mul_one];refine hK _ _ ?_;clear hK hgd;clear K;try clear gd
  by_cases he:xs[i]=ys[i]
  ·repeat refine c_r ?_
   refine wf (an2 (yet he) Bool.not_true) ?_;repeat refine c_r ?_
   refine rg2 s5 hi1' ?_;repeat refine c_r ?_
   exact⟨m - 1,by omega,rfl,i+1,by omega,vq0,vq1 s0,vq1 s1,hEA.trans hx,zef hi hi2 ht he⟩
  ·repeat refine c_r ?_
   refine wt (an2 (yef he) Bool.not_false) ?_;repeat (first|refine c_r ?_|refine rg0 ?_)
   refine rt0 Tryz.ntmps114 ?_;exact⟨hEA.trans hx,_,rfl,fun h=>by cases h⟩
 ·intro hge;simp only[ydF]at hge;repeat (first|refine c_r ?_|refine rg0 ?_)
  refine rt0 Tryz.ntmps114 ?_;refine⟨hEA,_,rfl,fun _=>?_⟩
  rwa [List.take_of_length_le (by omega),List.take_of_length_le (by omega)]at ht
structure DatN(d:DatL):Prop where
 nn:d.names.length<=1000000000000000
 ns:∀n∈d.names,n.length<=1000000000000000
 nu:d.nums.length<=1000000000000000
 nt:d.texts.length<=1000000000000000
theorem DatOk.n{d:DatL}(h:DatOk d):DatN d:=⟨h.nn,fun n hn=>(h.names n hn).2,h.nu,h.nt⟩
theorem Is4_ok(w:World){ca cb:List Value}{a b:DatL}(ha:DatAt w ca a)(hb:DatAt w cb b)(ka:DatN a):
  Fn Tryz.prog 115 #[.agg ca.toArray,.agg cb.toArray] w (fun v w'=>Ext w w'/\∃t,v= .bool t/\(t=true->a=b)):=by
 obtain⟨nm,nu,tx,rw1,rfl,hnm,hnu,htx,hrw⟩:=ha.ex;obtain⟨mm,mu,ux,rw2,rfl,hmm,hmu,hux,hrx⟩:=hb.ex;obtain⟨V1,⟨a1,c1,rfl,_,ga⟩,lV1,hV1⟩:=hnm;obtain⟨V2,⟨a2,c2,rfl,_,gb⟩,lV2,hV2⟩:=hmm;obtain⟨a3,c3,rfl,_,gc⟩:=hnu;obtain⟨a4,c4,rfl,_,gd4⟩:=hmu;obtain⟨a5,c5,htxe,_⟩:=id htx;obtain⟨a6,c6,huxe,_⟩:=id hux;obtain⟨a7,c7,rfl,_,gr⟩:=hrw;obtain⟨a8,c8,rfl,_,gs⟩:=hrx;simp only[ylm,List.getElem_map]at gc gd4 gr gs htxe huxe ⊢;refine enter Tryz.func115 Tryz.ntmps115 rfl rfl ?_;repeat refine c_r ?_
 rw[htxe,huxe];refine gz0 ?_;rw[zai];refine zaF ?_;intro w1 hE1 hs1 hA hB;have p0:zad w1 (some ⟨w.heap.size,0,.none⟩)=some (vi a.ty):=zab hA rfl;have p1:zad w1 (some ⟨w.heap.size,1,.none⟩)=some (.slice a1 V1.length c1):=zab hA rfl;have p2:zad w1 (some ⟨w.heap.size,2,.none⟩)=some (.slice a3 a.nums.length c3):=zab hA rfl;have p3:zad w1 (some ⟨w.heap.size,3,.none⟩)=some (.slice a5 a.texts.length c5):=zab hA rfl;have p4:zad w1 (some ⟨w.heap.size,4,.none⟩)=some (.slice a7 a.raw.length c7):=zab hA rfl;have q0:zad w1 (some ⟨w.heap.size+1,0,.none⟩)=some (vi b.ty):=zab hB rfl;have q1:zad w1 (some ⟨w.heap.size+1,1,.none⟩)=some (.slice a2 V2.length c2):=zab hB rfl;have q2:zad w1 (some ⟨w.heap.size+1,2,.none⟩)=some (.slice a4 b.nums.length c4):=zab hB rfl;have q3:zad w1 (some ⟨w.heap.size+1,3,.none⟩)=some (.slice a6 b.texts.length c6):=zab hB rfl;have q4:zad w1 (some ⟨w.heap.size+1,4,.none⟩)=some (.slice a8 b.raw.length c8):=zab hB rfl;repeat refine c_r ?_
 refine zay (Q:=fun e σ' ds' v'=>e= .normal/\ds'=[]/\v'=w1/\σ' 2= .pointer (some ⟨w.heap.size,0,.none⟩)/\σ' 3= .pointer (some ⟨w.heap.size+1,0,.none⟩)/\∃t,σ' 47= .bool t/\(t=false->a.ty=b.ty/\V1.length=V2.length/\a.nums.length=b.nums.length/\a.texts.length=b.texts.length/\a.raw=b.raw)) ?_ ?_
 ·by_cases e0:a.ty=b.ty
  rotate_left
  ·refine rgg [(5,12),(14,21),(23,30),(32,39)] (an5 p0 q0 Nat.add_zero (yef e0) Bool.not_false) ?_;exact⟨rfl,rfl,rfl,vq0,vq0,_,vr0,fun h=>by cases h⟩
  by_cases e1:(V1.length:Int)=(V2.length:Int)
  rotate_left
  ·refine rgg [(5,12),(14,21),(23,30),(32,39)] (an9 p0 q0 Nat.add_zero (yet e0) Bool.not_true p1 q1 yn0 (yef e1)) ?_;exact⟨rfl,rfl,rfl,vq0,vq0,_,vr0,fun h=>by cases h⟩
  by_cases e2:(a.nums.length:Int)=(b.nums.length:Int)
  rotate_left
  ·refine rgg [(5,12),(14,21),(23,30),(32,39)] (an4 (an9 p0 q0 Nat.add_zero (yet e0) Bool.not_true p1 q1 yn0 (yet e1)) p2 q2 (yef e2)) ?_;exact⟨rfl,rfl,rfl,vq0,vq0,_,vr0,fun h=>by cases h⟩
  by_cases e3:(a.texts.length:Int)=(b.texts.length:Int)
  rotate_left
  ·refine rgg [(5,12),(14,21),(23,30),(32,39)] (an7 (an9 p0 q0 Nat.add_zero (yet e0) Bool.not_true p1 q1 yn0 (yet e1)) p2 q2 (yet e2) p3 q3 (yef e3)) ?_;exact⟨rfl,rfl,rfl,vq0,vq0,_,vr0,fun h=>by cases h⟩
  refine rq ?_;intro gd K hgd hK;have hg5:=gk 5 12 hgd rfl;have hg14:=gk 14 21 hgd rfl;have hg23:=gk 23 30 hgd rfl;have hg32:=gk 32 39 hgd rfl;try simp (disch:=first|omega|assumption|rfl) only[go_sem,p0,q0,Nat.add_zero,yet e0,Bool.not_true,p1,q1,yn0,yet e1,p2,q2,yet e2,p3,q3,yet e3,p4,↓hg5,↓hg14,↓hg23,↓hg32]
  refine zbg (l:=a.raw) rfl rfl rfl vq0 (fun j hj=>zaa hE1 (gr j hj)) ?_;try simp (disch:=first|omega|assumption|rfl) only[go_sem,q4,yn0,↓hg5,↓hg14,↓hg23,↓hg32]
  refine zbg (l:=b.raw) rfl rfl rfl vq0 (fun j hj=>zaa hE1 (gs j hj)) ?_;try simp (disch:=first|omega|assumption|rfl) only[go_sem,↓hg5,↓hg14,↓hg23,↓hg32]
  apply hK;exact⟨rfl,rfl,rfl,vq0,vq0,_,vr0,fun h=>⟨e0,by omega,by omega,by omega,by simpa using h⟩⟩
 rintro _ σ1 _ w2 ⟨rfl,rfl,rfl,s2,s3,t,s47,ht⟩;repeat refine c_r ?_
 cases t with
 |true=>
  refine wt s47 ?_;refine gz0 ?_;refine rt0 Tryz.ntmps115 ?_;exact⟨hE1,_,rfl,fun h=>by cases h⟩
 |false=>
 refine wf s47 ?_;obtain⟨e0,e1,e2,e3,e4⟩:=ht rfl;clear s47 ht;have kn:=ka.nn;have ku:=ka.nu;have kt:=ka.nt;refine gz0 ?_;refine zap (fun m σ ds A=>ds=[]/\∃(i:Nat),i+m=V1.length/\σ 5=vi i/\σ 2= .pointer (some ⟨w.heap.size,0,.none⟩)/\σ 3= .pointer (some ⟨w.heap.size+1,0,.none⟩)/\Ext w2 A/\a.names.take i=b.names.take i) V1.length ?_ ?_
 ·exact⟨rfl,0,by omega,vr0,vq1 s2,vq1 s3,Keep.refl _ _,rfl⟩
 clear s2 s3;rintro m σ ds A ⟨rfl,i,him,s5,s2,s3,hEA,ht⟩;have p1A:=zaa hEA p1;have q1A:=zaa hEA q1;refine gz (az4 s5 s2 p1A yn0) ?_;refine wc0 ?_ ?_
 ·intro hlt;simp only[ydT]at hlt;have hi:i<V1.length:=by omega
  have hi2:i<V2.length:=by omega
  have hi0:=cj i;have hi1:(i:Int)<(V2.length:Int):=by omega
  have hi1':=ci i;have g1:=ga i hi;have g2:=gb i hi2;have r1:=hV1 i hi (by omega);have r2:=hV2 i hi2 (by omega);have kl:=ka.ns _ (List.getElem_mem (show i<a.names.length by omega));obtain⟨x1,rfl⟩:=yxs (zag g1);obtain⟨x2,rfl⟩:=yxs (zag g2);repeat refine c_r ?_
  refine zaJ (fun _=>false) [(0,true),(1,true),(2,true),(3,true),(4,true),(5,true),(6,true),(7,true),(8,true),(9,true),(10,false),(11,true)] NoS mixed (by kernel_rfl) ?_;intro gd K x hgd hx hxe hK;clear hxe;have g1x:=zaa (hE1.trans (hEA.trans hx)) g1;have g2x:=zaa (hE1.trans (hEA.trans hx)) g2;have p1x:=zaa hx p1A;have q1x:=zaa hx q1A;refine sgz (az2 (az7 s5 s2 s3 hi0 hlt hi1 g1x) (az5 g2x p1x q1x Nat.mul_one yn0)) ?_;refine Fn.mono (zmA x (r1.ext (hE1.trans (hEA.trans hx))) (r2.ext (hE1.trans (hEA.trans hx))) kl) ?_;rintro _ y ⟨hy,t,rfl,ht2⟩;refine⟨.inr hy,?_⟩;refine sg0 ?_;apply hK;cases t with
  |true=>
   repeat refine c_r ?_
   refine wf Bool.not_true ?_;refine gz (az2 s5 hi1') ?_;exact⟨m - 1,by omega,rfl,i+1,by omega,vq0,vq1 s2,vq1 s3,(hEA.trans hx).trans hy,zef _ _ ht (ht2 rfl)⟩
  |false=>
   repeat refine c_r ?_
   refine wt Bool.not_false ?_;refine gz0 ?_;refine rt0 Tryz.ntmps115 ?_;exact⟨hE1.trans ((hEA.trans hx).trans hy),_,rfl,fun h=>by cases h⟩
 intro hge;simp only[ydF]at hge;have hnames:a.names=b.names:=by rwa [List.take_of_length_le (by omega),List.take_of_length_le (by omega)]at ht
 clear him hge s5 ht p1A q1A;refine gz0 ?_;refine zap (fun m σ ds B=>ds=[]/\∃(i:Nat),i+m=a.nums.length/\σ 6=vi i/\σ 2= .pointer (some ⟨w.heap.size,0,.none⟩)/\σ 3= .pointer (some ⟨w.heap.size+1,0,.none⟩)/\Ext w2 B/\a.nums.take i=b.nums.take i) a.nums.length ?_ ?_
 ·exact⟨rfl,0,by omega,vr0,vq1 s2,vq1 s3,hEA,rfl⟩
 clear s2 s3 hEA;rintro m2 σ3 ds3 B ⟨rfl,i,him,s6,s2,s3,hEB,ht⟩;have p2B:=zaa hEB p2;have q2B:=zaa hEB q2;refine gz (az4 s6 s2 p2B yn0) ?_;refine wc0 ?_ ?_
 ·intro hlt;simp only[ydT]at hlt;have hi:i<a.nums.length:=by omega
  have hi2:i<b.nums.length:=by omega
  have hi0:=cj i;have hi1:(i:Int)<(b.nums.length:Int):=by omega
  have hi1':=ci i;have g1:=gc i hi;have g2:=gd4 i hi2;obtain⟨x1,rfl⟩:=yxs (zag g1);obtain⟨x2,rfl⟩:=yxs (zag g2);repeat refine c_r ?_
  refine zaJ (fun _=>false) [(0,true),(1,true),(2,true),(3,true),(4,true),(5,true),(6,true),(7,true),(8,true),(9,true),(10,true)] NoS mixed (by kernel_rfl) ?_;intro gd K x hgd hx hxe hK;clear hxe;have g1x:=zaa (hE1.trans (hEB.trans hx)) g1;have g2x:=zaa (hE1.trans (hEB.trans hx)) g2;have p2x:=zaa hx p2B;have q2x:=zaa hx q2B;refine sgz (az2 (az7 s6 s2 s3 hi0 hlt hi1 g1x) (az5 g2x p2x q2x Nat.mul_one yn0)) ?_;apply hK;by_cases he:a.nums[i]=b.nums[i]
  ·repeat refine c_r ?_
   refine wf (an2 (yet he) Bool.not_true) ?_;refine gz (az2 s6 hi1') ?_;exact⟨m2 - 1,by omega,rfl,i+1,by omega,vq0,vq1 s2,vq1 s3,hEB.trans hx,zef hi hi2 ht he⟩
  ·repeat refine c_r ?_
   refine wt (an2 (yef he) Bool.not_false) ?_;refine gz0 ?_;refine rt0 Tryz.ntmps115 ?_;exact⟨hE1.trans (hEB.trans hx),_,rfl,fun h=>by cases h⟩
 intro hge;simp only[ydF]at hge;have hnums:a.nums=b.nums:=by rwa [List.take_of_length_le (by omega),List.take_of_length_le (by omega)]at ht
 have p3B:=zaa hEB p3;have q3B:=zaa hEB q3;rw[←htxe]at p3B;rw[←huxe]at q3B;repeat refine c_r ?_
 refine rc (an5 s2 s3 p3B q3B yn0) (zmA B (htx.ext (hE1.trans hEB)) (hux.ext (hE1.trans hEB)) kt) ?_;rintro _ y ⟨hy,t,rfl,ht2⟩;refine re trivial ?_;repeat refine c_r ?_
 refine rt0 Tryz.ntmps115 ?_;refine⟨hE1.trans (hEB.trans hy),_,rfl,fun h=>?_⟩;obtain⟨t1,n1,u1,x1,r1⟩:=a;obtain⟨t2,n2,u2,x2,r2⟩:=b
 dsimp only at e0 hnames hnums ht2 e4
 rw[e0,hnames,hnums,ht2 h,e4]
theorem Is5_ok(w:World){av bv:Value}{xs ys:List RecL}(ha:Rows 7 (RecAt w) w av xs)(hb:Rows 7 (RecAt w) w bv ys)(ko:∀r∈xs,r.owner.length<=1000000000000000/\DatN r.dat)(hl:xs.length<=1000000000):
  Fn Tryz.prog 63 #[av,bv] w (fun v w'=>Ext w w'/\∃t,v= .bool t/\(t=true->xs=ys)):=by
 obtain⟨a1,c1,rfl,_,h1⟩:=ha.open;obtain⟨a2,c2,rfl,_,h2⟩:=hb.open;refine enter Tryz.func63 Tryz.ntmps63 rfl rfl ?_;repeat refine c_r ?_
 refine rg0 ?_;repeat refine c_r ?_
 by_cases hn:(xs.length:Int)=(ys.length:Int)
 rotate_left
 ·refine rg1 (yef hn) ?_;repeat refine c_r ?_
  refine wt Bool.not_false ?_;repeat (first|refine c_r ?_|refine rg0 ?_)
  refine rt0 Tryz.ntmps63 ?_;exact⟨Keep.refl _ _,_,rfl,fun h=>by cases h⟩
 refine rg1 (yet hn) ?_;repeat refine c_r ?_
 refine wf Bool.not_true ?_;repeat refine c_r ?_
 refine rg0 ?_;repeat refine c_r ?_
 refine zap (fun m σ ds A=>ds=[]/\∃(i:Nat),i+m=xs.length/\σ 5=vi i/\σ 0= .slice a1 xs.length c1/\σ 1= .slice a2 ys.length c2/\Ext w A/\xs.take i=ys.take i) xs.length ?_ ?_
 ·exact⟨rfl,0,by omega,vr0,vq0,vq0,Keep.refl _ _,rfl⟩
 rintro m σ ds A ⟨rfl,i,him,s5,s0,s1,hEA,ht⟩;repeat refine c_r ?_
 refine rg2 s5 s0 ?_;repeat refine c_r ?_
 refine wc0 ?_ ?_
 ·intro hlt;simp only[ydT]at hlt;have hi:i<xs.length:=by omega
  have hi2:i<ys.length:=by omega
  have hi0:=cj i;have hi1:(i:Int)<(ys.length:Int):=by omega
  have hi1':=ci i;obtain⟨ca,hca,hRa⟩:=h1 i hi;obtain⟨cb,hcb,hRb⟩:=h2 i hi2;obtain⟨ko1,ko2⟩:=ko _ (List.getElem_mem hi);obtain⟨ra,hra⟩:∃r,xs[i]=r:=⟨_,rfl⟩;obtain⟨rb,hrb⟩:∃r,ys[i]=r:=⟨_,rfl⟩;rw[hra]at hRa ko1 ko2;rw[hrb]at hRb;obtain⟨oa,da,rfl,o1,e1⟩:=hRa.ex;obtain⟨ob,db,rfl,o2,e2⟩:=hRb.ex;have e1':=e1;have e2':=e2;obtain⟨na1,na2,na3,na4,rfl,_⟩:=e1.ex;obtain⟨nb1,nb2,nb3,nb4,rfl,_⟩:=e2.ex;obtain⟨x1,rfl⟩:=yxs (zak hca);obtain⟨x2,rfl⟩:=yxs (zak hcb);obtain⟨y1,hy1⟩:∃y,adr (some x1) (i*7)=some y:=⟨_,rfl⟩;obtain⟨y2,hy2⟩:∃y,adr (some x2) (i*7)=some y:=⟨_,rfl⟩;rw[hy1]at hca;rw[hy2]at hcb;obtain⟨u1,hu1⟩:∃y,adr (some y1) 1=some y:=⟨_,rfl⟩;obtain⟨u2,hu2⟩:∃y,adr (some y2) 1=some y:=⟨_,rfl⟩;obtain⟨z1,hz1⟩:∃y,adr (some y1) 2=some y:=⟨_,rfl⟩;obtain⟨z2,hz2⟩:∃y,adr (some y2) 2=some y:=⟨_,rfl⟩;repeat refine c_r ?_
  refine zaJ (fun _=>false) [(0,true),(1,true),(2,true),(3,true),(4,true),(5,true),(6,true),(7,true),(8,true),(9,true),(10,false),(11,true),(12,true),(13,true),(14,true),(15,true),(16,true),(17,true),(18,true),(19,true),(20,true),(21,true),(22,true),(23,true),(24,true),(25,true),(26,true),(27,true),(28,true),(29,true),(30,true),(31,true),(32,true),(33,true),(34,true),(35,true),(36,false),(37,true),(38,true)] NoS mixed (by kernel_rfl) ?_;intro gd K x hgd hx hxe hK;clear hxe;have hg12:=gk 12 29 hgd rfl;have hg25:=gk 25 42 hgd rfl;have hW:=hEA.trans hx;have f0:zad x (adr (some y1) 0)=some oa:=zah (zac hW hca) rfl;have f1:zad x (adr (some y1) 1)=some (v32 ra.ttl):=zah (zac hW hca) rfl;have f2:zao x (adr (some y1) 2) 5=some [vi ra.dat.ty,na1,na2,na3,na4]:=za9 (m:=2) (k:=5) (zac hW hca);have g0:zad x (adr (some y2) 0)=some ob:=zah (zac hW hcb) rfl;have g1:zad x (adr (some y2) 1)=some (v32 rb.ttl):=zah (zac hW hcb) rfl;have g2:zao x (adr (some y2) 2) 5=some [vi rb.dat.ty,nb1,nb2,nb3,nb4]:=za9 (m:=2) (k:=5) (zac hW hcb);rw[zaj]at f0 g0;rw[hu1]at f1;rw[hu2]at g1;rw[hz1]at f2;rw[hz2]at g2;simp (disch:=first|omega|assumption|rfl) only[go_sem,s5,s0,s1,hi0,hlt,hi1,hy1,hy2,hu1,hu2,hz1,hz2,zaj,f0,f1,f2,g0,g1,g2];refine Fn.mono (zmA x (o1.ext hW) (o2.ext hW) ko1) ?_;rintro _ y ⟨hy,t,rfl,ht2⟩;refine⟨.inr hy,?_⟩;cases t with
  |false=>
   simp (disch:=first|omega|assumption|rfl) only[go_sem,Bool.not_false,za5,↓hg12,↓hg25];refine hK _ _ ?_;clear hK hgd;clear K;try clear gd
   repeat refine c_r ?_
   refine wt trivial ?_;repeat (first|refine c_r ?_|refine rg0 ?_)
   refine rt0 Tryz.ntmps63 ?_;exact⟨hW.trans hy,_,rfl,fun h=>by cases h⟩
  |true=>
  have f1y:=zaa hy f1;have f2y:=zac hy f2;have g1y:=zaa hy g1;have g2y:=zac hy g2;by_cases htt:ra.ttl=rb.ttl
  rotate_left
  ·simp (disch:=first|omega|assumption|rfl) only[go_sem,Bool.not_true,za5,s5,s0,s1,hi0,hlt,hi1,hy1,hy2,hu1,hu2,f1y,g1y,yef htt,Bool.not_false,↓hg12,↓hg25];refine hK _ _ ?_;clear hK hgd;clear K;try clear gd
   repeat refine c_r ?_
   refine wt trivial ?_;repeat (first|refine c_r ?_|refine rg0 ?_)
   refine rt0 Tryz.ntmps63 ?_;exact⟨hW.trans hy,_,rfl,fun h=>by cases h⟩
  simp (disch:=first|omega|assumption|rfl) only[go_sem,Bool.not_true,za5,s5,s0,s1,hi0,hlt,hi1,hy1,hy2,hu1,hu2,f1y,g1y,yet htt,hz1,hz2,f2y,g2y,↓hg12,↓hg25];refine Fn.mono (Is4_ok y (e1'.ext (hW.trans hy)) (e2'.ext (hW.trans hy)) ko2) ?_;rintro _ z ⟨hz,t,rfl,ht4⟩;refine⟨.inr hz,?_⟩;simp (disch:=first|omega|assumption|rfl) only[go_sem,za5,↓hg12,↓hg25];refine hK _ _ ?_;clear hK hgd;clear K;try clear gd
  have hWz:=(hW.trans hy).trans hz;cases t with
  |false=>
   repeat refine c_r ?_
   refine wt Bool.not_false ?_;repeat (first|refine c_r ?_|refine rg0 ?_)
   refine rt0 Tryz.ntmps63 ?_;exact⟨hWz,_,rfl,fun h=>by cases h⟩
  |true=>
   have hrr:xs[i]=ys[i]:=by
    rw[hra,hrb];obtain⟨r1,r2,r3⟩:=ra;obtain⟨r4,r5,r6⟩:=rb
    dsimp only at ht2 htt ht4
    rw[ht2 rfl,htt,ht4 rfl]
   repeat refine c_r ?_
   refine wf Bool.not_true ?_;repeat refine c_r ?_
   refine rg2 s5 hi1' ?_;repeat refine c_r ?_
   exact⟨m - 1,by omega,rfl,i+1,by omega,vq0,vq1 s0,vq1 s1,hWz,zef hi hi2 ht hrr⟩
 ·intro hge;simp only[ydF]at hge;repeat (first|refine c_r ?_|refine rg0 ?_)
  refine rt0 Tryz.ntmps63 ?_;refine⟨hEA,_,rfl,fun _=>?_⟩
  rwa [List.take_of_length_le (by omega),List.take_of_length_le (by omega)]at ht
def zco(to:Nm):List (Nm×List DatL)->List DatL
 | []=>[]
 |g::l=>if zan g.1=zan to then g.2 else zco to l
theorem zhK{to:Nm}:∀{l:List (Nm×List DatL)},zco to l=[]\/∃g∈l,zco to l=g.2
 | []=> .inl rfl
 |g::l=>by
  unfold zco
  split
  ·exact .inr ⟨g,List.mem_cons_self ..,rfl⟩
  ·rcases zhK (to:=to) (l:=l) with h| ⟨x,hx,h⟩
   ·exact .inl h
   ·exact .inr ⟨x,List.mem_cons_of_mem _ hx,h⟩
theorem Hints_ok{w0 w:World}(hE0:Ext w0 w){cs:List Value}{r:ResL}{hv:Value}{to:Nm}(hr:ResAt w0 w cs r)(kr:zkt r)(hh:Row w hv (to.map vs))(mh:NmS to):
  Fn Tryz.prog 206 #[.agg cs.toArray,hv] w (fun v w'=>Ext w w'/\Rows 5 (DatAt w0) w' v (zco to r.glue)):=by
 obtain⟨dv,nv,gv,rfl,h1,h2,h3⟩:=hr.ex;obtain⟨a1,c1,hdv,_⟩:=h1.open;obtain⟨a2,c2,hnv,_⟩:=id h2;obtain⟨ag,cg,rfl,hcg,hgg⟩:=h3.open;have gl:=kr.gl;have ml:=mh.len;refine enter Tryz.func206 Tryz.ntmps206 rfl rfl ?_;repeat refine c_r ?_
 rw[hdv,hnv];refine rg0 ?_;rw[←hdv,←hnv];repeat refine c_r ?_
 refine zaw ?_;intro w1 hE1 hs1 hA;have p4:zad w1 (some ⟨w.heap.size,4,.none⟩)=some (.slice ag r.glue.length cg):=zab hA rfl;refine gz (az2 p4 yn0) ?_;refine zap (fun m σ ds A=>ds=[]/\∃(i:Nat),i+m=r.glue.length/\σ 10=vi i/\σ 9=vi r.glue.length/\σ 8= .slice ag r.glue.length cg/\σ 1=hv/\zco to r.glue=zco to (r.glue.drop i)/\Ext w A) r.glue.length ?_ ?_
 ·exact⟨rfl,0,by omega,vr0,vq0,vq0,vq0,rfl,hE1⟩
 rintro m σ ds A ⟨rfl,i,him,s10,s9,s8,s1,hgo,hEA⟩;refine gz (az2 s10 s9) ?_;refine wc0 ?_ ?_
 ·intro hlt;simp only[ydT]at hlt;have hi:i<r.glue.length:=by omega
  have hi0:=cj i;have hi1':=ci i;obtain⟨cs,hcs,hG⟩:=hgg i hi;obtain⟨g,hge⟩:∃g,r.glue[i]=g:=⟨_,rfl⟩;rw[hge]at hG;obtain⟨gh,gdv,rfl,g1,g2⟩:=hG;have kg:=kr.g g (hge▸List.getElem_mem hi);have kgl:=kg.1.len;obtain⟨xz,rfl⟩:=yxs (zak hcs);obtain⟨xi,hxi⟩:∃xi,adr (some xz) (i*2)=some xi:=⟨_,rfl⟩;rw[hxi]at hcs;have d:=zac hEA hcs;rw[List.drop_eq_getElem_cons hi,hge,show zco to (g::r.glue.drop (i+1))=if zan g.1=zan to then g.2 else zco to (r.glue.drop (i+1)) from rfl]at hgo;refine rqz ?_;intro gd K hgd hK;refine sgz (az6 s10 s8 hi0 hlt hxi d) ?_;refine zaV (P:=Tryz.prog) (l:=[gh,gdv]) rfl (zc6 g1.isOne g2.isOne) rfl rfl ?_;intro A1 hE6 hs6 hB6;try simp only[go_sem]
  apply hK;have q0:zad A1 (some ⟨A.heap.size,0,.none⟩)=some gh:=zab hB6 rfl;have q1:zad A1 (some ⟨A.heap.size,1,.none⟩)=some gdv:=zab hB6 rfl;have hE06:=hE0.trans (hEA.trans hE6);repeat refine c_r ?_
  refine rc (an3 q0 s1 Nat.add_zero) (zeK A1 gh hv g.1 to (g1.ext hE06) (hh.ext (hEA.trans hE6)) kg.1.lb mh.lb (by omega) (by omega)) ?_;rintro _ A2 ⟨rfl,hE7⟩;refine re trivial ?_;have q1':=zaa hE7 q1;have hE67:=hE6.trans hE7;repeat refine c_r ?_
  by_cases hs:zan g.1=zan to
  ·refine wt (yet hs) ?_;rw[if_pos hs]at hgo;refine gz (az2 q1' yn0) ?_;refine rt0 Tryz.ntmps206 ?_;rw[hgo];exact⟨hEA.trans hE67,g2.ext (hEA.trans hE67)⟩
  ·refine wf (yef hs) ?_;rw[if_neg hs]at hgo;refine gz (az2 s10 hi1') ?_;exact⟨m - 1,by omega,rfl,i+1,by omega,vq0,vq1 s9,vq1 s8,vq1 s1,hgo,hEA.trans hE67⟩
 ·intro hge;simp only[ydF]at hge;rw[List.drop_eq_nil_of_le (by omega)]at hgo;refine gz0 ?_;refine rt0 Tryz.ntmps206 ?_;rw[hgo];exact⟨hEA,Rows.nil _ _ _⟩
def ofR(N:NetL)(r:ResL)(x:Nm):List Int:=zed N x (zco x r.glue)
def encM(N:NetL)(r:ResL)(n0:Nat)(x:Nm)(U:Nat->Prop)(A:World)(args:Array Value):Prop:=∃v B,args=#[v]/\Row A v ((ofR N r x).map vi)/\BlkB B A v/\(∀b,U b->b<B)/\n0<=B
theorem meant_ok(w:World){a b c d e f g h k:Value}:
  Fn Tryz.prog 151 #[.agg #[a,b,c,d],.agg #[e,f,g,h,k]] w (fun v w'=>v= .func (.func 203) #[] #[.pointer (some ⟨w.heap.size+1,0,.none⟩),.pointer (some ⟨w.heap.size,0,.none⟩)]/\Ext w w'/\w'.heap.size=w.heap.size+2/\
   w'.heap[w.heap.size]? =some (.cells #[a,b,c,d] 25 (0,0))/\w'.heap[w.heap.size+1]? =some (.cells #[e,f,g,h,k] 184 (0,0))):=by
 refine enter Tryz.func151 Tryz.ntmps151 rfl rfl ?_;repeat refine c_r ?_
 refine rg0 ?_;repeat refine c_r ?_
 rw[zai];refine zaF ?_;intro w1 hE1 hs1 hA hC;refine rg0 ?_;repeat refine c_r ?_
 refine rt0 Tryz.ntmps151 ?_;exact⟨rfl,hE1,hs1,hA,hC⟩
theorem meantIt{w0 w1 W0:World}{C:Nat->Prop}{br bn:Nat}{cs cr:List Value}{N:NetL}{r:ResL}(hE01:Ext w0 w1)(hE1:Ext w1 W0)(hb:W0.heap[br]? =some (.cells cr.toArray 184 (0,0)))(hn:W0.heap[bn]? =some (.cells cs.toArray 25 (0,0)))
  (hC:∀b,C b->w1.heap.size<=b/\b<W0.heap.size) (hCb:¬C br) (hCn:¬C bn) (hN:NetAt w0 cs N) (hG:NetZ N) (hr:ResAt w0 w1 cr r) (kr:zkt r) (hgood:∀n∈zax 2 r.data,NmM n):
  IterU Tryz.prog 203 #[.pointer (some ⟨br,0,.none⟩),.pointer (some ⟨bn,0,.none⟩)] W0 W0.heap.size C 0 (fun pre x=>∃suf,zax 2 r.data=pre++x::suf) (fun xs=>xs=zax 2 r.data) (encM N r):=by
 intro lp J Jx W hW hnW hJ hJx hY h0;have hr0:=hr;have hN0:=hN;have hn4:=hN.one;obtain⟨dv,nv,gv,rfl,h1,h2,h3⟩:=hr.ex;have dl:=kr.dl;obtain⟨a1,c1,hdv,_⟩:=h1.open;have hs1:=hE1.size;have hbl:=(Array.getElem?_eq_some_iff.1 hb).1;have hnl:=(Array.getElem?_eq_some_iff.1 hn).1;have hE1W:=hE1.trans hW;have pd:zad W (some ⟨br,1,.none⟩)=some dv:=zab (Ext.at hW hb) rfl;refine enter Tryz.func203 Tryz.ntmps203 rfl rfl ?_;refine rqz ?_;intro gd K hgd hK;refine sgz pd ?_;refine⟨by kernel_rfl,?_⟩;rw[hdv,show bdV Tryz.prog 340 [(1,vi 2),(3,.slice a1 r.data.length c1)]=some (.agg #[.slice .none 0 0,vi 2,v32 0,.slice a1 r.data.length c1]) from by kernel_rfl,←hdv];try simp only[go_sem]
 refine Fn.mono (zgv (t:=2) (ow:= .slice .none 0 0) (tl:=v32 0) (hE01.trans hE1W) rfl rfl (h1.ext hE1W) dl) ?_;rintro tv X ⟨hEX,htv,htb⟩;obtain⟨aT,cT,rfl,hcT,hgT⟩:=htv.open;obtain⟨L,hL⟩:∃L,zax 2 r.data=L:=⟨_,rfl⟩;rw[hL]at htv htb hcT hgood hY ⊢;simp only[hL]at hgT;try simp only[go_sem]
 apply hK;have hLl:L.length<=1000000000:=by
  rw[←hL];unfold zax
  split
  ·have:=List.length_filterMap_le (fun d:DatL=>d.names.head?) r.data;omega
  ·simp
 have hsX:=hEX.size;repeat refine c_r ?_
 refine zap (fun m σ ds' v=>ds'=[]/\∃(i:Nat) (U:Nat->Prop),i+m=L.length/\σ 11=vi i/\σ 10=vi L.length/\σ 9= .slice aT L.length cT/\σ 0= .func (.yield lp) #[] #[]/\σ 1= .pointer (some ⟨br,0,.none⟩)/\σ 2= .pointer (some ⟨bn,0,.none⟩)/\
  J (L.take i) U v/\(∀b,U b->X.heap.size<=b/\b<v.heap.size)/\X.heap.size<=v.heap.size/\KeepB W0.heap.size C W v/\Ext w1 v/\Rows 1 (NmC w0) v (.slice aT L.length cT) L) L.length ?_ ?_
 ·exact⟨rfl,0,NoS,by omega,vr0,vq0,vq0,vq0,vq0,vq0,hJ _ _ _ _ h0 (hEX.mono (fun _ _ h=>h.elim)),fun b h=>h.elim,ynl _,zcW hEX (by omega),hE1W.trans hEX,htv⟩
 rintro m σ ds' v ⟨rfl,i,U,him,s11,s10,s9,s0,s1,s2,hj,hU,hsv,hKB,hEv,hrow⟩;refine gz (az2 s11 s10) ?_;refine wc0 ?_ ?_
 ·intro hlt;simp only[ydT]at hlt;have hi:i<L.length:=by omega
  have hi0:=cj i;have hi1':=ci i;obtain⟨h,hh⟩:∃h,L[i]=h:=⟨_,rfl⟩;have hgh:NmM h:=hh▸hgood _ (List.getElem_mem hi);obtain⟨cs',hcs,hv,rfl,hvr⟩:=hrow.get hi;rw[hh]at hvr;have hcell:zad v (adr aT i)=some hv:=by
   have:=zah hcs (j:=0) rfl
   rwa [Nat.mul_one,zaj]at this
  obtain⟨xT,rfl⟩:=yxs (zag hcell);have hbv:v.heap[br]? =some (.cells #[vi r.kind,dv,nv,.bool r.wild,gv] 184 (0,0)):=(hKB.block _ (by omega) hCb).trans (Ext.at hW hb);have hnv:v.heap[bn]? =some (.cells cs.toArray 25 (0,0)):=(hKB.block _ (by omega) hCn).trans (Ext.at hW hn);have db:=zaf (n:=5) (l:=[vi r.kind,dv,nv,.bool r.wild,gv]) hbv rfl;have dn:=zaf (n:=4) hnv hn4.1.symm;have hE0v:=hE01.trans hEv;refine gz (az5 s9 s11 hi0 hlt hcell) ?_;refine zaJ (fun i=>i==7) [(0,true),(1,true),(2,true),(3,true),(4,true),(5,false),(6,false),(7,false),(8,true)] NoS mixed (by kernel_rfl) ?_;intro gd K x hgd hx hxe hK;clear hxe;have dbx:=zac hx db;have dnx:=zac hx dn;refine sgz (az5 s0 s1 s2 dbx dnx) ?_;have hE0x:=hE0v.trans hx;refine Fn.mono (Hints_ok hE0x ((hr0.ext hEv).ext hx) kr (hvr.ext hE0x) hgh.s) ?_;rintro gv' y1 ⟨hy1,hg1⟩;refine⟨.inr hy1,?_⟩;have dny:=zac hy1 dnx;have hgl:(zco h r.glue).length<=1000000000:=by
   rcases zhK (to:=h) (l:=r.glue) with e| ⟨g,hg,e⟩
   ·rw[e];simp
   ·rw[e];exact(kr.g g hg).2.2
  refine sg0 ?_;refine Fn.mono (Meant_ok (hE0x.trans hy1) hN0 hG hvr hgh hg1 hgl) ?_;rintro mv y2 ⟨hy2,hm2,hB2⟩;refine⟨.inr hy2,?_⟩;have hvy:=(hx.trans hy1).trans hy2;have hsy:=hvy.size;have hsy1:=(hx.trans hy1).size;refine sgz s0 ?_;refine Yld.mono (hY (L.take i) U h y2 _ ⟨L.drop (i+1),by rw[←hh,←List.drop_eq_getElem_cons,List.take_append_drop]⟩ (hJ _ _ _ _ hj (hvy.mono (fun _ _ h=>h.elim))) (by omega) (hKB.trans (zcW hvy (by have:=hKB.size;omega))) ⟨mv,_,rfl,hm2,hB2,fun b hb=>by have:=(hU b hb).2;omega,by omega⟩) ?_;rintro u z (⟨rfl,U',hj',hU',hkr⟩| ⟨rfl,hjx⟩)
  ·refine⟨.inl rfl,?_⟩;refine sg0 ?_;apply hK;have hzs:=hkr.size;have hCb:∀b,W.heap.size<=b->b<X.heap.size->¬(C b\/U b):=fun b h1 h2 h3=>by
    rcases h3 with h3|h3
    ·have:=hC b h3;omega
    ·have:=hU b h3;omega
   have hrowz:Rows 1 (NmC w0) z (.slice (some xT) L.length cT) L:=(hrow.ext hvy).blocks fun a n c hv=>by
    have h1:=htb a n c hv;exact hkr.block _ (by omega) (.inr (by omega)) (hCb _ (by omega) h1.2)
   have hKz:KeepB W0.heap.size C W z:=(hKB.trans (zcW hvy (by have:=hKB.size;omega))).trans ⟨hkr.os,hkr.tape,hkr.output,hkr.size,fun b hb hc=>hkr.block b (by omega) (.inl hb) (fun h=>by
    rcases h with h|h
    ·exact hc h
    ·have:=hU b h;omega),hkr.drawn⟩
   have htk:L.take (i+1)=L.take i++ [h]:=by rw[zam hi,hh]
   repeat refine c_r ?_
   refine wf trivial ?_;refine gz (az2 s11 hi1') ?_;refine⟨m - 1,by omega,rfl,i+1,U',by omega,vq0,vq1 s10,vq1 s9,vq1 s0,vq1 s1,vq1 s2,by rw[htk];exact hj',fun b hb=>?_,by omega,hKz,zdd hE1W hKz (by omega) (fun b hb=>(hC b hb).1),hrowz⟩;rcases hU' b hb with h|h
   ·have:=hU b h;omega
   ·omega
  ·refine⟨.inl rfl,?_⟩;refine sg0 ?_;refine en hK ?_;refine wt trivial ?_;repeat refine c_r ?_
   refine zaA (by simp) rfl (.inr ⟨_,_,⟨L.drop (i+1),by rw[←hh,←List.drop_eq_getElem_cons,List.take_append_drop,hL]⟩,hjx⟩)
 ·intro hge;simp only[ydF]at hge;repeat refine c_r ?_
  refine zaA (by simp) rfl (.inl ⟨_,U,rfl,?_⟩);rw[List.take_of_length_le (by omega)]at hj;rw[hL];exact hj
def zeo(N:NetL)(s:zar)(to:Nm):List zar:=if s.rw>=N.rw then endS s 7 else if (zbR N s.sv to).2=true then [{s with rw:=s.rw+1,name:=to,ref:=false}] else zc9 N {s with rw:=s.rw+1,name:=to,ref:=false}
def zdO(N:NetL)(r:ResL)(s:zar)(h:Nm):List zar:=(if ((ofR N r h).length:Int)=0 then endS s 9 else [])++(ofR N r h).map fun k=>{s with sv:=k,ref:=true}
def zeN(N:NetL)(s:zar)(r:ResL):List zar:=if s.rf>=N.rf then endS s 8 else(zax 2 r.data).flatMap (zdO N r {s with rf:=s.rf+1})
theorem alias_ok{w0 w:World}(hE0:Ext w0 w){cs:List Value}{N:NetL}(hN:NetAt w0 cs N)(hG:NetZ N){nv tv:Value}{s:zar}{to:Nm}(hr:Row w nv (s.name.map vs))(ht:Row w tv (to.map vs))(mt:NmM to)(b0:0<=s.rw)(b1:s.rw<=1000000):
  Fn Tryz.prog 95 #[.agg (stV nv s).toArray,.agg cs.toArray,tv] w (fun v w'=>Ext w w'/\StF w.heap.size (fun u=>u=nv\/u=tv) w' v (zeo N s to)):=by
 have hN0:=hN;obtain⟨hv,rv,rfl,hh,hro⟩:=hN.ex;obtain⟨ah,ch,hhv,_⟩:=hh.open;obtain⟨ar,cr,hrv,_⟩:=id hro;obtain⟨an,cn,hnv,_⟩:=id hr;have t1:=ht.isOne;obtain⟨at1,ct,htv,_⟩:=id ht;unfold stV;refine enter Tryz.func95 Tryz.ntmps95 rfl rfl ?_;repeat refine c_r ?_
 rw[hhv,hrv,hnv];refine rg0 ?_;rw[←hhv,←hrv,←hnv];repeat refine c_r ?_
 rw[zai];refine zaF ?_;intro w1 hE1 hs1 hA hB;have p2:zad w1 (some ⟨w.heap.size,2,.none⟩)=some (vi s.rw):=zab hA rfl;have q2:zad w1 (some ⟨w.heap.size+1,2,.none⟩)=some (vi N.rw):=zab hB rfl;have dA:zao w1 (some ⟨w.heap.size,0,.none⟩) 6=some (stV nv s):=zaf hA rfl;repeat refine c_r ?_
 unfold zeo;by_cases hge:s.rw>=N.rw
 ·rw[if_pos hge];refine gz (az4 p2 q2 yn0 (yet hge)) ?_;refine wt trivial ?_;repeat refine c_r ?_
  refine rc dA (zcX w1 (hr.ext hE1) s 7) ?_;rintro v w2 ⟨hE2,hv2⟩;refine re trivial ?_;repeat refine c_r ?_
  refine rt0 Tryz.ntmps95 ?_;exact⟨hE1.trans hE2,(zcv hv2 (hr.ext (hE1.trans hE2))).mono hE1.size fun u h=> .inl h⟩
 rw[if_neg hge];refine gz (az4 p2 q2 yn0 (yef hge)) ?_;refine wf trivial ?_;refine rqz ?_;intro gd K hgd hK;refine sgz (az2 p2 yn0) ?_;refine zaT (P:=Tryz.prog) (t:=3) (j:=2) (u:=vi (s.rw+1)) (l:=stV nv s) hA (by show 2<6;decide) rfl rfl rfl ?_;intro w2 hs2 hA2 hk2;try simp only[go_sem]
 apply hK;refine rqz ?_;intro gd K hgd hK;try simp only[go_sem]
 refine zaT (P:=Tryz.prog) (t:=27) (j:=1) (u:=tv) hA2 (by show 1<6;decide) t1 rfl rfl ?_;intro w3 hs3 hA3 hk3;try simp only[go_sem]
 refine zaT (P:=Tryz.prog) (t:=4) (j:=4) (u:= .bool false) hA3 (by show 4<6;decide) rfl rfl rfl ?_;intro w4 hs4 hA4 hk4;try simp only[go_sem]
 apply hK;obtain⟨s2,hs2e⟩:∃s2:zar,{s with rw:=s.rw+1,name:=to,ref:=false}=s2:=⟨_,rfl⟩;have hA4':w4.heap[w.heap.size]? =some (.cells (stV tv s2).toArray 80 (0,0)):=by rw[←hs2e];exact hA4
 have hE4:Ext w w4:=Keep.to_ext (Keep.to_ext (Keep.to_ext hE1 rfl (fun b hb=>by omega) hk2) rfl (fun b hb=>by omega) hk3) rfl (fun b hb=>by omega) hk4;have hB4:=(hk4.block _ (by omega) (by omega)).trans ((hk3.block _ (by omega) (by omega)).trans ((hk2.block _ (by omega) (by omega)).trans hB));have dN:zao w4 (some ⟨w.heap.size+1,0,.none⟩) 4=some [hv,rv,vi N.rw,vi N.rf]:=zaf hB4 rfl;have r0:zad w4 (some ⟨w.heap.size,0,.none⟩)=some (vi s.sv):=by rw[←hs2e]at hA4';exact zab hA4' rfl
 have hE04:=hE0.trans hE4;have mn:s2.name=to:=by rw[←hs2e]
 rw[hs2e];repeat refine c_r ?_
 refine rc (an3 dN r0 Nat.add_zero) (zmj (s:=s.sv) hE04 hN0 hG (ht.ext hE4) mt) ?_;rintro _ w5 ⟨rfl,hE5⟩;refine re trivial ?_;have hE45:=hE4.trans hE5;have dS:zao w5 (some ⟨w.heap.size,0,.none⟩) 6=some (stV tv s2):=zac hE5 (zaf hA4' rfl);have dN5:=zac hE5 dN;repeat refine c_r ?_
 cases hb:(zbR N s.sv to).2 with
 |true=>
  rw[if_pos rfl];refine wt trivial ?_;refine rqz ?_;intro gd K hgd hK;refine sgz dS ?_;refine zaN (C:=StN tv) (zba tv) (l:=stV tv s2) (a:=s2) (by rfl) (by rfl) (by rfl) (by rfl) ⟨rfl,t1⟩ (by decide) ?_;intro w6 hE6 hs6 ho6;try simp only[go_sem]
  refine en hK ?_;refine rt0 Tryz.ntmps95 ?_;exact⟨hE45.trans hE6,ho6.blk.mono hE45.size,tv,.inr rfl,ho6.rows,fun x hx=>by rw[List.mem_singleton.1 hx,mn];exact ht.ext (hE45.trans hE6)⟩
 |false=>
  rw[if_neg Bool.false_ne_true];refine wf trivial ?_;repeat refine c_r ?_
  refine rc (an2 dS dN5) (zjf (hE0.trans hE45) hN0 hG.rl (ht.ext hE45) s2) ?_;rintro v w6 ⟨hE6,hv6⟩;refine re trivial ?_;repeat refine c_r ?_
  refine rt0 Tryz.ntmps95 ?_;exact⟨hE45.trans hE6,hv6.2.mono hE45.size,tv,.inr rfl,hv6.1,fun x hx=>by
   obtain⟨k,_,rfl⟩:=List.mem_map.1 hx;show Row _ _ (s2.name.map vs);rw[mn];exact ht.ext (hE45.trans hE6)⟩
theorem zlq{N:NetL}{r:ResL}{s x:zar}{h:Nm}(hx:x∈zdO N r s h):x.name=s.name:=by
 unfold zdO at hx;rcases List.mem_append.1 hx with hx|hx
 ·split at hx
  ·exact zbK hx
  ·cases hx
 ·obtain⟨k,_,rfl⟩:=List.mem_map.1 hx;rfl
theorem zlj{N:NetL}{r:ResL}{h:Nm}:(ofR N r h).length<=N.hosts.length:=zda
theorem zhJ{N:NetL}{r:ResL}{s:zar}{h:Nm}:(zdO N r s h).length<=N.hosts.length+1:=by
 have:=zlj (N:=N) (r:=r) (h:=h);unfold zdO endS
 split<;>simp<;>omega
theorem zgX{α β:Type}{f:α->List β}{k:Nat}(hf:∀a,(f a).length<=k):∀l:List α,(l.flatMap f).length<=l.length*k
 | []=>by simp
 |a::l=>by
  have h1:=hf a;have h2:=zgX hf l;rw[List.flatMap_cons,List.length_append,List.length_cons,Nat.succ_mul];omega
structure SRf(w Y:World)(b7 b3 n0:Nat)(nv iv:Value)(U U':Nat->Prop)(s2:zar)(L:List Int)(ov:Value)(G:List zar)(v:World):Prop where
 h7:v.heap[b7]? =some (.cells #[ov] 92 (0,0))
 own:Owns 6 (StN nv) n0 v 80 ov G
 u1:∀b,some b=ov.ownBlock->U' b
 u2:∀b,U' b->U b\/(Y.heap.size<=b/\b<v.heap.size)
 kb:KeepB Y.heap.size (fun b=>b=b7\/U b) Y v
 e:Ext w v
 h3:v.heap[b3]? =some (.cells (stV nv s2).toArray 80 (0,0))
 riv:Row v iv (L.map vi)
 blk:∃B,BlkB B Y iv/\(∀b,U b->b<B)/\n0<=B
 lo:w.heap.size<=b3/\w.heap.size<=b7/\b3≠b7/\b3<n0/\b7<n0/\n0<=Y.heap.size/\∀b,U b->n0<=b/\b<Y.heap.size
theorem SRf.app{w Y v v1 v2 v3:World}{b7 b3 n0:Nat}{nv iv ov ov':Value}{U U':Nat->Prop}{s2:zar}{L:List Int}{G news:List zar}(h:SRf w Y b7 b3 n0 nv iv U U' s2 L ov G v)(hE:Ext v v1)
  (ho:Owns 6 (StN nv) n0 v2 80 ov' (G++news)) (hk:Keep (fun b=>some b=ov.ownBlock) v1 v2) (hb:∀b,some b=ov'.ownBlock->some b=ov.ownBlock\/v1.heap.size<=b)
  (h7:v3.heap[b7]? =some (.cells #[ov'] 92 (0,0))) (hk3:Keep (fun b=>b=b7) v2 v3):SRf w Y b7 b3 n0 nv iv U (fun b=>U' b\/(v1.heap.size<=b/\b<v3.heap.size)) s2 L ov' (G++news) v3:=by
 obtain⟨B,hB1,hB2,hB3⟩:=h.blk;obtain⟨l1,l2,l3,l4,l5,l6,l7⟩:=h.lo;have z0:=h.kb.size;have z1:=hE.size;have z2:=hk.size;have z3:=hk3.size;have ow:∀b,some b=ov.ownBlock->n0<=b/\b<v.heap.size:=fun b hb=>h.own.ge hb;have low:∀b,some b=ov.ownBlock->b<Y.heap.size->U b:=fun b hb hY=>(h.u2 b (h.u1 b hb)).resolve_right (by omega);have k2:KeepB Y.heap.size (fun b=>b=b7\/U b) v1 v2:=hk.toB (by omega) (fun b hY hb=> .inr (low b hb hY));have k3:KeepB Y.heap.size (fun b=>b=b7\/U b) v2 v3:=hk3.toB (by omega) (fun b hY hb=> .inl hb);have e2:Ext w v2:=Keep.to_ext (h.e.trans hE) rfl (fun b hb=>by have:=ow b hb;omega) hk;refine⟨h7,ho.keep hk3 (fun b hb hb2=>by have:=ho.ge hb;omega),fun b hb'=>?_,fun b hb'=>?_,(h.kb.trans (zcW hE (by omega))).trans (k2.trans k3),Keep.to_ext e2 rfl (fun b hb=>by omega) hk3,?_,?_,h.blk,h.lo⟩
 ·rcases hb b hb' with e|e
  ·exact .inl (h.u1 b e)
  ·have:=ho.ge hb';exact .inr (by omega)
 ·rcases hb' with e|e
  ·rcases h.u2 b e with e|e
   ·exact .inl e
   ·exact .inr (by omega)
  ·exact .inr (by omega)
 ·exact(hk3.block _ (by have:=(Array.getElem?_eq_some_iff.1 h.h3).1;omega) (by omega)).trans ((hk.block _ (by have:=(Array.getElem?_eq_some_iff.1 h.h3).1;omega) (fun hb=>by have:=ow _ hb;omega)).trans (Ext.at hE h.h3))
 ·have hivb:BlkB B v1 iv:=hB1.ext (by omega);refine(((h.riv.ext hE).blocks fun a n c hv=>hk.block _ (by have:=(hB1 a n c hv).2;omega) (fun hb=>?_))).blocks fun a n c hv=>hk3.block _ (by have:=(hB1 a n c hv).2;omega) (by have:=(hB1 a n c hv).1;omega);have h1:=(hB1 a n c hv);have:=hB2 _ (low _ hb h1.2);omega
theorem refer_ok{w0 w:World}(hE0:Ext w0 w){cs cr:List Value}{N:NetL}{r:ResL}(hN:NetAt w0 cs N)(hG:NetZ N){nv:Value}{s:zar}(hr:Row w nv (s.name.map vs))(hres:ResAt w0 w cr r)(kr:zkt r)(kl:r.data.length<=1000)(hgood:∀n∈zax 2 r.data,NmM n)(b0:0<=s.rf)(b1:s.rf<=1000000):
  Fn Tryz.prog 96 #[.agg (stV nv s).toArray,.agg cs.toArray,.agg cr.toArray] w (fun v w'=>Ext w w'/\StF w.heap.size (fun u=>u=nv) w' v (zeN N s r)):=by
 have hN0:=hN
 have hres0:=hres
 obtain⟨hv,rv,rfl,hh,hro⟩:=hN.ex
 obtain⟨dv,mv,gv,rfl,g1,g2,g3⟩:=hres.ex
 obtain⟨ah,ch,hhv,_⟩:=hh.open
 obtain⟨ar,cr,hrv,_⟩:=id hro
 obtain⟨an,cn,hnv,_⟩:=id hr
 obtain⟨ad,cd,hdv,_⟩:=g1.open
 obtain⟨am,cm,hmv,_⟩:=id g2
 obtain⟨ag,cg,hgv,_⟩:=g3.open
 have n1:=hr.isOne
 unfold stV
 refine enter Tryz.func96 Tryz.ntmps96 rfl rfl ?_
 repeat refine c_r ?_
 rw[hhv,hrv,hnv,hdv,hmv,hgv]
 refine rg0 ?_
 rw[←hhv,←hrv,←hnv,←hdv,←hmv,←hgv]
 repeat refine c_r ?_
 rw[zai,zai,zai]
 refine zcZ ?_
 intro w1 hE1 hs1 hA hB hC
 have p3:zad w1 (some ⟨w.heap.size,3,Option.none⟩)=some (vi s.rf):=zab hA rfl
 have q3:zad w1 (some ⟨w.heap.size+1,3,Option.none⟩)=some (vi N.rf):=zab hB rfl
 have dA:zao w1 (some ⟨w.heap.size,0,Option.none⟩) 6=some (stV nv s):=zaf hA rfl
 repeat refine c_r ?_
 unfold zeN
 by_cases hge:s.rf>=N.rf
 ·rw[if_pos hge]
  refine rg4 p3 q3 Nat.zero_add (decide_eq_true hge) ?_
  repeat refine c_r ?_
  refine wt trivial ?_
  repeat refine c_r ?_
  refine rc dA (zcX w1 (hr.ext hE1) s 8) ?_
  rintro v w2 ⟨hE2,hv2⟩
  refine re trivial ?_
  repeat refine c_r ?_
  refine rt0 Tryz.ntmps96 ?_
  exact⟨hE1.trans hE2,(zcv hv2 (hr.ext (hE1.trans hE2))).mono hE1.size fun u h=>h⟩
 rw[if_neg hge]
 refine rg4 p3 q3 Nat.zero_add (decide_eq_false hge) ?_
 repeat refine c_r ?_
 refine wf trivial ?_
 repeat refine c_r ?_
 refine rq ?_;intro gd K hgd hK
 try simp (disch:=first|omega|assumption|rfl) only[go_sem,p3,Nat.zero_add]
 refine zaT (P:=Tryz.prog) (t:=3) (j:=3) (u:=vi (s.rf+1)) (l:=stV nv s) hA (by show 3<6;decide) rfl rfl rfl ?_
 intro w2 hs2 hA2 hk2
 try simp only[go_sem]
 refine hK _ _ ?_;clear hK hgd;clear K;try clear gd
 obtain⟨s2,hs2e⟩:∃s2:zar,{s with rf:=s.rf+1}=s2:=⟨_,rfl⟩
 have hA2':w2.heap[w.heap.size]? =some (.cells (stV nv s2).toArray 80 (0,0)):=by rw[←hs2e];exact hA2
 have mn:s2.name=s.name:=by rw[←hs2e]
 rw[hs2e]
 have hE2:Ext w w2:=Keep.to_ext hE1 rfl (fun b hb=>by omega) hk2
 have hB2:=(hk2.block _ (by omega) (by omega)).trans hB
 have hC2:=(hk2.block _ (by omega) (by omega)).trans hC
 repeat refine c_r ?_
 refine rg0 ?_
 refine zaw ?_
 intro w3 hE3 hs3 hD
 obtain⟨b7,hb7⟩:∃b,w2.heap.size=b:=⟨_,rfl⟩
 rw[hb7]at hD hs3 ⊢
 have hE03:=hE2.trans hE3
 have dN:zao w3 (some ⟨w.heap.size+1,0,Option.none⟩) 4=some [hv,rv,vi N.rw,vi N.rf]:=zaf (Ext.at hE3 hB2) rfl
 have dR:zao w3 (some ⟨w.heap.size+1+1,0,Option.none⟩) 5=some [vi r.kind,dv,mv,.bool r.wild,gv]:=zaf (Ext.at hE3 hC2) rfl
 repeat refine c_r ?_
 refine rc (an2 dN dR) (meant_ok w3) ?_
 rintro _ w4 ⟨rfl,hE4,hs4,hbn,hbr⟩
 refine re trivial ?_
 have hE04:=hE03.trans hE4
 have hA4:=Ext.at (hE3.trans hE4) hA2'
 have hD4:=Ext.at hE4 hD
 repeat refine c_r ?_
 refine zfh (g:=203) (cap:=#[.pointer (some ⟨w3.heap.size+1,0,Option.none⟩),.pointer (some ⟨w3.heap.size,0,Option.none⟩)]) (vq0) rfl (meantIt (C:=fun b=>b=b7) hE0 hE04 hbr hbn (fun b hb=>by omega) (by omega) (by omega) hN0 hG hres0 kr hgood) (Keep.refl _ _) (Nat.le_refl _) (fun b hb=>by omega) (fun x U A args h=>by obtain⟨_,_,e,_⟩:=h;rw[e];rfl)
  (fun pre U A=>Ext w A/\∃ov,A.heap[b7]? =some (.cells #[ov] 92 (0,0))/\Owns 6 (StN nv) (w4.heap.size+2) A 80 ov (pre.flatMap (zdO N r s2))/\(∀b,some b=ov.ownBlock->U b)/\A.heap[w.heap.size]? =some (.cells (stV nv s2).toArray 80 (0,0)))
  (fun _ _ _=>False) ?_ (fun _ _ _ _ h _=>h.elim) ?_ ?_ ?_ (fun _ _ _ _ _ _ h _=>h.elim)
 ·rintro pre U A B ⟨h1,ov,h2,h3,h4,h5⟩ hU hk
  have f:∀{b:Nat} {O:Obj},A.heap[b]? =some O->b<w4.heap.size->B.heap[b]? =some O:=fun h hb=>(hk.block _ (Array.getElem?_eq_some_iff.1 h).1 (by unfold span;omega)).trans h
  exact⟨Keep.to_ext h1 rfl (fun b hb=>by unfold span at hb;omega) hk,ov,f h2 (by omega),h3.keep hk (fun b hb hb2=>by have:=hU b (h4 b hb);unfold span at hb2;omega),h4,f h5 (by omega)⟩
 ·exact⟨hE04,.slice Option.none 0 0,hD4,Owns.nil _ _ _ _ _,fun b hb=>by simp[Value.ownBlock]at hb,hA4⟩
 ·rintro lp pre U y A args ⟨suf,hxs⟩ hszA ⟨hEA,ov,k7,hown,hU,k3⟩ hUb ⟨iv,B,rfl,hmv,hmb,hmB,hmn⟩
  refine rg0 ?_
  refine zau ?_
  refine⟨rfl,Keep.refl _ _,fun Y hY=>?_⟩
  have hsY:=hY.size
  have f:∀{b:Nat} {O:Obj},A.heap[b]? =some O->¬two w4.heap.size b->Y.heap[b]? =some O:=fun h hb=>(hY.block _ (Array.getElem?_eq_some_iff.1 h).1 hb).trans h
  have hEY:Ext w Y:=Keep.to_ext hEA rfl (fun b hb=>by unfold two at hb;omega) hY
  have hRI:SRf w Y b7 w.heap.size (w4.heap.size+2) nv iv U U s2 (ofR N r y) ov (pre.flatMap (zdO N r s2)) Y:=⟨f k7 (by unfold two;omega),hown.keep hY (fun b hb hb2=>by have:=(hown.ge hb).1;unfold two at hb2;omega),hU,fun b hb=> .inl hb,KeepB.refl _ _ _,hEY,f k3 (by unfold two;omega),hmv.keepB hY hmb (fun b h1 _ h2=>by unfold two at h2;omega),⟨B,hmb.ext hsY,hmB,hmn⟩,by omega,by omega,by omega,by omega,by omega,by omega,fun b hb=>by have:=hUb b hb;omega⟩
  clear hmv hmb hmB hmn hown hU k7 k3
  obtain⟨L,hL⟩:∃L,ofR N r y=L:=⟨_,rfl⟩
  have hLl:L.length<=1000:=by
   have:=zlj (N:=N) (r:=r) (h:=y)
   have:=hG.hl
   rw[←hL];omega
  have hho:zdO N r s2 y=(if (L.length:Int)=0 then endS s2 9 else [])++L.map fun k=>{s2 with sv:=k,ref:=true}:=by unfold zdO;rw[hL]
  have hpl:pre.length<=1000:=by
   have h1:=congrArg List.length hxs
   have h2:(zax 2 r.data).length<=r.data.length:=by
    unfold zax
    split
    ·exact List.length_filterMap_le _ _
    ·simp
   simp at h1;omega
  have hGl:(pre.flatMap (zdO N r s2)).length<=2000000:=by
   have h1:=zgX (fun a=>zhJ (N:=N) (r:=r) (s:=s2) (h:=a)) pre
   have h2:=hG.hl
   have h3:pre.length*(N.hosts.length+1)<=1000*1001:=Nat.mul_le_mul hpl (by omega)
   omega
  rw[hL]at hRI
  obtain⟨ai,ci,rfl,hci,_⟩:=id hRI.riv
  simp only[List.length_map]at hRI hci ⊢
  obtain⟨G,hGe⟩:∃G,pre.flatMap (zdO N r s2)=G:=⟨_,rfl⟩
  rw[hGe]at hRI hGl
  have hb7n:b7<w4.heap.size+2:=by omega
  have hb3n:w.heap.size<w4.heap.size+2:=by omega
  repeat refine c_r ?_
  refine rg0 ?_
  repeat refine c_r ?_
  refine zay (Q:=fun e σ' ds' v'=>e= .normal/\ds'=[]/\σ' 8= .slice ai L.length ci/\σ' 3= .pointer (some ⟨w.heap.size,0,Option.none⟩)/\σ' 7= .pointer (some ⟨b7,0,Option.none⟩)/\∃ov' U',SRf w Y b7 w.heap.size (w4.heap.size+2) nv (.slice ai L.length ci) U U' s2 L ov' (G++if (L.length:Int)=0 then endS s2 9 else []) v') ?_ ?_
  ·by_cases h0:(L.length:Int)=0
   ·rw[if_pos h0]
    refine wt (decide_eq_true h0) ?_
    repeat refine c_r ?_
    refine zaJ (fun i=>i==4) [(0,true),(1,true),(2,false),(3,false),(4,false)] (zbA (w4.heap.size+2)) mixed (by kernel_rfl) ?_;intro gd K x hgd hx hxe hK;have hx0:=zej hxe;clear hxe
    have q7:zad x (some ⟨b7,0,Option.none⟩)=some ov:=zab (Ext.at hx0 hRI.h7) rfl
    have q3:zao x (some ⟨w.heap.size,0,Option.none⟩) 6=some (stV nv s2):=zaf (Ext.at hx0 hRI.h3) rfl
    simp (disch:=first|omega|assumption|rfl) only[go_sem,q7,q3]
    refine⟨zcy hb7n,zcy hb3n,?_⟩
    refine Fn.mono (zcX x (hr.ext (hRI.e.trans hx0)) s2 9) ?_
    rintro ev y1 ⟨hy1,hev,_⟩
    refine⟨.inr hy1.keep,?_⟩
    have sx:=hx0.size
    have sy:=hy1.size
    have sY:=hRI.lo.2.2.2.2.2.1
    simp (disch:=first|omega|assumption|rfl) only[go_sem]
    refine zaG (zba nv) (hRI.own.ext (hx0.trans hy1)) hev (by rfl) (by rfl) (by rfl) (by rfl) (by rfl) (by rfl) (by decide) (vr0) (vr0) (by unfold endS;simp;omega) (by decide) (by omega) ?_
    intro ov' y2 ho2 hE2 hk2 hb2
    refine⟨.inr (hk2.mono fun b _ hb=>(hRI.own.ge hb).1),?_⟩
    obtain⟨ao,co,hov,_⟩:=ho2.rows.open
    simp (disch:=first|omega|assumption|rfl) only[go_sem]
    refine zaT (P:=Tryz.prog) (t:=92) (j:=0) (u:=ov') (l:=[ov]) ((hk2.block _ (by omega) (fun hb=>by have:=(hRI.own.ge hb).1;omega)).trans (Ext.at (hx0.trans hy1) hRI.h7)) (by simp) (by rw[hov];rfl) rfl rfl ?_
    intro y3 hs3 h73 hk3
    refine⟨.inl rfl,?_⟩
    simp (disch:=first|omega|assumption|rfl) only[go_sem]
    refine hK _ _ ?_;clear hK hgd;clear K;try clear gd
    exact⟨rfl,rfl,vq0,vq0,vq0,ov',_,hRI.app (hx0.trans hy1) ho2 hk2 hb2 h73 hk3⟩
   ·rw[if_neg h0,List.append_nil]
    refine wf (decide_eq_false h0) ?_
    repeat refine c_r ?_
    exact⟨rfl,rfl,vq0,vq0,vq0,ov,U,hRI⟩
  rintro _ σ1 _ Y1 ⟨rfl,rfl,s8,s3,s7,ov1,U1,hR1⟩
  obtain⟨G1,hG1⟩:∃G1,(G++if (L.length:Int)=0 then endS s2 9 else [])=G1:=⟨_,rfl⟩
  have hG1l:G1.length<=2000001:=by
   rw[←hG1];unfold endS
   split<;>simp<;>omega
  rw[hG1]at hR1
  repeat refine c_r ?_
  refine rg1 s8 ?_
  repeat refine c_r ?_
  refine zap (fun m σ ds v=>ds=[]/\∃(i:Nat) (ov:Value) (U':Nat->Prop),i+m=L.length/\σ 36=vi i/\σ 35=vi L.length/\σ 34= .slice ai L.length ci/\σ 3= .pointer (some ⟨w.heap.size,0,Option.none⟩)/\σ 7= .pointer (some ⟨b7,0,Option.none⟩)/\
   SRf w Y b7 w.heap.size (w4.heap.size+2) nv (.slice ai L.length ci) U U' s2 L ov (G1++(L.take i).map fun k=>{s2 with sv:=k,ref:=true}) v) L.length ?_ ?_
  ·exact⟨rfl,0,ov1,U1,by omega,vr0,vq0,vq0,(vq1 s3),(vq1 s7),by simpa using hR1⟩
  clear s8 s3 s7
  rintro m σ ds v ⟨rfl,i,ov,U',him,s36,s35,s34,s3,s7,hR⟩
  repeat refine c_r ?_
  refine rg2 s36 s35 ?_
  repeat refine c_r ?_
  refine wc0 ?_ ?_
  ·intro hlt
   simp only[decide_eq_true_eq]at hlt
   have hi:i<L.length:=by omega
   have hi0:(0:Int)<=(i:Int):=by omega
   have hi1':(i:Int)+1=((i+1:Nat):Int):=by push_cast;rfl
   have hcell:zad v (adr ai i)=some (vi L[i]):=by
    obtain⟨a',c',e,_,hg⟩:=hR.riv
    injection e with e1 _ _
    subst e1
    have:=hg i (by simpa using hi)
    simpa using this
   obtain⟨xz,rfl⟩:=Option.isSome_iff_exists.1 (zag hcell)
   have sY:=hR.lo.2.2.2.2.2.1
   have sv0:=hR.kb.size
   have d3:zao v (some ⟨w.heap.size,0,Option.none⟩) 6=some (stV nv s2):=zaf hR.h3 rfl
   repeat refine c_r ?_
   refine rq ?_;intro gd K hgd hK;simp (disch:=first|omega|assumption|rfl) only[go_sem,s36,s34,hi0,hlt,hcell,Nat.mul_one];refine hK _ _ ?_;clear hK hgd;clear K gd
   repeat refine c_r ?_
   refine rq ?_;intro gd K hgd hK
   try simp (disch:=first|omega|assumption|rfl) only[go_sem,s3,d3]
   refine zaV (P:=Tryz.prog) (l:=stV nv s2) rfl (zbi n1) rfl rfl ?_
   intro v1 hE1 hs1 hB1
   try simp only[go_sem]
   refine hK _ _ ?_;clear hK hgd;clear K;try clear gd
   obtain⟨bx,hbx⟩:∃b,v.heap.size=b:=⟨_,rfl⟩
   rw[hbx]at hB1 hs1 ⊢
   repeat refine c_r ?_
   refine rq ?_;intro gd K hgd hK
   try simp only[go_sem]
   refine zaT (P:=Tryz.prog) (t:=3) (j:=0) (u:=vi L[i]) (l:=stV nv s2) hB1 (by show 0<6;decide) rfl rfl rfl ?_
   intro v2 hs2' hB2' hk2'
   try simp only[go_sem]
   refine zaT (P:=Tryz.prog) (t:=4) (j:=4) (u:= .bool true) hB2' (by show 4<6;decide) rfl rfl rfl ?_
   intro v3 hs3' hB3' hk3'
   try simp only[go_sem]
   refine hK _ _ ?_;clear hK hgd;clear K;try clear gd
   obtain⟨sk,hsk⟩:∃sk:zar,{s2 with sv:=L[i],ref:=true}=sk:=⟨_,rfl⟩
   have hB3:v3.heap[bx]? =some (.cells (stV nv sk).toArray 80 (0,0)):=by rw[←hsk];exact hB3'
   have hEv:Ext v v3:=Keep.to_ext (Keep.to_ext hE1 rfl (fun b hb=>by omega) hk2') rfl (fun b hb=>by omega) hk3'
   have q7:zad v3 (some ⟨b7,0,Option.none⟩)=some ov:=zab (Ext.at hEv hR.h7) rfl
   have dx:zao v3 (some ⟨bx,0,Option.none⟩) 6=some (stV nv sk):=zaf hB3 rfl
   repeat refine c_r ?_
   refine rq ?_;intro gd K hgd hK
   try simp (disch:=first|omega|assumption|rfl) only[go_sem,s7,q7,dx]
   refine zaN (C:=StN nv) (zba nv) (l:=stV nv sk) (a:=sk) (by rfl) (by rfl) (by rfl) (by rfl) ⟨rfl,n1⟩ (by decide) ?_
   intro v4 hE4' hs4' ho4
   try simp only[go_sem]
   refine zaG (zba nv) (hR.own.ext (hEv.trans hE4')) ho4.rows (by rfl) (by rfl) (by rfl) (by rfl) (by rfl) (by rfl) (by decide) (vr0) (vr0) (by simp;omega) (by decide) (by omega) ?_
   intro ov' v5 ho5 hE5 hk5 hb5
   obtain⟨ao,co,hov,_⟩:=ho5.rows.open
   try simp (disch:=first|omega|assumption|rfl) only[go_sem,s7]
   refine zaT (P:=Tryz.prog) (t:=92) (j:=0) (u:=ov') (l:=[ov]) ((hk5.block _ (by omega) (fun hb=>by have:=(hR.own.ge hb).1;omega)).trans (Ext.at (hEv.trans hE4') hR.h7)) (by simp) (by rw[hov];rfl) rfl rfl ?_
   intro v6 hs6 h76 hk6
   try simp only[go_sem]
   refine hK _ _ ?_;clear hK hgd;clear K;try clear gd
   have hRn:=hR.app (hEv.trans hE4') ho5 hk5 hb5 h76 hk6
   obtain⟨U2,hU2⟩:∃U2,(fun b=>U' b\/(v4.heap.size<=b/\b<v6.heap.size))=U2:=⟨_,rfl⟩
   rw[hU2]at hRn
   repeat refine c_r ?_
   refine rg2 s36 hi1' ?_
   repeat refine c_r ?_
   refine⟨m - 1,by omega,rfl,i+1,ov',U2,by omega,vq0,(vq1 s35),(vq1 s34),(vq1 s3),(vq1 s7),?_⟩
   rw[zam hi,List.map_append,←List.append_assoc,List.map_cons,List.map_nil,hsk]
   exact hRn
  ·intro hge
   simp only[decide_eq_false_iff_not]at hge
   have hfin:G1++(L.take i).map (fun k=>({s2 with sv:=k,ref:=true}:zar))=(pre++ [y]).flatMap (zdO N r s2):=by
    rw[List.take_of_length_le (by omega),List.flatMap_append,hGe,List.flatMap_cons,List.flatMap_nil,List.append_nil,hho,←hG1,List.append_assoc]
   rw[hfin]at hR
   repeat refine c_r ?_
   exact⟨U',⟨hR.e,ov,hR.h7,hR.own,hR.u1,hR.h3⟩,hR.u2,hR.kb.keep⟩
 ·rintro xs U A rfl hszA hUb ⟨hEA,ov,k7,hown,hU,k3⟩ hD
  obtain⟨ao,co,rfl,hco,_⟩:=hown.rows.open
  have q7:zad A (some ⟨b7,0,Option.none⟩)=some (.slice ao _ co):=zab k7 rfl
  repeat refine c_r ?_
  refine rc q7 (P_st.Clip_ok hco) ?_
  rintro _ A1 ⟨rfl,rfl⟩
  refine re trivial ?_
  repeat refine c_r ?_
  refine zd5 (.inr rfl) (by rfl) Tryz.ntmps96 (vr0) hD ?_
  intro Z hkZ hsZ
  have hrows:=hown.rows.take (m:=_) (c2:=_) (Nat.le_refl _) (Nat.le_refl _)
  rw[List.take_length]at hrows
  have hEZ:Ext w Z:=Keep.to_ext hEA rfl (fun b hb=>by omega) hkZ
  refine⟨hEZ,(hown.blk.same.ext hkZ.size).mono (by omega),nv,rfl,hrows.keep hkZ hown.blk.same (fun b h1 _ h2=>by omega),fun x hx=>?_⟩
  obtain⟨h,_,hx⟩:=List.mem_flatMap.1 hx
  rw[zlq hx,mn]
  exact hr.ext hEZ
theorem zlT(c:UInt8):zf1 (zf1 c)=zf1 c:=by
 by_cases h:65<=c/\c<=90
 ·rw[zgW h];refine zfc (fun h2=>?_);have a:=UInt8.le_iff_toNat_le.1 h.1;have b:=UInt8.le_iff_toNat_le.1 h.2;have d:=UInt8.le_iff_toNat_le.1 h2.2;simp at a b d;have:(c+32).toNat=c.toNat+32:=by rw[UInt8.toNat_add];simp;omega
  omega
 ·rw[zfc h,zfc h]
theorem zlS(l:List UInt8):zbe (zbe l)=zbe l:=by
 unfold zbe;rw[List.map_map];exact List.map_congr_left fun c _=>zlT c
theorem zlR(n:Nm):zan (zan n)=zan n:=by
 unfold zan;rw[List.map_map];exact List.map_congr_left fun c _=>zlS c
section
variable {R : List RecL} {o q n : Nm} {t : Int}
theorem isL_fold(n:Nm)(t:Int):isL (zan n) t=isL n t:=by
 funext r
 unfold isL;rw[zlR]
theorem ofC_fold:ofC R (zan n) t=ofC R n t:=by unfold ofC;rw[isL_fold]
theorem zek:datC R (zan n) t=datC R n t:=by unfold datC;rw[ofC_fold]
theorem zkg(n:Nm):∀k,zbl (zan n) k=(zbl n k).map zan
 |0=>by simp only[zbl,List.map_cons,List.map_nil];rw[zdw]
 |k+1=>by simp only[zbl,List.map_cons];rw[zkg n k,zdw]
end
/-! types -/
section
variable {R : List RecL} {o q n : Nm} {t u : Int}
theorem zeM{r:ResL}(h:zaE R q n=some r):(r.kind=5\/r.kind=6)/\(r.kind=5->∀d∈r.data,d.ty=39):=by
 unfold zaE at h
 split at h
 ·cases h
 ·split at h
  ·cases h;exact⟨.inl rfl,fun _ d hd=>zeH (List.mem_of_mem_take hd)⟩
  ·cases h;exact⟨.inr rfl,fun h=>by cases h⟩
theorem at_kind{b:Bool}:((atL R n t b).kind=1\/(atL R n t b).kind=2\/(atL R n t b).kind=5)/\((atL R n t b).kind=1->∀d∈(atL R n t b).data,d.ty=t)/\((atL R n t b).kind=5->∀d∈(atL R n t b).data,d.ty=5):=by
 unfold atL
 split
 ·exact⟨.inl rfl,(fun _ d hd=>zeH hd),fun h=>by cases h⟩
 ·split
  ·exact⟨.inr (.inr rfl),(fun h=>by cases h),fun _ d hd=>zeH (List.mem_of_mem_take hd)⟩
  ·exact⟨.inr (.inl rfl),(fun h=>by cases h),fun h=>by cases h⟩
end
/-! cuts -/
section
variable {R : List RecL} {o q : Nm} {t u : Int}
theorem zfH{n:Nm}{i:Nat}:∀{K:Nat},i<=K->∃suf,zbl n K=zbl (n.drop i) (K - i)++suf
 |0,h=>by
  have:i=0:=by omega
  subst this;exact⟨[],by simp[zbl]⟩
 |K+1,h=>by
  by_cases hi:i=K+1
  ·subst hi;refine⟨zbl n K,?_⟩;rw[show K+1 - (K+1)=0 from by omega];simp[zbl]
  ·obtain⟨suf,hs⟩:=zfH (n:=n) (i:=i) (K:=K) (by omega);refine⟨suf,?_⟩;rw[show K+1 - i=(K - i)+1 from by omega];simp only[zbl,List.cons_append];rw[hs,List.drop_drop,show i+(K - i+1)=K+1 from by omega]
theorem zgn{n:Nm}:∀{K:Nat},∃pre,zbl n K=pre++ [n]/\∀x∈pre,∃i,0<i/\i<=K/\x=n.drop i
 |0=>⟨[],by simp[zbl],fun x h=>by cases h⟩
 |K+1=>by
  obtain⟨pre,h1,h2⟩:=zgn (n:=n) (K:=K);refine⟨n.drop (K+1)::pre,by simp only[zbl,h1,List.cons_append],fun x hx=>?_⟩;rcases List.mem_cons.1 hx with rfl|hx
  ·exact⟨K+1,by omega,ynl _,rfl⟩
  ·obtain⟨i,a,b,c⟩:=h2 x hx;exact⟨i,a,by omega,c⟩
theorem zgV{x:Nm}:∀{pre:List Nm} {suf:List Nm},(∀n∈pre,cutP o R n=false/\n.length≠x.length)->(∀n∈pre,n.length≠q.length)->
  ((∀n∈pre,datC R n 39=[])/\goL o R q (pre++suf)=goL o R q suf)\/((∃n∈pre,datC R n 39≠ [])/\∃r,goL o R q (pre++suf)=some r/\(r.kind=5\/r.kind=6))
 | [],suf,_,_=> .inl ⟨fun n h=>(by cases h),rfl⟩
 |n::pre,suf,h1,h2=>by
  obtain⟨a,b⟩:=h1 n (List.mem_cons_self ..);have c:=h2 n (List.mem_cons_self ..);simp only[List.cons_append,goL];rw[a,if_neg Bool.false_ne_true,if_neg c];by_cases hd:datC R n 39=[]
  ·have:zaE R q n= .none:=by unfold zaE;rw[if_pos hd]
   rw[this];rcases zgV (suf:=suf) (fun m hm=>h1 m (List.mem_cons_of_mem _ hm)) (fun m hm=>h2 m (List.mem_cons_of_mem _ hm)) with ⟨g1,g2⟩| ⟨⟨m,hm,hm2⟩,g2⟩
   ·refine .inl ⟨fun m hm=>?_,g2⟩;rcases List.mem_cons.1 hm with rfl|hm
    ·exact hd
    ·exact g1 m hm
   ·exact .inr ⟨⟨m,List.mem_cons_of_mem _ hm,hm2⟩,g2⟩
  ·right
   refine⟨⟨n,List.mem_cons_self ..,hd⟩,?_⟩;cases hr:zaE R q n with
   |none=>
    unfold zaE at hr;rw[if_neg hd]at hr
    split at hr<;>cases hr
   |some r=>exact⟨r,rfl,(zeM hr).1⟩
theorem zgk{α:Type}{p:α->Bool}{x:α}:∀{l:List α},l.find? p=some x->∃pre suf,l=pre++x::suf/\p x=true/\∀y∈pre,p y=false
 | [],h=>by cases h
 |a::l,h=>by
  rw[List.find?_cons]at h
  split at h
  ·rename_i ha;cases h;exact⟨[],l,rfl,ha,fun y h=>by cases h⟩
  ·rename_i ha;obtain⟨pre,suf,h1,h2,h3⟩:=zgk h;refine⟨a::pre,suf,by rw[h1];rfl,h2,fun y hy=>?_⟩;rcases List.mem_cons.1 hy with rfl|hy
   ·simpa using ha
   ·exact h3 y hy
theorem zj4(hu:zaU q o=true)(hc:cutL o R q= .none):(za2 o R q t).kind≠4/\(za2 o R q t).kind≠7:=by
 unfold cutL at hc;rw[if_pos hu]at hc;have hno:∀x∈za8 o q,cutP o R x=false:=fun x hx=>by simpa using (List.find?_eq_none.1 hc) x hx
 have h4:∀{l:List Nm} {r:ResL},(∀x∈l,cutP o R x=false)->goL o R q l=some r->r.kind=5\/r.kind=6:=by
  intro l
  induction l with
  |nil=>intro r _ h;cases h
  |cons n l ih=>
   intro r hl h;simp only[goL]at h;rw[hl n (List.mem_cons_self ..),if_neg Bool.false_ne_true]at h
   split at h
   ·cases h
   ·split at h
    ·rename_i r' hr;cases h;exact(zeM hr).1
    ·exact ih (fun x hx=>hl x (List.mem_cons_of_mem _ hx)) h
 unfold za2;rw[if_neg (by rw[hu];simp)];cases hg:goL o R q (za8 o q) with
 |some r=>
  have:=h4 hno hg;show r.kind≠4/\r.kind≠7;omega
 |none=>
  have key:∀{n:Nm} {b:Bool},(atL R n t b).kind≠4/\(atL R n t b).kind≠7:=fun {n b}=>by
   have:=(at_kind (R:=R) (n:=n) (t:=t) (b:=b)).1;omega
  by_cases he:zaK o R q=true
  ·simp only[if_pos he];exact key
  ·simp only[if_neg he];cases zaW o R q with
   |none=>exact⟨(by decide:(3:Int)≠4),(by decide:(3:Int)≠7)⟩
   |some s=>exact key
theorem look_cut(hs:zdW R){c:Nm}(hu:zaU q o=true)(hc:cutL o R q=some c):
    (∃k,k<=q.length/\c=q.drop k)/\
    ((∀t,za2 o R c t=zeO R c)/\(∀t,za2 o R q t=zeO R c)/\datC R c 2≠ []\/
     (∀t,(za2 o R c t).kind=5\/(za2 o R c t).kind=6)/\∀t,(za2 o R q t).kind=5\/(za2 o R q t).kind=6):=by
  unfold cutL at hc;rw[if_pos hu]at hc;have hol:=zb1 hu;have hdn:za8 o q=zbl q (q.length - o.length):=if_pos hol;rw[hdn]at hc;obtain⟨pre,suf,hsp,hcp,hpre⟩:=zgk hc;obtain⟨k,hk,hck⟩:=zbL.1 (show c∈zbl q (q.length - o.length) from by rw[hsp];simp);have hkl:k<=q.length:=by omega
  refine⟨⟨k,hkl,hck⟩,?_⟩;have hcl:c.length=q.length - k:=by rw[hck,List.length_drop]
  have hol2:o.length<c.length:=by
    unfold cutP at hcp;simp only[Bool.and_eq_true,ydT]at hcp;exact hcp.1
  have huc:zaU c o=true:=by rw[hck,zdp hkl,hu,Bool.and_true];exact yet hk
  -- what is ahead of the cut is the same from the cut and from the name
  obtain⟨suf2,hsf⟩:=zfH (n:=q) hk;obtain⟨pre2,hp2,hp3⟩:=zgn (n:=q.drop k) (K:=q.length - o.length - k);have hdc:za8 o c=pre2++ [c]:=by
    unfold za8;rw[if_pos (by omega),hck,List.length_drop,show q.length - k - o.length=q.length - o.length - k from by omega];exact hp2
  have hlen:∀x∈pre2,x.length<c.length:=fun x hx=>by
    obtain⟨i,a,b,rfl⟩:=hp3 x hx;rw[List.length_drop,List.length_drop];omega
  have hall:zbl q (q.length - o.length)=pre2++c::suf2:=by
    rw[hsf,hp2,yla,hck];rfl
  have hpp:pre=pre2:=by
    have h1:pre++c::suf=pre2++c::suf2:=by rw[←hsp,hall]
    -- the first that is a cut
    have hx:∀x∈pre2,cutP o R x=false:=by
      intro x hx
      -- lengths rise along the row
      have hrise:∀(K:Nat),(zbl q K).Pairwise (fun a b=>a.length<=b.length):=fun K=>by
        induction K with
        |zero=>simp[zbl]
        |succ K ih=>
          simp only[zbl];refine List.pairwise_cons.2 ⟨fun y hy=>?_,ih⟩;obtain⟨i,hi,rfl⟩:=zbL.1 hy;rw[List.length_drop,List.length_drop];omega
      have hr:=hrise (q.length - o.length);have hx1:x∈pre++c::suf:=by rw[h1];exact List.mem_append_left _ hx
      rw[hsp]at hr;rcases List.mem_append.1 hx1 with h|h
      · exact hpre x h
      · exfalso
        have hlx:=hlen x hx;rcases List.mem_cons.1 h with rfl|h
        · omega
        · have:=(List.pairwise_append.1 hr).2.1
          have:=(List.pairwise_cons.1 this).1 x h;omega
    have key:∀{a b s1 s2:List Nm},a++c::s1=b++c::s2->(∀x∈a,cutP o R x=false)->(∀x∈b,cutP o R x=false)->a=b:=by
      intro a
      induction a with
      |nil=>
        intro b s1 s2 h _ hb;cases b with
        |nil=>rfl
        |cons y b=>
          simp only[List.nil_append,List.cons_append,List.cons.injEq]at h;have:=hb y (List.mem_cons_self ..);rw[←h.1,hcp]at this;cases this
      |cons x a ih=>
        intro b s1 s2 h ha hb;cases b with
        |nil=>
          simp only[List.nil_append,List.cons_append,List.cons.injEq]at h;have:=ha x (List.mem_cons_self ..);rw[h.1,hcp]at this;cases this
        |cons y b=>
          simp only[List.cons_append,List.cons.injEq]at h;rw[h.1,ih h.2 (fun z hz=>ha z (List.mem_cons_of_mem _ hz)) (fun z hz=>hb z (List.mem_cons_of_mem _ hz))]
    exact key h1 hpre hx
  subst hpp;have g1:=zgV (q:=c) (x:=c) (suf:=[c]) (fun n hn=>⟨hpre n hn,by have:=hlen n hn;omega⟩) (fun n hn=>by have:=hlen n hn;omega);have g2:=zgV (q:=q) (x:=c) (suf:=c::suf2) (fun n hn=>⟨hpre n hn,by have:=hlen n hn;omega⟩) (fun n hn=>by have:=hlen n hn;omega);have hdq:za8 o q=pre++c::suf2:=by rw[hdn,hall]
  have lk:∀{y:Nm} {r:ResL} (t:Int),zaU y o=true->goL o R y (za8 o y)=some r->za2 o R y t=r:=fun {y r} t hy hr=>by
    unfold za2;rw[if_neg (by rw[hy];simp),hr]
  have hcc:∀y l,goL o R y (c::l)=some (zeO R c):=fun y l=>by
    simp only[goL];rw[if_pos hcp]
  rcases g1 with ⟨a1,a2⟩| ⟨⟨m,hm,hm2⟩,r,hr,hk1⟩
  · rcases g2 with ⟨_,b2⟩| ⟨⟨m,hm,hm2⟩,_⟩
    · left
      refine⟨fun t=>lk t huc (by rw[hdc,a2,hcc]),fun t=>lk t hu (by rw[hdq,b2,hcc]),?_⟩;unfold cutP hasL at hcp;simp only[Bool.and_eq_true]at hcp;obtain⟨r,hr,hr2⟩:=List.any_eq_true.1 hcp.2;have:r∈ofC R c 2:=by rw[zeC hs];exact List.mem_filter.2 ⟨hr,hr2⟩
      intro e;unfold datC at e;rw[List.map_eq_nil_iff]at e;rw[e]at this;cases this
    · exact absurd (a1 m hm) hm2
  · right
    rcases g2 with ⟨b1,_⟩| ⟨_,r2,hr2,hk2⟩
    · exact absurd (b1 m hm) hm2
    · refine⟨fun t=>?_,fun t=>?_⟩
      · rw[lk t huc (by rw[hdc];exact hr)];exact hk1
      · rw[lk t hu (by rw[hdq];exact hr2)];exact hk2
end
section
variable {R : List RecL} {o q n : Nm} {t u : Int}
theorem zc7{ds:List DatL}{x:Nm}(h:x∈zax u ds):∃d∈ds,x∈d.names:=by
 unfold zax at h
 split at h
 ·obtain⟨d,hd,h2⟩:=List.mem_filterMap.1 h;exact⟨d,hd,List.mem_of_head? h2⟩
 ·cases h
theorem zkj:zaD []=0:=by decide
theorem zkE(hck:∀r∈R,∀n∈r.dat.names,zaD n=0):zaD (toN u ((datC R n t).take 1))=0:=by
 unfold toN;cases hq:(zbk u ((datC R n t).take 1)).getLast? with
 |none=>exact zkj
 |some x=>
  have h1:=List.mem_of_getLast? hq;obtain⟨d,hd,h2⟩:=zc7 (zcf _ _ x h1);obtain⟨r,hr,rfl⟩:=zdy (List.mem_of_mem_take hd);exact hck r hr x h2
theorem zgB{r:ResL}(h:zaE R q n=some r)(h5:r.kind=5):zaD r.name=0:=by
 unfold zaE at h
 split at h
 ·cases h
 ·split at h
  ·rename_i hc;cases h;exact hc
  ·cases h;cases h5
theorem zju:∀{l:List Nm} {r:ResL},goL o R q l=some r->r.kind=5->zaD r.name=0
 | [],_,h,_=>by cases h
 |n::l,r,h,h5=>by
  simp only[goL]at h
  split at h
  ·cases h;cases h5
  ·split at h
   ·cases h
   ·split at h
    ·rename_i r' hr;cases h;exact zgB hr h5
    ·exact zju h h5
theorem zjH(hck:∀r∈R,∀n∈r.dat.names,zaD n=0){b:Bool}(h5:(atL R n t b).kind=5):zaD (atL R n t b).name=0:=by
 unfold atL at h5 ⊢
 split at h5
 ·cases h5
 ·rename_i h1;rw[if_neg h1]
  split at h5
  ·rename_i h2;rw[if_pos h2];exact zkE hck
  ·cases h5
theorem zj5(hck:∀r∈R,∀n∈r.dat.names,zaD n=0)(h5:(za2 o R q t).kind=5):zaD (za2 o R q t).name=0:=by
 unfold za2 at h5 ⊢
 split at h5
 ·cases h5
 rename_i h1;rw[if_neg h1]
 split at h5
 ·rename_i r hr;exact zju hr h5
 ·rename_i hr
  split at h5
  ·rename_i h2;rw[if_pos h2];exact zjH hck h5
  ·rename_i h2;rw[if_neg h2]
   split at h5
   ·rename_i s hs;exact zjH hck h5
   ·cases h5
end
structure AskF(r:ResL):Prop where
 ok:zkt r
 dl:r.data.length<=1000
 nm:r.kind=5->zaD r.name=0
 tg:∀n∈zax 2 r.data,NmM n
 tc:∀d∈r.data,∀n∈d.names,zaD n=0
 ld:r.kind=4->zax 2 r.data≠ []
theorem zmd{N:NetL}(hG:NetZ N){s:Int}{q:Nm}{t:Int}(mq:NmM q):AskF (askN N s q t):=by
 have hno:AskF ⟨7,[],[],false,[]⟩:=⟨⟨zj3,fun d h=>(by cases h),Nat.zero_le _,Nat.zero_le _,fun x h=>(by cases h)⟩,Nat.zero_le _,fun h=>(by cases h),fun n hn=>(by
  obtain⟨d,hd,_⟩:=zc7 hn;cases hd),fun d h=>(by cases h),fun h=>(by cases h)⟩
 unfold askN
 split
 ·cases hz:(N.zones s)[(zbR N s q).1.toNat]? with
  |none=>exact hno
  |some z=>
   have gz:=(zbS hG).1 z (List.mem_of_getElem? hz);have gc:=gz.c;have hf:=look_F (o:=z.o) (P:=fun d=>∀n∈d.names,zaD n=0) gz.gd.names gc.gd (t:=t) mq;have hk:=look_ok (o:=z.o) gc (t:=t) mq;refine⟨hk,?_,zj5 gz.gd.names,fun n hn=>?_,hf.dat,?_⟩
   ·have:=hf.dl;have:=gc.len;show(za2 z.o z.recs q t).data.length<=1000;omega
   ·obtain⟨d,hd,h2⟩:=zc7 hn;exact(zem (hf.dat d hd n h2)).m
   ·intro h4
    dsimp only at h4 ⊢
    have hu:zaU q z.o=true:=by
     cases hu:zaU q z.o with
     |true=>rfl
     |false=>
      unfold za2 at h4;rw[if_pos hu]at h4;cases h4
    cases hcut:cutL z.o z.recs q with
    |none=>exact absurd h4 (zj4 (t:=t) hu hcut).1
    |some c=>
     obtain⟨_,hcase⟩:=look_cut gc.srt hu hcut;rcases hcase with ⟨_,c2,hne⟩| ⟨_,c2⟩
     ·rw[c2 t];show zax 2 (datC z.recs c 2)≠ [];obtain⟨d,hd⟩:=List.exists_mem_of_ne_nil _ hne;obtain⟨r,hr,rfl⟩:=zdy hd;have hl:=gz.gd.lead r hr (by rw[zeH hd];exact .inl rfl);obtain⟨x,hx⟩:∃x,r.dat.names.head? =some x:=by
       cases hn:r.dat.names with
       |nil=>rw[hn]at hl;cases hl
       |cons x l=>exact⟨x,rfl⟩
      intro he;have:x∈zax 2 (datC z.recs c 2):=by
       unfold zax;rw[if_pos (by decide)];exact List.mem_filterMap.2 ⟨_,hd,hx⟩
      rw[he]at this;cases this
     ·have:=c2 t;omega
 ·exact hno
def zcS(N:NetL)(s:zar)(t:Int):List zar:=
 if s.fin=0 then
  (if (askN N s.sv s.name t).kind=1 then endS s 1 else if (askN N s.sv s.name t).kind=2 then endS s 2 else if (askN N s.sv s.name t).kind=3 then endS s 3 else if (askN N s.sv s.name t).kind=6 then endS s 4 else if (askN N s.sv s.name t).kind=5 then zeo N s (askN N s.sv s.name t).name
  else if (askN N s.sv s.name t).kind=4 then zeN N s (askN N s.sv s.name t) else if s.ref=true then endS s 6 else endS s 5)
 else []
structure StB(s:zar):Prop where
 nm:NmM s.name
 rw0:0<=s.rw
 rw1:s.rw<=1000000
 rf0:0<=s.rf
 rf1:s.rf<=1000000
theorem zjP{w0 w:World}(hE0:Ext w0 w){cs:List Value}{N:NetL}{s:zar}{t:Int}{nv:Value}(hN:NetAt w0 cs N)(hG:NetZ N)(hr:Row w nv (s.name.map vs))(bs:StB s):
  Fn Tryz.prog 45 #[.agg cs.toArray,.agg (stV nv s).toArray,vi t] w (fun v w'=>Ext w w'/\StF w.heap.size (fun u=>u=nv\/BlkB w.heap.size w' u\/∃l,Row w0 u l) w' v (zcS N s t)):=by
 have hN0:=hN;obtain⟨hv,rv,rfl,hh,hro⟩:=hN.ex;obtain⟨ah,ch,hhv,_⟩:=hh.open;obtain⟨ar,cr,hrv,_⟩:=id hro;obtain⟨an,cn,hnv,_⟩:=id hr;unfold stV;refine enter Tryz.func45 Tryz.ntmps45 rfl rfl ?_;repeat refine c_r ?_
 rw[hhv,hrv,hnv];refine rg0 ?_;rw[←hhv,←hrv,←hnv];repeat refine c_r ?_
 rw[zai];refine zaF ?_;intro w1 hE1 hs1 hA hB;have p5:zad w1 (some ⟨w.heap.size+1,5,.none⟩)=some (vi s.fin):=zab hB rfl;have p0:zad w1 (some ⟨w.heap.size+1,0,.none⟩)=some (vi s.sv):=zab hB rfl;have p1:zad w1 (some ⟨w.heap.size+1,1,.none⟩)=some nv:=zab hB rfl;have p4:zad w1 (some ⟨w.heap.size+1,4,.none⟩)=some (.bool s.ref):=zab hB rfl;have dN:zao w1 (some ⟨w.heap.size,0,.none⟩) 4=some [hv,rv,vi N.rw,vi N.rf]:=zaf hA rfl;have dS:zao w1 (some ⟨w.heap.size+1,0,.none⟩) 6=some (stV nv s):=zaf hB rfl;repeat refine c_r ?_
 unfold zcS;by_cases hf:s.fin=0
 rotate_left
 ·rw[if_neg hf];refine rg3 p5 yn0 (yef hf) ?_;repeat refine c_r ?_
  refine wt Bool.not_false ?_;repeat (first|refine c_r ?_|refine rg0 ?_)
  refine rt0 Tryz.ntmps45 ?_;exact⟨hE1,BlkB.nil,nv,.inl rfl,Rows.nil _ _ _,fun x hx=>by cases hx⟩
 rw[if_pos hf];refine rg3 p5 yn0 (yet hf) ?_;repeat refine c_r ?_
 refine wf Bool.not_true ?_;repeat refine c_r ?_
 refine rq ?_;intro gd K hgd hK;try simp (disch:=first|omega|assumption|rfl) only[go_sem,dN,p0,p1,Nat.add_zero,yn0]
 refine Fn.mono (Ask_ok (s:=s.sv) (t:=t) (hE0.trans hE1) hN0 hG (hr.ext hE1) bs.nm) ?_;rintro _ w2 ⟨hE2,cs,rfl,hres⟩;have hra:=hres.at ((hE0.trans hE1).trans hE2);have hmvB:∀u,cs[2]? =some u->BlkB w.heap.size w2 u\/∃l,Row w0 u l:=fun u hu=>by
  obtain⟨dv,mv,gv,e,_,_,h3,_⟩:=hres.ex;rw[e]at hu;obtain rfl:mv=u:=by simpa using hu
  exact h3.imp (fun h=>h.2.mono hE1.size) fun h=>⟨_,h⟩
 have hF:=zmd (s:=s.sv) (t:=t) hG bs.nm;try simp only[go_sem]
 refine zaV (P:=Tryz.prog) (l:=cs) (by rw[hres.cells.1];rfl) hres.cells.2 (by rw[hres.cells.1];rfl) rfl ?_;intro w3 hE3 hs3 hB3;try simp only[go_sem]
 refine hK _ _ ?_;clear hK hgd;clear K;try clear gd
 obtain⟨r,hre⟩:∃r,askN N s.sv s.name t=r:=⟨_,rfl⟩;rw[hre]at hra hF hres ⊢;have hra3:=hra.ext hE3;have d3:=zaf (n:=5) hB3 hres.cells.1.symm;obtain⟨b,hb⟩:∃b,w2.heap.size=b:=⟨_,rfl⟩;rw[hb]at hB3 d3 ⊢;have hE23:=hE2.trans hE3;have hE13:=hE1.trans hE23;have hE03:=hE0.trans hE13;have dN3:=zac hE23 dN;have dS3:=zac hE23 dS;have p43:=zaa hE23 p4;clear hres hra p5 p0 p1 p4 dN dS;have k0:zad w3 (some ⟨b,0,.none⟩)=some (vi r.kind):=by
  obtain⟨dv,mv,gv,e,_⟩:=hra3.ex;rw[e]at hB3;exact zab hB3 rfl
 have hrn:=hr.ext hE13;repeat refine c_r ?_
 refine rg2 k0 Nat.add_zero ?_;repeat refine c_r ?_
 by_cases k1:r.kind=1
 ·rw[if_pos k1];refine rg1 (yet k1) ?_;repeat refine c_r ?_
  refine wt trivial ?_;repeat refine c_r ?_
  refine rc dS3 (zcX w3 hrn s 1) ?_;rintro v w4 ⟨hE4,hv⟩;refine re trivial ?_;repeat refine c_r ?_
  refine rt0 Tryz.ntmps45 ?_;exact⟨hE13.trans hE4,(zcv hv (hrn.ext hE4)).mono hE13.size fun u h=> .inl h⟩
 rw[if_neg k1];refine rg1 (yef k1) ?_;repeat refine c_r ?_
 refine wf trivial ?_;repeat refine c_r ?_
 by_cases k2:r.kind=2
 ·rw[if_pos k2];refine rg1 (yet k2) ?_;repeat refine c_r ?_
  refine wt trivial ?_;repeat refine c_r ?_
  refine rc dS3 (zcX w3 hrn s 2) ?_;rintro v w4 ⟨hE4,hv⟩;refine re trivial ?_;repeat refine c_r ?_
  refine rt0 Tryz.ntmps45 ?_;exact⟨hE13.trans hE4,(zcv hv (hrn.ext hE4)).mono hE13.size fun u h=> .inl h⟩
 rw[if_neg k2];refine rg1 (yef k2) ?_;repeat refine c_r ?_
 refine wf trivial ?_;repeat refine c_r ?_
 by_cases k3:r.kind=3
 ·rw[if_pos k3];refine rg1 (yet k3) ?_;repeat refine c_r ?_
  refine wt trivial ?_;repeat refine c_r ?_
  refine rc dS3 (zcX w3 hrn s 3) ?_;rintro v w4 ⟨hE4,hv⟩;refine re trivial ?_;repeat refine c_r ?_
  refine rt0 Tryz.ntmps45 ?_;exact⟨hE13.trans hE4,(zcv hv (hrn.ext hE4)).mono hE13.size fun u h=> .inl h⟩
 rw[if_neg k3];refine rg1 (yef k3) ?_;repeat refine c_r ?_
 refine wf trivial ?_;repeat refine c_r ?_
 by_cases k6:r.kind=6
 ·rw[if_pos k6];refine rg1 (yet k6) ?_;repeat refine c_r ?_
  refine wt trivial ?_;repeat refine c_r ?_
  refine rc dS3 (zcX w3 hrn s 4) ?_;rintro v w4 ⟨hE4,hv⟩;refine re trivial ?_;repeat refine c_r ?_
  refine rt0 Tryz.ntmps45 ?_;exact⟨hE13.trans hE4,(zcv hv (hrn.ext hE4)).mono hE13.size fun u h=> .inl h⟩
 rw[if_neg k6];refine rg1 (yef k6) ?_;repeat refine c_r ?_
 refine wf trivial ?_;repeat refine c_r ?_
 by_cases k5:r.kind=5
 ·rw[if_pos k5];refine rg1 (yet k5) ?_;repeat refine c_r ?_
  refine wt trivial ?_;obtain⟨dv,mv,gv,e,_,hnm,_⟩:=hra3.ex;rw[e]at hB3;have k2:zad w3 (some ⟨b,2,.none⟩)=some mv:=zab hB3 rfl;repeat refine c_r ?_
  refine rc (an4 dS3 dN3 k2 yn0) (alias_ok hE03 hN0 hG hrn hnm (zem (hF.nm k5)).m bs.rw0 bs.rw1) ?_;rintro v w4 ⟨hE4,hv⟩;refine re trivial ?_;repeat refine c_r ?_
  refine rt0 Tryz.ntmps45 ?_;exact⟨hE13.trans hE4,hv.mono hE13.size fun u h=>by
   rcases h with h|h
   ·exact .inl h
   ·rw[h];exact .inr ((hmvB mv (by rw[e];rfl)).imp (fun h=>h.ext (by have:=hE3.size;have:=hE4.size;omega)) id)⟩
 rw[if_neg k5];refine rg1 (yef k5) ?_;repeat refine c_r ?_
 refine wf trivial ?_;repeat refine c_r ?_
 by_cases k4:r.kind=4
 ·rw[if_pos k4];refine rg1 (yet k4) ?_;repeat refine c_r ?_
  refine wt trivial ?_;repeat refine c_r ?_
  refine rc (an3 dS3 dN3 d3) (refer_ok hE03 hN0 hG hrn hra3 hF.ok hF.dl hF.tg bs.rf0 bs.rf1) ?_;rintro v w4 ⟨hE4,hv⟩;refine re trivial ?_;repeat refine c_r ?_
  refine rt0 Tryz.ntmps45 ?_;exact⟨hE13.trans hE4,hv.mono hE13.size fun u h=> .inl h⟩
 rw[if_neg k4];refine rg1 (yef k4) ?_;repeat refine c_r ?_
 refine wf trivial ?_;repeat refine c_r ?_
 refine rg2 p43 Nat.add_zero ?_;repeat refine c_r ?_
 cases hrf:s.ref with
 |true=>
  rw[if_pos rfl];refine wt hrf ?_;repeat refine c_r ?_
  refine rc dS3 (zcX w3 hrn s 6) ?_;rintro v w4 ⟨hE4,hv⟩;refine re trivial ?_;repeat refine c_r ?_
  refine rt0 Tryz.ntmps45 ?_;exact⟨hE13.trans hE4,(zcv hv (hrn.ext hE4)).mono hE13.size fun u h=> .inl h⟩
 |false=>
  rw[if_neg Bool.false_ne_true];refine wf hrf ?_;repeat refine c_r ?_
  refine rc dS3 (zcX w3 hrn s 5) ?_;rintro v w4 ⟨hE4,hv⟩;refine re trivial ?_;repeat refine c_r ?_
  refine rt0 Tryz.ntmps45 ?_;exact⟨hE13.trans hE4,(zcv hv (hrn.ext hE4)).mono hE13.size fun u h=> .inl h⟩
structure zfY where
 o:Nm
 path:Lab
structure SrvL where
 host:Nm
 addr:List UInt8
 places:List zfY
structure zha where
 servers:List SrvL
 roots:List Int
 rw:Int
 rf:Int
structure PlaceC(w:World)(cs:List Value)(p:zfY):Prop where
 ex:∃ov,cs=[ov,vs p.path]/\Row w ov (p.o.map vs)
structure SrvC(w:World)(cs:List Value)(s:SrvL):Prop where
 ex:∃nv a b c d pv,cs=[nv,zae a,zae b,zae c,zae d,pv]/\s.addr=[a,b,c,d]/\Row w nv (s.host.map vs)/\Rows 2 (PlaceC w) w pv s.places
structure ConfAt(w:World)(cs:List Value)(c:zha):Prop where
 ex:∃sv rv,cs=[sv,rv,vi c.rw,vi c.rf]/\Rows 6 (SrvC w) w sv c.servers/\Row w rv (c.roots.map vi)
theorem PlaceC.ext{w x:World}{cs:List Value}{p:zfY}(h:PlaceC w cs p)(hE:Ext w x):PlaceC x cs p:=by
 obtain⟨ov,e,h1⟩:=h.ex;exact⟨ov,e,h1.ext hE⟩
theorem SrvC.ext{w x:World}{cs:List Value}{z:SrvL}(h:SrvC w cs z)(hE:Ext w x):SrvC x cs z:=by
 obtain⟨nv,a,b,c,d,zv,e,ha,h1,h2⟩:=h.ex;exact⟨nv,a,b,c,d,zv,e,ha,h1.ext hE,Rows.extC (fun _ _ h=>PlaceC.ext h hE) h2 hE⟩
theorem ConfAt.ext{w x:World}{cs:List Value}{z:zha}(h:ConfAt w cs z)(hE:Ext w x):ConfAt x cs z:=by
 obtain⟨hv,rv,e,h1,h2⟩:=h.ex;exact⟨hv,rv,e,Rows.extC (fun _ _ h=>SrvC.ext h hE) h1 hE,h2.ext hE⟩
structure Sh(n:Nm):Prop where
 len:n.length<=130
 lb:∀l∈n,l.length<=100
theorem Sh.m{n:Nm}(h:Sh n):NmM n:=⟨fun l hl=>by have:=h.lb l hl;omega,by have:=h.len;omega⟩
structure FewC(c:zha):Prop where
 sl:c.servers.length<=20
 rl:c.roots.length<=20
 s:∀s∈c.servers,Sh s.host/\s.places.length<=20/\∀p∈s.places,Sh p.o/\p.path.length<=50
theorem zjL(w:World){a:Value}{n:Nm}(ha:Row w a (n.map vs)):
  Fn Tryz.prog 118 #[a] w (fun v w'=>Ext w w'/\∃t,v= .bool t/\(t=true->Sh n)):=by
 obtain⟨a1,c1,rfl,_,h1⟩:=ha;simp only[ylm,List.getElem_map]at h1 ⊢;refine enter Tryz.func118 Tryz.ntmps118 rfl rfl ?_;repeat refine c_r ?_
 refine rg0 ?_;repeat refine c_r ?_
 by_cases hn:(n.length:Int)>130
 ·refine rg1 (yet hn) ?_;repeat refine c_r ?_
  refine wt trivial ?_;repeat (first|refine c_r ?_|refine rg0 ?_)
  refine rt0 Tryz.ntmps118 ?_;exact⟨Keep.refl _ _,_,rfl,fun h=>by cases h⟩
 refine rg1 (yef hn) ?_;repeat refine c_r ?_
 refine wf trivial ?_;repeat refine c_r ?_
 refine rg0 ?_;repeat refine c_r ?_
 refine zap (fun m σ ds A=>ds=[]/\∃(i:Nat),i+m=n.length/\σ 3=vi i/\σ 0= .slice a1 n.length c1/\Ext w A/\∀j (h:j<n.length),j<i->n[j].length<=100) n.length ?_ ?_
 ·exact⟨rfl,0,by omega,vr0,vq0,Keep.refl _ _,fun j h h2=>absurd h2 (by omega)⟩
 rintro m σ ds A ⟨rfl,i,him,s3,s0,hEA,ht⟩;repeat refine c_r ?_
 refine rg2 s3 s0 ?_;repeat refine c_r ?_
 refine wc0 ?_ ?_
 ·intro hlt;simp only[ydT]at hlt;have hi:i<n.length:=by omega
  have hi0:=cj i;have hi1':=ci i;have g1:=zaa hEA (h1 i hi);obtain⟨x1,rfl⟩:=yxs (zag (h1 i hi));repeat refine c_r ?_
  refine rq ?_;intro gd K hgd hK;simp (disch:=first|omega|assumption|rfl) only[go_sem,s3,s0,hi0,hlt,g1,Nat.mul_one];refine hK _ _ ?_;clear hK hgd;clear K gd;repeat refine c_r ?_
  by_cases hl:(n[i].length:Int)>100
  ·refine wt (yet hl) ?_;repeat (first|refine c_r ?_|refine rg0 ?_)
   refine rt0 Tryz.ntmps118 ?_;exact⟨hEA,_,rfl,fun h=>by cases h⟩
  ·refine wf (yef hl) ?_;repeat refine c_r ?_
   refine rg2 s3 hi1' ?_;repeat refine c_r ?_
   refine⟨m - 1,by omega,rfl,i+1,by omega,vq0,vq1 s0,hEA,fun j hj hji=>?_⟩;by_cases hj2:j=i
   ·subst hj2;omega
   ·exact ht j hj (by omega)
 ·intro hge;simp only[ydF]at hge;repeat (first|refine c_r ?_|refine rg0 ?_)
  refine rt0 Tryz.ntmps118 ?_;refine⟨hEA,_,rfl,fun _=>⟨by omega,fun l hl=>?_⟩⟩;obtain⟨j,hj,rfl⟩:=List.mem_iff_getElem.1 hl;exact ht j hj (by omega)
theorem RPath_ok(w:World){l:Lab}(hl:l.length<=1000000):
  Fn Tryz.prog 167 #[vs l] w (fun v w'=>Ext w w'/\∃t,v= .bool t):=by
 refine enter Tryz.func167 Tryz.ntmps167 rfl rfl ?_;refine gz0 ?_;refine zap (fun m σ ds A=>ds=[]/\∃(i:Nat),i+m=l.length/\σ 3=vi i/\σ 0=vs l/\Ext w A) l.length ?_ ?_
 ·exact⟨rfl,0,by omega,vr0,vq0,Keep.refl _ _⟩
 rintro m σ ds A ⟨rfl,i,him,s3,s0,hEA⟩;refine gz (az2 s3 s0) ?_;refine wc0 ?_ ?_
 ·intro hlt;simp only[ydT]at hlt;have hi:i<l.length:=by omega
  have hi0:=cj i;have hi2:((i:Int)).toNat<l.length:=by omega
  have hi1':=ci i;refine gz (az2 s3 s0) ?_;refine wc0 ?_ ?_
  ·intro _;refine gz0 ?_;refine rt0 Tryz.ntmps167 ?_;exact⟨hEA,_,rfl⟩
  ·intro _;refine gz (az2 s3 hi1') ?_;exact⟨m - 1,by omega,rfl,i+1,by omega,vq0,vq1 s0,hEA⟩
 ·intro hge;refine gz s0 ?_;refine rt0 Tryz.ntmps167 ?_;exact⟨hEA,_,rfl⟩
theorem zjc{w:World}{sv:Value}{l:List SrvL}(hs:Rows 6 (SrvC w) w sv l):∃a c,sv= .slice a l.length c/\∀i (h:i<l.length),∃xa xi x5 nv ap cp,a=some xa/\adr (some xa) (i*6)=some xi/\adr (some xi) 5=some x5/\zad w (some xi)=some nv/\Row w nv (l[i].host.map vs)/\
  zad w (some x5)=some (.slice ap l[i].places.length cp)/\(∃b1 b2 b3 b4,l[i].addr=[b1,b2,b3,b4]/\zao w (some xi) 6=some [nv,zae b1,zae b2,zae b3,zae b4,.slice ap l[i].places.length cp])/\Rows 2 (PlaceC w) w (.slice ap l[i].places.length cp) l[i].places/\
  ∀k (h:k<l[i].places.length),∃xp xk xk1 ov,ap=some xp/\adr (some xp) (k*2)=some xk/\adr (some xk) 1=some xk1/\zad w (some xk)=some ov/\Row w ov (l[i].places[k].o.map vs)/\zad w (some xk1)=some (vs l[i].places[k].path):=by
 obtain⟨a,c,rfl,_,hg⟩:=hs.open;refine⟨a,c,rfl,fun i hi=>?_⟩;obtain⟨cs,hcs,hS⟩:=hg i hi;obtain⟨nv,b1,b2,b3,b4,pv,rfl,ha,hn,hp⟩:=hS.ex;have hp0:=hp;obtain⟨ap,cp,rfl,_,hgp⟩:=hp.open;obtain⟨xa,rfl⟩:=yxs (zak hcs);obtain⟨xi,hxi⟩:∃xi,adr (some xa) (i*6)=some xi:=⟨_,rfl⟩;obtain⟨x5,hx5⟩:∃x,adr (some xi) 5=some x:=⟨_,rfl⟩;rw[hxi]at hcs;have h0:=zah (j:=0) hcs rfl;rw[zaj]at h0;have h5:=zah (j:=5) hcs rfl;rw[hx5]at h5;refine⟨xa,xi,x5,nv,ap,cp,rfl,hxi,hx5,h0,hn,h5,⟨b1,b2,b3,b4,ha,hcs⟩,hp0,fun k hk=>?_⟩;obtain⟨c2,hc2,hP⟩:=hgp k hk;obtain⟨ov,rfl,ho⟩:=hP.ex;obtain⟨xp,rfl⟩:=yxs (zak hc2);obtain⟨xk,hxk⟩:∃xi,adr (some xp) (k*2)=some xi:=⟨_,rfl⟩;obtain⟨xk1,hxk1⟩:∃x,adr (some xk) 1=some x:=⟨_,rfl⟩;rw[hxk]at hc2;have g0:=zah (j:=0) hc2 rfl;rw[zaj]at g0;have g1:=zah (j:=1) hc2 rfl;rw[hxk1]at g1;exact⟨xp,xk,xk1,ov,rfl,hxk,hxk1,g0,ho,g1⟩
theorem Few15_ok(w:World){cs:List Value}{c:zha}(hc:ConfAt w cs c):
  Fn Tryz.prog 66 #[.agg cs.toArray] w (fun v w'=>Ext w w'/\∃t,v= .bool t/\(t=true->FewC c)):=by
 obtain⟨sv,rv,rfl,hs,hr⟩:=hc.ex;obtain⟨aS,cS,rfl,hat⟩:=zjc hs;obtain⟨ar,cr,rfl,_⟩:=hr;simp only[ylm];refine enter Tryz.func66 Tryz.ntmps66 rfl rfl ?_;refine gz0 ?_;refine zaw ?_;intro w1 hE1 hs1 hA;have p0:zad w1 (some ⟨w.heap.size,0,.none⟩)=some (.slice aS c.servers.length cS):=zab hA rfl;have p1:zad w1 (some ⟨w.heap.size,1,.none⟩)=some (.slice ar c.roots.length cr):=zab hA rfl;repeat refine c_r ?_
 by_cases h1:(c.servers.length:Int)>20
 ·refine rgg [(4,9)] (an3 p0 Nat.add_zero (yet h1)) ?_;repeat refine c_r ?_
  refine wt trivial ?_;refine gz0 ?_;refine rt0 Tryz.ntmps66 ?_;exact⟨hE1,_,rfl,fun h=>by cases h⟩
 by_cases h2:(c.roots.length:Int)>20
 ·refine rgg [(4,9)] (an6 p0 Nat.add_zero (yef h1) p1 yn0 (yet h2)) ?_;repeat refine c_r ?_
  refine wt trivial ?_;refine gz0 ?_;refine rt0 Tryz.ntmps66 ?_;exact⟨hE1,_,rfl,fun h=>by cases h⟩
 refine rgg [(4,9)] (an6 p0 Nat.add_zero (yef h1) p1 yn0 (yef h2)) ?_;repeat refine c_r ?_
 refine wf trivial ?_;refine gz0 ?_;refine zap (fun m σ ds A=>ds=[]/\∃(i:Nat),i+m=c.servers.length/\σ 3=vi i/\σ 1= .pointer (some ⟨w.heap.size,0,.none⟩)/\Ext w1 A/\∀j (h:j<c.servers.length),j<i->Sh c.servers[j].host/\c.servers[j].places.length<=20/\∀p∈c.servers[j].places,Sh p.o/\p.path.length<=50) c.servers.length ?_ ?_
 ·exact⟨rfl,0,by omega,vr0,vq0,Keep.refl _ _,fun j h h2=>absurd h2 (by omega)⟩
 rintro m σ ds A ⟨rfl,i,him,s3,s1,hEA,ht⟩;have p0A:=zaa hEA p0;refine gz (az4 s3 s1 p0A Nat.add_zero) ?_;refine wc0 ?_ ?_
 ·intro hlt;simp only[ydT]at hlt;have hi:i<c.servers.length:=by omega
  have hi0:=cj i;have hi1':=ci i;obtain⟨xa,xi,x5,nv,ap,cp,rfl,hxi,hx5,g0,hn,g5,_,_,hpl⟩:=hat i hi;obtain⟨s,hse⟩:∃s,c.servers[i]=s:=⟨_,rfl⟩;rw[hse]at hn g5;simp only[hse]at hpl;have hz0:adr (some xi) 0=some xi:=zaj _;have g0A:=zaa (hE1.trans hEA) g0;repeat refine c_r ?_
  refine rcg [(8,30)] (an9 s3 s1 p0A Nat.add_zero hi0 hlt hxi hz0 g0A) (zjL A (hn.ext (hE1.trans hEA))) ?_;rintro _ A1 ⟨hE2,t,rfl,hsh⟩;have hEA1:=hEA.trans hE2;have p0B:=zaa hEA1 p0;have g5B:=zaa (hE1.trans hEA1) g5;cases t with
  |false=>
   refine reg [(8,30)] Bool.not_false ?_;repeat refine c_r ?_
   refine wt trivial ?_;refine gz0 ?_;refine rt0 Tryz.ntmps66 ?_;exact⟨hE1.trans hEA1,_,rfl,fun h=>by cases h⟩
  |true=>
  by_cases h3:(s.places.length:Int)>20
  ·refine reg [(8,30)] (an2 (an9 s3 s1 p0B Nat.add_zero hi0 hlt hxi hx5 g5B) (an2 Bool.not_true (yet h3))) ?_;repeat refine c_r ?_
   refine wt trivial ?_;refine gz0 ?_;refine rt0 Tryz.ntmps66 ?_;exact⟨hE1.trans hEA1,_,rfl,fun h=>by cases h⟩
  refine reg [(8,30)] (an2 (an9 s3 s1 p0B Nat.add_zero hi0 hlt hxi hx5 g5B) (an2 Bool.not_true (yef h3))) ?_;repeat refine c_r ?_
  refine wf trivial ?_;refine gz0 ?_;refine zap (fun m σ ds B=>ds=[]/\∃(k:Nat),k+m=s.places.length/\σ 4=vi k/\σ 3=vi i/\σ 1= .pointer (some ⟨w.heap.size,0,.none⟩)/\Ext w1 B/\∀j (h:j<s.places.length),j<k->Sh s.places[j].o/\s.places[j].path.length<=50) s.places.length ?_ ?_
  ·exact⟨rfl,0,by omega,vr0,vq1 s3,vq1 s1,hEA1,fun j h h2=>absurd h2 (by omega)⟩
  clear s3 s1;rintro m2 σ2 ds2 B ⟨rfl,k,hkm,s4,s3,s1,hEB,ht2⟩;have p0C:=zaa hEB p0;have g5C:=zaa (hE1.trans hEB) g5;refine gz (az2 (az7 s4 s3 s1 (an3 p0C Nat.add_zero g5C) hi0 hlt hxi) (az2 hx5 trivial)) ?_;refine wc0 ?_ ?_
  ·intro hlt2;simp only[ydT]at hlt2;have hk:k<s.places.length:=by omega
   have hk0:=cj k;have hk1':=ci k;obtain⟨xp,xk,xk1,ov,rfl,hxk,hxk1,f0,ho,f1⟩:=hpl k hk;have hz1:adr (some xk) 0=some xk:=zaj _;have f0C:=zaa (hE1.trans hEB) f0;repeat refine c_r ?_
   refine rcg [(12,63)] (an2 (an9 s4 s3 s1 p0C Nat.add_zero g5C hi0 hlt hxi) (an7 hx5 hk0 hlt2 hxk hz1 f0C trivial)) (zjL B (ho.ext (hE1.trans hEB))) ?_;rintro _ B1 ⟨hE3,t,rfl,hsh2⟩;have hEB1:=hEB.trans hE3;cases t with
   |false=>
    refine reg [(12,63)] Bool.not_false ?_;repeat refine c_r ?_
    refine wt trivial ?_;refine gz0 ?_;refine rt0 Tryz.ntmps66 ?_;exact⟨hE1.trans hEB1,_,rfl,fun h=>by cases h⟩
   |true=>
   have p0D:=zaa hEB1 p0;have g5D:=zaa (hE1.trans hEB1) g5;have f1D:=zaa (hE1.trans hEB1) f1;by_cases h4:((s.places[k].path).length:Int)>50
   ·refine reg [(12,63)] (an3 (an9 s4 s3 s1 p0D Nat.add_zero g5D hi0 hlt hxi) (an6 hx5 hk0 hlt2 hxk hxk1 f1D) (an2 Bool.not_true (yet h4))) ?_;repeat refine c_r ?_
    refine wt trivial ?_;refine gz0 ?_;refine rt0 Tryz.ntmps66 ?_;exact⟨hE1.trans hEB1,_,rfl,fun h=>by cases h⟩
   refine reg [(12,63)] (an3 (an9 s4 s3 s1 p0D Nat.add_zero g5D hi0 hlt hxi) (an6 hx5 hk0 hlt2 hxk hxk1 f1D) (an2 Bool.not_true (yef h4))) ?_;repeat refine c_r ?_
   refine wf trivial ?_;refine gz (az2 s4 hk1') ?_;refine⟨m2 - 1,by omega,rfl,k+1,by omega,vq0,vq1 s3,vq1 s1,hEB1,fun j hj hjk=>?_⟩;by_cases hj2:j=k
   ·subst hj2;exact⟨hsh2 rfl,by omega⟩
   ·exact ht2 j hj (by omega)
  ·intro hge2;simp only[ydF]at hge2;refine gz (az2 s3 hi1') ?_;refine⟨m - 1,by omega,rfl,i+1,by omega,vq0,vq1 s1,hEB,fun j hj hji=>?_⟩;by_cases hj2:j=i
   ·subst hj2;rw[hse];refine⟨hsh rfl,by omega,fun p hp=>?_⟩;obtain⟨k2,hk2,rfl⟩:=List.mem_iff_getElem.1 hp;exact ht2 k2 hk2 (by omega)
   ·exact ht j hj (by omega)
 ·intro hge;simp only[ydF]at hge;refine gz0 ?_;refine rt0 Tryz.ntmps66 ?_;refine⟨hE1.trans hEA,_,rfl,fun _=>⟨by omega,by omega,fun s hs=>?_⟩⟩;obtain⟨j,hj,rfl⟩:=List.mem_iff_getElem.1 hs;exact ht j hj (by omega)
section
variable {P : Program} {d : Option Tmp} {ty : TypeId} {ps : String} {af : Array Edge} {g : Option (Nat × Bool)} {ρ : Operand -> Value} {w : World} {K : Value -> World -> Prop}
theorem ze7{e:TypeId}{cs:Array Value}{i:Nat}{v:Value}(he:P.underlying e=some (.int .u8))(hv:cs[i]? =some v):(part e cs i).run P w= .ok v w:=by
 have hi:(isAgg e).run P w= .ok false w:=by simp[isAgg,underlying,program,Sem.run,he]
 unfold part;simp only[Sem.run_bind,hi,Result.andThen_ok,Bool.false_eq_true,if_false,hv,Sem.run_pure]
theorem zde{e:TypeId}(he:P.underlying e=some (.int .u8))(n:Nat)(a b:UInt8):(Op.equalIn (n+1) e (zae a) (zae b)).run P w= .ok (decide (a=b)) w:=by
 have:((a.toNat:Int)==(b.toNat:Int))=decide (a=b):=by
  by_cases h:a=b
  ·subst h;simp
  ·rw[yef h];have:a.toNat≠b.toNat:=fun h2=>h (UInt8.toNat_inj.1 h2);simp;omega
 simp[Op.equalIn,underlying,program,Sem.run,he,zae,this]
theorem eqIn_arr{t e:TypeId}{inf:TypeInfo}(ht:P.underlying t=some (.array 4 e))(he:P.underlying e=some (.int .u8))(hi:P.info? e=some inf)(hs:inf.size=1)(n:Nat)(a b c d a' b' c' d':UInt8):
  (Op.equalIn (n+2) t (.agg #[zae a,zae b,zae c,zae d]) (.agg #[zae a',zae b',zae c',zae d'])).run P w= .ok (decide ([a,b,c,d]=[a',b',c',d'])) w:=by
 rw[Op.equalIn];have hsz:(sizeOf e).run P w= .ok 1 w:=by simp[sizeOf,typeInfo,program,Sem.run,hi,hs]
 have hu:(underlying t).run P w= .ok (.array 4 e) w:=by simp[underlying,program,Sem.run,ht]
 simp only[Sem.run_bind,hu,Result.andThen_ok,hsz,Std.Legacy.Range.forIn_eq_forIn_range',Std.Legacy.Range.size,List.range'];have p0:∀x0 x1 x2 x3:Value,(part e #[x0,x1,x2,x3] 0).run P w= .ok x0 w:=fun _ _ _ _=>ze7 he rfl;have p1:∀x0 x1 x2 x3:Value,(part e #[x0,x1,x2,x3] 1).run P w= .ok x1 w:=fun _ _ _ _=>ze7 he rfl;have p2:∀x0 x1 x2 x3:Value,(part e #[x0,x1,x2,x3] 2).run P w= .ok x2 w:=fun _ _ _ _=>ze7 he rfl;have p3:∀x0 x1 x2 x3:Value,(part e #[x0,x1,x2,x3] 3).run P w= .ok x3 w:=fun _ _ _ _=>ze7 he rfl;by_cases h1:a=a'
 ·by_cases h2:b=b'
  ·by_cases h3:c=c'
   ·by_cases h4:d=d'
    ·simp[List.forIn_cons,Sem.run_bind,p0,p1,p2,p3,zde he,h1,h2,h3,h4]
    ·simp[List.forIn_cons,Sem.run_bind,p0,p1,p2,p3,zde he,h1,h2,h3,h4]
   ·simp[List.forIn_cons,Sem.run_bind,p0,p1,p2,p3,zde he,h1,h2,h3]
  ·simp[List.forIn_cons,Sem.run_bind,p0,p1,p2,p3,zde he,h1,h2]
 ·simp[List.forIn_cons,Sem.run_bind,p0,p1,p2,p3,zde he,h1]
theorem op_eqA{t e yt:TypeId}{x y:Operand}{inf:TypeInfo}{a b c d1 a' b' c' d':UInt8}(ht:P.underlying t=some (.array 4 e))(he:P.underlying e=some (.int .u8))(hi:P.info? e=some inf)(hs:inf.size=1)(hg:P.eqGuardType P.depth t=false)
  (hx:ρ x= .agg #[zae a,zae b,zae c,zae d1]) (hy:ρ y= .agg #[zae a',zae b',zae c',zae d']) (h:K (.bool (decide ([a,b,c,d1]=[a',b',c',d']))) w):
  opW P ⟨d,.binOp .eql t x y yt,ty,ps,af,g⟩ ρ w K:=by
 have h2:(Op.equal t (.agg #[zae a,zae b,zae c,zae d1]) (.agg #[zae a',zae b',zae c',zae d'])).run P w= .ok (decide ([a,b,c,d1]=[a',b',c',d'])) w:=eqIn_arr ht he hi hs 9998 a b c d1 a' b' c' d';have hr:(do eqGuard .eql t x y (.agg #[zae a,zae b,zae c,zae d1]) (.agg #[zae a',zae b',zae c',zae d']);binOp .eql t (.agg #[zae a,zae b,zae c,zae d1]) (.agg #[zae a',zae b',zae c',zae d']):Sem Value).run P w= .ok (.bool (decide ([a,b,c,d1]=[a',b',c',d']))) w:=by
  simp[eqGuard,binOp,h2,program,Sem.run,hg]
 have:=zaM (P:=P) (K:=K) hr h;rw[←hx,←hy]at this;exact this
end
theorem Sh.lb9{n:Nm}(h:Sh n):(∀l∈n,l.length<=1000000000)/\n.length<=1000000000:=⟨fun l hl=>by have:=h.lb l hl;omega,by have:=h.len;omega⟩
theorem zmk(w:World){cs:List Value}{c:zha}(hc:ConfAt w cs c)(hf:FewC c){i:Nat}(hi:i<c.servers.length):
  Fn Tryz.prog 119 #[.agg cs.toArray,vi i] w (fun v w'=>Ext w w'/\∃e,v=vi e):=by
 obtain⟨sv,rv,rfl,hs,hr⟩:=hc.ex;obtain⟨aS,cS,rfl,hat⟩:=zjc hs;obtain⟨ar,cr,rfl,_⟩:=hr;simp only[ylm];have hsl:=hf.sl;refine enter Tryz.func119 Tryz.ntmps119 rfl rfl ?_;refine gz0 ?_;refine zaw ?_;intro w1 hE1 hs1 hA;have p0:zad w1 (some ⟨w.heap.size,0,.none⟩)=some (.slice aS c.servers.length cS):=zab hA rfl;obtain⟨xa,xi,x5,nv,ap,cp,rfl,hxi,hx5,g0,hn,g5,⟨b1,b2,b3,b4,hadr,hcs⟩,hpr,hpl⟩:=hat i hi;obtain⟨s,hse⟩:∃s,c.servers[i]=s:=⟨_,rfl⟩;obtain⟨fs1,fs2,fs3⟩:=hf.s s (hse▸List.getElem_mem hi);rw[hse]at hn g5 hadr hcs hpr;simp only[hse]at hpl;have n1:=hn.isOne;have i0:=cj i;have i1:(i:Int)<(c.servers.length:Int):=by omega
 have d:=zac hE1 hcs;refine rqz ?_;intro gd K hgd hK;refine sgz (az6 p0 Nat.add_zero i0 i1 hxi d) ?_;refine zaV (P:=Tryz.prog) (l:=[nv,zae b1,zae b2,zae b3,zae b4,.slice ap s.places.length cp]) rfl (fun v hv=>by simp at hv;rcases hv with rfl|rfl|rfl|rfl|rfl|rfl<;>first|exact n1|rfl) rfl rfl ?_;intro w2 hE2 hs2 hB;try simp only[go_sem]
 apply hK;obtain⟨b5,hb5⟩:∃b,w1.heap.size=b:=⟨_,rfl⟩;rw[hb5]at hB ⊢;have hE12:=hE1.trans hE2;have p02:=zaa hE2 p0;have q0:zad w2 (some ⟨b5,0,.none⟩)=some nv:=zab hB rfl;have q1:zao w2 (some ⟨b5,1,.none⟩) 4=some [zae b1,zae b2,zae b3,zae b4]:=by
  have h6:=zaf (n:=6) (l:=[nv,zae b1,zae b2,zae b3,zae b4,.slice ap s.places.length cp]) hB rfl;have h5:=za9 (m:=1) (k:=5) h6;rw[za3]at h5;exact zch (m:=4) (k:=1) h5
 have q5:zad w2 (some ⟨b5,5,.none⟩)=some (.slice ap s.places.length cp):=zab hB rfl;repeat refine c_r ?_
 refine rc (an2 q0 Nat.add_zero) (zbt w2 nv s.host (hn.ext hE12) fs1.lb9.1 fs1.lb9.2) ?_;rintro _ w3 ⟨rfl,hE3⟩;refine re trivial ?_;have hE23:=hE12.trans hE3;repeat refine c_r ?_
 by_cases hck:zaD s.host=0
 rotate_left
 ·refine rg1 (yef hck) ?_;repeat refine c_r ?_
  refine wt Bool.not_false ?_;refine gz0 ?_;refine rt0 Tryz.ntmps119 ?_;exact⟨hE23,_,rfl⟩
 refine gz (yet hck) ?_;refine wf Bool.not_true ?_;have p03:=zaa hE3 p02;have q03:=zaa hE3 q0;have q13:=zac hE3 q1;have q53:=zaa hE3 q5;refine gz0 ?_;refine zap (fun m σ ds A=>ds=[]/\∃(k:Nat),k+m=i/\σ 7=vi k/\σ 1=vi i/\σ 2= .pointer (some ⟨w.heap.size,0,.none⟩)/\σ 5= .pointer (some ⟨b5,0,.none⟩)/\Ext w3 A) i ?_ ?_
 ·exact⟨rfl,0,by omega,vr0,vq0,vq0,vq0,Keep.refl _ _⟩
 rintro m σ ds A ⟨rfl,k,hkm,s7,s1,s2,s5,hEA⟩;have hEwA:=hE23.trans hEA;refine gz (az2 s7 s1) ?_;refine wc0 ?_ ?_
 ·intro hlt;simp only[ydT]at hlt;have hk:k<c.servers.length:=by omega
  have hk0:=cj k;have hk1:(k:Int)<(c.servers.length:Int):=by omega
  have hk1':=ci k;obtain⟨xa',xk,_,nv',_,_,hae,hxk,_,f0,hn',_,⟨d1,d2,d3,d4,_,fcs⟩,_,_⟩:=hat k hk;injection hae with hae
  subst hae;obtain⟨fsk,_,_⟩:=hf.s _ (List.getElem_mem hk);obtain⟨y1,hy1⟩:∃y,adr (some xk) 1=some y:=⟨_,rfl⟩;have hz0:adr (some xk) 0=some xk:=zaj _;have fby:zao w (some y1) 4=some [zae d1,zae d2,zae d3,zae d4]:=by
   have h5:=za9 (m:=1) (k:=5) fcs;rw[hy1]at h5;exact zch (m:=4) (k:=1) h5
  repeat refine c_r ?_
  refine zaJ (fun _=>false) [(0,true),(1,true),(2,true),(3,true),(4,true),(5,true),(6,true),(7,true),(8,false),(9,true),(10,true),(11,true),(12,true),(13,true),(14,true),(15,true),(16,true),(17,true),(18,false),(19,true)] NoS mixed (by kernel_rfl) ?_;intro gd K x hgd hx hxe hK;clear hxe;have hg9:=gk 9 35 hgd rfl;have hW:=hEwA.trans hx;have p0x:=zaa (hEA.trans hx) p03;have q0x:=zaa (hEA.trans hx) q03;have q1x:=zac (hEA.trans hx) q13;have f0x:=zaa hW f0;have fbx:=zac hW fby;refine sgz (az2 (az7 s7 s2 s5 p0x q0x Nat.add_zero hk0) (az4 hk1 hxk hz0 f0x)) ?_;refine Fn.mono (zbO x nv' nv _ s.host (hn'.ext hW) (hn.ext hW) fsk.m.LB fs1.m.LB (by have:=fsk.len;omega) (by have:=fs1.len;omega)) ?_;rintro _ y ⟨rfl,hy⟩;refine⟨.inr hy,?_⟩;obtain⟨sm,hsm⟩:∃b,decide (zan c.servers[k].host=zan s.host)=b:=⟨_,rfl⟩;rw[hsm];cases sm with
  |true=>
   simp (disch:=first|omega|assumption|rfl) only[go_sem,↓hg9];refine en hK ?_;refine wt trivial ?_;refine gz0 ?_;refine rt0 Tryz.ntmps119 ?_;exact⟨hW.trans hy,_,rfl⟩
  |false=>
  have p0y:=zaa hy p0x;have q1y:=zac hy q1x;have fby':=zac hy fbx;simp (disch:=first|omega|assumption|rfl) only[go_sem,s7,s2,s5,p0y,Nat.add_zero,hk0,hk1,hxk,hy1,fby',q1y,↓hg9];refine op_eqA (a:=d1) (b:=d2) (c:=d3) (d1:=d4) (a':=b1) (b':=b2) (c':=b3) (d':=b4) rfl rfl rfl rfl (by kernel_rfl) vr0 vr0 ?_;refine⟨.inr (Keep.refl _ _),?_⟩;simp (disch:=first|omega|assumption|rfl) only[go_sem,↓hg9];apply hK;have hWy:=hW.trans hy;have hAy:=(hEA.trans hx).trans hy;refine wcz ?_ ?_
  ·intro _;refine gz0 ?_;refine rt0 Tryz.ntmps119 ?_;exact⟨hWy,_,rfl⟩
  ·intro _;refine gz (az2 s7 hk1') ?_;exact⟨m - 1,by omega,rfl,k+1,by omega,vq0,vq1 s1,vq1 s2,vq1 s5,hAy⟩
 intro hge;clear hkm hge s7;have q5A:=zaa hEA q53;repeat refine c_r ?_
 by_cases h16:(s.places.length:Int)>16
 ·refine rg4 s5 q5A yn0 (yet h16) ?_;repeat refine c_r ?_
  refine wt trivial ?_;refine gz0 ?_;refine rt0 Tryz.ntmps119 ?_;exact⟨hEwA,_,rfl⟩
 refine gz (az4 s5 q5A yn0 (yef h16)) ?_;refine wf trivial ?_;refine gz0 ?_;refine zap (fun m σ ds B=>ds=[]/\∃(k:Nat),k+m=s.places.length/\σ 8=vi k/\σ 5= .pointer (some ⟨b5,0,.none⟩)/\Ext w3 B) s.places.length ?_ ?_
 ·exact⟨rfl,0,by omega,vr0,vq1 s5,hEA⟩
 clear s1 s2 s5 q5A hEwA hEA;rintro m2 σ2 ds2 B ⟨rfl,k,hkm,s8,s5,hEB⟩;have hEwB:=hE23.trans hEB;have q5B:=zaa hEB q53;refine gz (az4 s8 s5 q5B yn0) ?_;refine wc0 ?_ ?_
 rotate_left
 ·intro _;refine gz0 ?_;refine rt0 Tryz.ntmps119 ?_;exact⟨hEwB,_,rfl⟩
 intro hlt;simp only[ydT]at hlt;have hk:k<s.places.length:=by omega
 have hk0:=cj k;have hk1':=ci k;obtain⟨xp,xk,xk1,ov,rfl,hxk,hxk1,f0,ho,f1⟩:=hpl k hk;obtain⟨fo,fp⟩:=fs3 _ (List.getElem_mem hk);have hz1:adr (some xk) 0=some xk:=zaj _;have f0B:=zaa hEwB f0;repeat refine c_r ?_
 refine rc (an9 s8 s5 q5B yn0 hk0 hlt hxk hz1 f0B) (zbt B ov _ (ho.ext hEwB) fo.lb9.1 fo.lb9.2) ?_;rintro _ B1 ⟨rfl,hE4⟩;refine re trivial ?_;have hEB1:=hEB.trans hE4;have hEwB1:=hE23.trans hEB1;have q5B1:=zaa hEB1 q53;have f1B1:=zaa hEwB1 f1;repeat refine c_r ?_
 by_cases hck2:zaD s.places[k].o=0
 rotate_left
 ·refine rg1 (yef hck2) ?_;repeat refine c_r ?_
  refine wt Bool.not_false ?_;refine gz0 ?_;refine rt0 Tryz.ntmps119 ?_;exact⟨hEwB1,_,rfl⟩
 refine gz (yet hck2) ?_;refine wf Bool.not_true ?_;repeat refine c_r ?_
 refine rc (an9 s8 s5 q5B1 yn0 hk0 hlt hxk hxk1 f1B1) (RPath_ok B1 (l:=s.places[k].path) (by omega)) ?_;rintro _ B2 ⟨hE5,t,rfl⟩;refine re trivial ?_;have hEB2:=hEB1.trans hE5;repeat refine c_r ?_
 cases t with
 |false=>
  refine wt Bool.not_false ?_;refine gz0 ?_;refine rt0 Tryz.ntmps119 ?_;exact⟨hE23.trans hEB2,_,rfl⟩
 |true=>
 refine wf Bool.not_true ?_;refine gz0 ?_;refine zap (fun m σ ds C=>ds=[]/\∃(j:Nat),j+m=k/\σ 9=vi j/\σ 8=vi k/\σ 5= .pointer (some ⟨b5,0,.none⟩)/\Ext w3 C) k ?_ ?_
 ·exact⟨rfl,0,by omega,vr0,vq1 s8,vq1 s5,hEB2⟩
 clear s8 s5;rintro m3 σ3 ds3 C ⟨rfl,j,hjm,s9,s8,s5,hEC⟩;have hEwC:=hE23.trans hEC;refine gz (az2 s9 s8) ?_;refine wc0 ?_ ?_
 rotate_left
 ·intro _;refine gz (az2 s8 hk1') ?_;exact⟨m2 - 1,by omega,rfl,k+1,by omega,vq0,vq1 s5,hEC⟩
 intro hlt2;simp only[ydT]at hlt2;have hj:j<s.places.length:=by omega
 have hj0:=cj j;have hj1:(j:Int)<(s.places.length:Int):=by omega
 have hj1':=ci j;obtain⟨xp',xj,_,ov',hpe,hxj,_,e0,ho',_⟩:=hpl j hj;injection hpe with hpe
 subst hpe;obtain⟨fo',_⟩:=fs3 _ (List.getElem_mem hj);have hz2:adr (some xj) 0=some xj:=zaj _;repeat refine c_r ?_
 refine zaJ (fun _=>false) [(0,true),(1,true),(2,true),(3,true),(4,true),(5,true),(6,true),(7,true),(8,true),(9,true),(10,true),(11,true),(12,false)] NoS mixed (by kernel_rfl) ?_;intro gd K x hgd hx hxe hK;clear hxe;have hW:=hEwC.trans hx;have q5x:=zaa (hEC.trans hx) q53;have f0x:=zaa hW f0;have e0x:=zaa hW e0;refine sgz (az2 (az7 s9 s8 s5 q5x yn0 hk0 hlt) (az2 (az7 hj0 hj1 hxk hxj hz1 hz2 f0x) e0x)) ?_;refine Fn.mono (zbO x ov' ov _ _ (ho'.ext hW) (ho.ext hW) fo'.m.LB fo.m.LB (by have:=fo'.len;omega) (by have:=fo.len;omega)) ?_;rintro _ y ⟨rfl,hy⟩;refine⟨.inr hy,?_⟩;refine sg0 ?_;apply hK;refine wcz ?_ ?_
 ·intro _;refine gz0 ?_;refine rt0 Tryz.ntmps119 ?_;exact⟨hW.trans hy,_,rfl⟩
 ·intro _;refine gz (az2 s9 hj1') ?_;exact⟨m3 - 1,by omega,rfl,j+1,by omega,vq0,vq1 s8,vq1 s5,(hEC.trans hx).trans hy⟩
structure zmm(c:zha):Prop where
 ne:c.roots≠ []
 inn:∀r∈c.roots,0<=r/\r<(c.servers.length:Int)
theorem zit(w:World){cs:List Value}{c:zha}(hc:ConfAt w cs c)(hf:FewC c):
  Fn Tryz.prog 67 #[.agg cs.toArray] w (fun v w'=>Ext w w'/\∃a e,v= .tuple #[vi a,vi e]/\(e=0->zmm c)):=by
 have hc0:=hc;obtain⟨sv,rv,rfl,hs,hr⟩:=hc.ex;obtain⟨aS,cS,rfl,hat⟩:=zjc hs;obtain⟨ar,cr,rfl,_,hgr⟩:=hr;simp only[ylm,List.getElem_map]at hgr hc0 ⊢;have hsl:=hf.sl;have hrl:=hf.rl;refine enter Tryz.func67 Tryz.ntmps67 rfl rfl ?_;refine gz0 ?_;refine zaw ?_;intro w1 hE1 hs1 hA;have p0:zad w1 (some ⟨w.heap.size,0,.none⟩)=some (.slice aS c.servers.length cS):=zab hA rfl;have p1:zad w1 (some ⟨w.heap.size,1,.none⟩)=some (.slice ar c.roots.length cr):=zab hA rfl;have p2:zad w1 (some ⟨w.heap.size,2,.none⟩)=some (vi c.rw):=zab hA rfl;have p3:zad w1 (some ⟨w.heap.size,3,.none⟩)=some (vi c.rf):=zab hA rfl;have dC:zao w1 (some ⟨w.heap.size,0,.none⟩) 4=some [.slice aS c.servers.length cS,.slice ar c.roots.length cr,vi c.rw,vi c.rf]:=zaf hA rfl;repeat refine c_r ?_
 by_cases h1:(c.servers.length:Int)=0
 ·refine rgg [(4,14)] (an3 p0 Nat.add_zero (yet h1)) ?_;repeat refine c_r ?_
  refine wt trivial ?_;refine gz0 ?_;refine zas (by simp) Tryz.ntmps67 rfl (zal vr0 (zal vr0 zaq)) ?_;exact⟨hE1,_,_,rfl,fun h=>by cases h⟩
 by_cases h2:(c.roots.length:Int)=0
 ·refine rgg [(4,14)] (an6 p0 Nat.add_zero (yef h1) p1 yn0 (yet h2)) ?_;repeat refine c_r ?_
  refine wt trivial ?_;refine gz0 ?_;refine zas (by simp) Tryz.ntmps67 rfl (zal vr0 (zal vr0 zaq)) ?_;exact⟨hE1,_,_,rfl,fun h=>by cases h⟩
 refine rgg [(4,14)] (an6 p0 Nat.add_zero (yef h1) p1 yn0 (yef h2)) ?_;repeat refine c_r ?_
 refine wf trivial ?_;refine gz (az2 p0 Nat.add_zero) ?_;refine wc0 ?_ ?_
 ·intro _;refine gz0 ?_;refine zas (by simp) Tryz.ntmps67 rfl (zal vr0 (zal vr0 zaq)) ?_;exact⟨hE1,_,_,rfl,fun h=>by cases h⟩
 intro _;repeat refine c_r ?_
 refine zay (Q:=fun e σ' ds' v'=>e= .normal/\ds'=[]/\v'=w1/\σ' 1= .pointer (some ⟨w.heap.size,0,.none⟩)/\∃t,σ' 25= .bool t) ?_ ?_
 ·by_cases e0:c.rw<0
  ·refine rgg [(3,29),(8,34),(13,39)] (an3 p2 yn0 (yet e0)) ?_;exact⟨rfl,rfl,rfl,vq0,_,vr0⟩
  by_cases e1:c.rw>8
  ·refine rgg [(3,29),(8,34),(13,39)] (an4 p2 yn0 (yef e0) (yet e1)) ?_;exact⟨rfl,rfl,rfl,vq0,_,vr0⟩
  by_cases e2:c.rf<0
  ·refine rgg [(3,29),(8,34),(13,39)] (an6 p2 yn0 (yef e0) (yef e1) p3 (yet e2)) ?_;exact⟨rfl,rfl,rfl,vq0,_,vr0⟩
  refine rgg [(3,29),(8,34),(13,39)] (an6 p2 yn0 (yef e0) (yef e1) p3 (yef e2)) ?_;exact⟨rfl,rfl,rfl,vq0,_,vr0⟩
 rintro _ σ1 _ w2 ⟨rfl,rfl,rfl,s1,t,s25⟩;repeat refine c_r ?_
 cases t with
 |true=>
  refine wt s25 ?_;refine gz0 ?_;refine zas (by simp) Tryz.ntmps67 rfl (zal vr0 (zal vr0 zaq)) ?_;exact⟨hE1,_,_,rfl,fun h=>by cases h⟩
 |false=>
 refine wf s25 ?_;clear s25;refine gz0 ?_;refine zap (fun m σ ds A=>ds=[]/\∃(i:Nat),i+m=c.roots.length/\σ 4=vi i/\σ 1= .pointer (some ⟨w.heap.size,0,.none⟩)/\Ext w2 A/\∀j (h:j<c.roots.length),j<i->0<=c.roots[j]/\c.roots[j]<(c.servers.length:Int)) c.roots.length ?_ ?_
 ·exact⟨rfl,0,by omega,vr0,vq1 s1,Keep.refl _ _,fun j h h2=>absurd h2 (by omega)⟩
 clear s1;rintro m σ ds A ⟨rfl,i,him,s4,s1,hEA,ht⟩;have p1A:=zaa hEA p1;refine gz (az4 s4 s1 p1A yn0) ?_;refine wc0 ?_ ?_
 ·intro hlt;simp only[ydT]at hlt;have hi:i<c.roots.length:=by omega
  have hi0:=cj i;have hi1':=ci i;have g:=hgr i hi;obtain⟨x1,rfl⟩:=yxs (zag g);repeat refine c_r ?_
  refine zaJ (fun _=>false) [(0,true),(1,true),(2,true),(3,true),(4,true),(5,true),(6,true),(7,true),(8,true),(9,true),(10,true),(11,true),(12,true),(13,true),(14,true),(15,true),(16,true)] NoS mixed (by kernel_rfl) ?_;intro gd K x hgd hx hxe hK;clear hxe;have hg6:=gk 6 57 hgd rfl;have p1x:=zaa hx p1A;have p0x:=zaa (hEA.trans hx) p0;have gx:=zaa (hE1.trans (hEA.trans hx)) g;by_cases hneg:c.roots[i]<0
  ·simp (disch:=first|omega|assumption|rfl) only[go_sem,s4,s1,p1x,yn0,Nat.mul_one,hi0,hlt,gx,yet hneg,za5,↓hg6];refine en hK ?_;refine wt trivial ?_;refine gz0 ?_;refine zas (by simp) Tryz.ntmps67 rfl (zal vr0 (zal vr0 zaq)) ?_;exact⟨hE1.trans (hEA.trans hx),_,_,rfl,fun h=>by cases h⟩
  by_cases hbig:c.roots[i]>=(c.servers.length:Int)
  ·simp (disch:=first|omega|assumption|rfl) only[go_sem,s4,s1,p1x,p0x,yn0,Nat.add_zero,Nat.mul_one,hi0,hlt,gx,yef hneg,yet hbig,za5,↓hg6];refine en hK ?_;refine wt trivial ?_;refine gz0 ?_;refine zas (by simp) Tryz.ntmps67 rfl (zal vr0 (zal vr0 zaq)) ?_;exact⟨hE1.trans (hEA.trans hx),_,_,rfl,fun h=>by cases h⟩
  simp (disch:=first|omega|assumption|rfl) only[go_sem,s4,s1,p1x,p0x,yn0,Nat.add_zero,Nat.mul_one,hi0,hlt,gx,yef hneg,yef hbig,za5,↓hg6];refine en hK ?_;refine wf trivial ?_;refine gz (az2 s4 hi1') ?_;refine⟨m - 1,by omega,rfl,i+1,by omega,vq0,vq1 s1,hEA.trans hx,fun j hj hji=>?_⟩;by_cases hj2:j=i
  ·subst hj2;omega
  ·exact ht j hj (by omega)
 intro hge;simp only[ydF]at hge;have hro:zmm c:=⟨fun h=>by rw[h]at h2;exact h2 rfl,fun r hr=>by
  obtain⟨j,hj,rfl⟩:=List.mem_iff_getElem.1 hr;exact ht j hj (by omega)⟩
 clear him hge s4 ht p1A;refine gz0 ?_;refine zap (fun m σ ds B=>ds=[]/\∃(i:Nat),i+m=c.roots.length/\σ 5=vi i/\σ 1= .pointer (some ⟨w.heap.size,0,.none⟩)/\Ext w2 B) c.roots.length ?_ ?_
 ·exact⟨rfl,0,by omega,vr0,vq1 s1,hEA⟩
 clear s1 hEA;rintro m2 σ2 ds2 B ⟨rfl,i,him,s5,s1,hEB⟩;have p1B:=zaa hEB p1;refine gz (az4 s5 s1 p1B yn0) ?_;refine wc0 ?_ ?_
 ·intro hlt;simp only[ydT]at hlt;have hi:i<c.roots.length:=by omega
  have hi0:=cj i;have hi1':=ci i;have g:=hgr i hi;obtain⟨x1,rfl⟩:=yxs (zag g);refine gz0 ?_;refine zap (fun m σ ds C=>ds=[]/\∃(j:Nat),j+m=i/\σ 6=vi j/\σ 5=vi i/\σ 1= .pointer (some ⟨w.heap.size,0,.none⟩)/\Ext w2 C) i ?_ ?_
  ·exact⟨rfl,0,by omega,vr0,vq1 s5,vq1 s1,hEB⟩
  clear s5 s1;rintro m3 σ3 ds3 C ⟨rfl,j,hjm,s6,s5,s1,hEC⟩;have p1C:=zaa hEC p1;refine gz (az2 s6 s5) ?_;refine wc0 ?_ ?_
  ·intro hlt2;simp only[ydT]at hlt2;have hj:j<c.roots.length:=by omega
   have hj0:=cj j;have hj1:(j:Int)<(c.roots.length:Int):=by omega
   have hj1':=ci j;have gj:=hgr j hj;repeat refine c_r ?_
   refine zaJ (fun _=>false) [(0,true),(1,true),(2,true),(3,true),(4,true),(5,true),(6,true),(7,true),(8,true),(9,true),(10,true)] NoS mixed (by kernel_rfl) ?_;intro gd K x hgd hx hxe hK;clear hxe;have p1x:=zaa hx p1C;have gx:=zaa (hE1.trans (hEC.trans hx)) g;have gjx:=zaa (hE1.trans (hEC.trans hx)) gj;refine sgz (az2 (az7 s6 s5 s1 p1x yn0 Nat.mul_one hi0) (az5 hlt hj0 hj1 gx gjx)) ?_;apply hK;refine wcz ?_ ?_
   ·intro _;refine gz0 ?_;refine zas (by simp) Tryz.ntmps67 rfl (zal vr0 (zal vr0 zaq)) ?_;exact⟨hE1.trans (hEC.trans hx),_,_,rfl,fun h=>by cases h⟩
   ·intro _;refine gz (az2 s6 hj1') ?_;exact⟨m3 - 1,by omega,rfl,j+1,by omega,vq0,vq1 s5,vq1 s1,hEC.trans hx⟩
  ·intro _;refine gz (az2 s5 hi1') ?_;exact⟨m2 - 1,by omega,rfl,i+1,by omega,vq0,vq1 s1,hEC⟩
 intro hge;clear him hge s5 p1B;refine gz0 ?_;refine zap (fun m σ ds B=>ds=[]/\∃(i:Nat),i+m=c.servers.length/\σ 7=vi i/\σ 1= .pointer (some ⟨w.heap.size,0,.none⟩)/\Ext w2 B) c.servers.length ?_ ?_
 ·exact⟨rfl,0,by omega,vr0,vq1 s1,hEB⟩
 clear s1 hEB;rintro m3 σ3 ds3 C ⟨rfl,i,him,s7,s1,hEC⟩;have p0C:=zaa hEC p0;have dCC:=zac hEC dC;refine gz (az4 s7 s1 p0C Nat.add_zero) ?_;refine wc0 ?_ ?_
 ·intro hlt;simp only[ydT]at hlt;have hi:i<c.servers.length:=by omega
  have hi1':=ci i;repeat refine c_r ?_
  refine rc (an3 s7 s1 dCC) (zmk C (hc0.ext (hE1.trans hEC)) hf hi) ?_;rintro _ C1 ⟨hE2,e,rfl⟩;refine re trivial ?_;repeat refine c_r ?_
  by_cases he:e=0
  ·refine rg1 (yet he) ?_;repeat refine c_r ?_
   refine wf Bool.not_true ?_;refine gz (az2 s7 hi1') ?_;exact⟨m3 - 1,by omega,rfl,i+1,by omega,vq0,vq1 s1,hEC.trans hE2⟩
  ·refine rg1 (yef he) ?_;repeat refine c_r ?_
   refine wt Bool.not_false ?_;refine gz s7 ?_;refine zas (by simp) Tryz.ntmps67 rfl (zal vr0 (zal vr0 zaq)) ?_;exact⟨hE1.trans (hEC.trans hE2),_,_,rfl,fun h=>absurd h he⟩
 ·intro _;refine gz0 ?_;refine zas (by simp) Tryz.ntmps67 rfl (zal vr0 (zal vr0 zaq)) ?_;exact⟨hE1.trans hEC,_,_,rfl,fun _=>hro⟩
theorem zcR(w:World):zdX 2 (PlaceC w):=by
 refine⟨fun h=>?_,fun h=>?_⟩
 ·obtain⟨ov,rfl,_⟩:=h.ex;rfl
 ·obtain⟨ov,rfl,h1⟩:=h.ex;intro q hq;simp at hq;rcases hq with rfl|rfl
  ·exact h1.isOne
  ·rfl
def gxC(cs:List Value)(x:SrvL×(Value×List Value)):Prop:=cs=x.2.2/\cs.length=6/\∀q∈cs,one q=true
theorem ze9:zdX 6 gxC:=⟨fun h=>h.2.1,fun h=>h.2.2⟩
structure SrvX(w0 A:World)(pv:Value)(cs:List Value)(s:SrvL):Prop where
 ex:∃nv a b c d,cs=[nv,zae a,zae b,zae c,zae d,pv]/\s.addr=[a,b,c,d]/\Row w0 nv (s.host.map vs)/\Rows 2 (PlaceC w0) A pv s.places
theorem SrvX.keep{w0 A A':World}{pv:Value}{cs:List Value}{s:SrvL}(h:SrvX w0 A pv cs s){S:Nat->Prop}(hk:Keep S A A')(hS:∀a n c,pv= .slice (some a) n c->a.block<A.heap.size/\¬S a.block):SrvX w0 A' pv cs s:=by
 obtain⟨nv,a,b,c,d,e,ha,h1,h2⟩:=h.ex;exact⟨nv,a,b,c,d,e,ha,h1,h2.blocks fun a n c hv=>hk.block _ (hS a n c hv).1 (hS a n c hv).2⟩
structure GS(w0:World)(e:TypeId)(B:Nat)(A:World)(ov:Value)(G:List (SrvL×(Value×List Value))):Prop where
 own:Owns 6 gxC B A e ov G
 row:∀x∈G,SrvX w0 A x.2.1 x.2.2 x.1/\BlkB B A x.2.1/\∀a n c,x.2.1= .slice (some a) n c->some a.block≠ov.ownBlock
theorem GS.keep{w0 A A':World}{e:TypeId}{B:Nat}{ov:Value}{G:List (SrvL×(Value×List Value))}(h:GS w0 e B A ov G){S:Nat->Prop}(hk:Keep S A A')(hS:∀b,B<=b->b<A.heap.size->¬S b):GS w0 e B A' ov G:=
 ⟨h.own.keep hk (fun b hb=>hS b (h.own.ge hb).1 (h.own.ge hb).2),fun x hx=>by
  obtain⟨h1,h2,h3⟩:=h.row x hx;exact⟨h1.keep hk (fun a n c hv=>⟨(h2 a n c hv).2,hS _ (h2 a n c hv).1 (h2 a n c hv).2⟩),h2.ext hk.size,h3⟩⟩
theorem GS.ext{w0 A A':World}{e:TypeId}{B:Nat}{ov:Value}{G:List (SrvL×(Value×List Value))}(h:GS w0 e B A ov G)(hE:Ext A A'):GS w0 e B A' ov G:=h.keep hE (fun _ _ _ h=>h)
theorem GS.app{w0 A A1 A2:World}{e:TypeId}{B:Nat}{ov ov':Value}{G:List (SrvL×(Value×List Value))}{x:SrvL×(Value×List Value)}(h:GS w0 e B A ov G)(hE:Ext A A1)(hB:B<=A.heap.size)
  (hx:SrvX w0 A1 x.2.1 x.2.2 x.1) (hxb:BlkB A.heap.size A1 x.2.1) (ho:Owns 6 gxC B A2 e ov' (G++ [x])) (hk:Keep (fun b=>some b=ov.ownBlock) A1 A2) (hb:∀b,some b=ov'.ownBlock->some b=ov.ownBlock\/A1.heap.size<=b):GS w0 e B A2 ov' (G++ [x]):=by
 refine⟨ho,fun y hy=>?_⟩;have h1:=h.ext hE;have hge:∀b,some b=ov.ownBlock->b<A.heap.size:=fun b hb=>(h.own.ge hb).2;have hy2:SrvX w0 A1 y.2.1 y.2.2 y.1/\BlkB B A1 y.2.1/\∀a n c,y.2.1= .slice (some a) n c->some a.block≠ov.ownBlock:=by
  rcases List.mem_append.1 hy with hy|hy
  ·exact h1.row y hy
  ·rw[List.mem_singleton.1 hy];exact⟨hx,hxb.mono hB,fun a n c hv hbb=>by have:=hge _ hbb;have:=(hxb a n c hv).1;omega⟩
 obtain⟨g1,g2,g3⟩:=hy2;refine⟨g1.keep hk (fun a n c hv=>⟨(g2 a n c hv).2,g3 a n c hv⟩),g2.ext hk.size,fun a n c hv hbb=>?_⟩;rcases hb _ hbb with e|e
 ·exact g3 a n c hv e
 ·have:=(g2 a n c hv).2;omega
theorem GS.rows{w0 A:World}{e:TypeId}{B:Nat}{ov:Value}{G:List (SrvL×(Value×List Value))}(h:GS w0 e B A ov G)(hE:Ext w0 A):Rows 6 (SrvC A) A ov (G.map Prod.fst):=by
 obtain⟨L,h1,h2,h3⟩:=h.own.rows;refine⟨L,h1,by rw[h2,ylm],fun i hi hi'=>?_⟩;have hi2:i<G.length:=by omega
 obtain⟨e1,_⟩:=h3 i hi hi2;obtain⟨g1,_⟩:=h.row _ (List.getElem_mem hi2);obtain⟨nv,a,b,c,d,e2,ha,g2,g3⟩:=g1.ex;rw[e1,e2,List.getElem_map];exact⟨nv,a,b,c,d,_,rfl,ha,g2.ext hE,g3.to fun _ _ h=>h.ext hE⟩
structure IP(w0:World)(es ep:TypeId)(b5:Nat)(nv:Value)(a b c d:UInt8)(A0 v:World)(pv:Value)(ps:List zfY):Prop where
 h:v.heap[b5]? =some (.cells #[nv,zae a,zae b,zae c,zae d,pv] es (0,0))
 own:Owns 2 (PlaceC w0) (b5+1) v ep pv ps
 e:Ext A0 v
 lo:A0.heap.size<=b5
theorem IP.app{w0 A0 v v1 v2 v3:World}{es ep:TypeId}{b5:Nat}{nv pv pv':Value}{a b c d:UInt8}{ps:List zfY}{p:zfY}(h:IP w0 es ep b5 nv a b c d A0 v pv ps)(hE:Ext v v1)
  (ho:Owns 2 (PlaceC w0) (b5+1) v2 ep pv' (ps++ [p])) (hk:Keep (fun b=>some b=pv.ownBlock) v1 v2) (h3:v3.heap[b5]? =some (.cells #[nv,zae a,zae b,zae c,zae d,pv'] es (0,0))) (hk3:Keep (fun b=>b=b5) v2 v3):IP w0 es ep b5 nv a b c d A0 v3 pv' (ps++ [p]):=by
 have lo:=h.lo;have e2:Ext A0 v2:=Keep.to_ext (h.e.trans hE) rfl (fun b hb=>by have:=(h.own.ge hb).1;omega) hk;exact⟨h3,ho.keep hk3 (fun b hb hb2=>by have:=(ho.ge hb).1;omega),Keep.to_ext e2 rfl (fun b hb=>by omega) hk3,lo⟩
theorem Of15_ok(w:World){cs:List Value}{c:zha}(hc:ConfAt w cs c)(hf:FewC c):
  Fn Tryz.prog 68 #[.agg cs.toArray] w (fun v w'=>Ext w w'/\∃cs',v= .agg cs'.toArray/\ConfAt w' cs' c):=by
 obtain⟨sv,rv,rfl,hs,hr⟩:=hc.ex;obtain⟨aS,cS,rfl,hat⟩:=zjc hs;have hr0:=hr;have r1:=hr.isOne;obtain⟨ar,cr,hrv,_,hgr⟩:=hr;have hsl:=hf.sl;refine enter Tryz.func68 Tryz.ntmps68 rfl rfl ?_;repeat refine c_r ?_
 rw[hrv];refine rg0 ?_;rw[←hrv];repeat refine c_r ?_
 rw[zai];refine zaF ?_;intro w1 hE1 hs1 hA hC;have p0:zad w1 (some ⟨w.heap.size,0,.none⟩)=some (.slice aS c.servers.length cS):=zab hA rfl;have p1:zad w1 (some ⟨w.heap.size,1,.none⟩)=some rv:=zab hA rfl;have p2:zad w1 (some ⟨w.heap.size,2,.none⟩)=some (vi c.rw):=zab hA rfl;have p3:zad w1 (some ⟨w.heap.size,3,.none⟩)=some (vi c.rf):=zab hA rfl;refine rqz ?_;intro gd K hgd hK;refine sgz (az4 p1 p2 p3 yn0) ?_;refine⟨by kernel_rfl,?_⟩;rw[hrv,show bdV Tryz.prog 137 [(1,.slice ar (c.roots.map vi).length cr),(2,vi c.rw),(3,vi c.rf)]=some (.agg #[.slice .none 0 0,.slice ar (c.roots.map vi).length cr,vi c.rw,vi c.rf]) from by kernel_rfl,←hrv];try simp only[go_sem]
 refine zaV (P:=Tryz.prog) (l:=[.slice .none 0 0,rv,vi c.rw,vi c.rf]) rfl (fun v hv=>by simp at hv;rcases hv with rfl|rfl|rfl|rfl<;>first|exact r1|rfl) rfl rfl ?_;intro w2 hE2 hs2 hD;try simp only[go_sem]
 apply hK;obtain⟨c3,hc3⟩:∃b,w1.heap.size=b:=⟨_,rfl⟩;rw[hc3]at hD hs2 ⊢;have hE12:=hE1.trans hE2;have p0w:=zaa hE2 p0;refine gz0 ?_;refine zap (fun m σ ds A=>ds=[]/\∃(i:Nat) (ov:Value) (G:List (SrvL×(Value×List Value))),i+m=c.servers.length/\σ 4=vi i/\σ 1= .pointer (some ⟨w.heap.size,0,.none⟩)/\σ 2= .pointer (some ⟨w.heap.size+1,0,.none⟩)/\σ 3= .pointer (some ⟨c3,0,.none⟩)/\Ext w1 A/\c3+1<=A.heap.size/\
  A.heap[c3]? =some (.cells #[ov,rv,vi c.rw,vi c.rf] 137 (0,0))/\GS w 217 (c3+1) A ov G/\G.map Prod.fst=c.servers.take i) c.servers.length ?_ ?_
 ·exact⟨rfl,0,.slice .none 0 0,[],by omega,vr0,vq0,vq0,vq0,hE2,by omega,hD,⟨Owns.nil _ _ _ _ _,fun x h=>by cases h⟩,rfl⟩
 rintro m σ ds A ⟨rfl,i,ov,G,him,s4,s1,s2,s3,hEA,hAs,hB3,hGS,hGf⟩;have p0A:=zaa hEA p0;refine gz (az4 s4 s1 p0A Nat.add_zero) ?_;refine wc0 ?_ ?_
 ·intro hlt;simp only[ydT]at hlt;have hi:i<c.servers.length:=by omega
  have hi0:=cj i;have hi1':=ci i;obtain⟨xa,xi,x5,nv,ap,cp,rfl,hxi,hx5,g0,hn,g5,⟨b1,b2,b3,b4,hadr,hcs⟩,hpr,hpl⟩:=hat i hi;obtain⟨s,hse⟩:∃s,c.servers[i]=s:=⟨_,rfl⟩;obtain⟨fs1,fs2,fs3⟩:=hf.s s (hse▸List.getElem_mem hi);rw[hse]at hn g5 hadr hcs hpr;simp only[hse]at hpl;have n1:=hn.isOne;have hz0:adr (some xi) 0=some xi:=zaj _;obtain⟨y1,hy1⟩:∃y,adr (some xi) 1=some y:=⟨_,rfl⟩;have gby:zao w (some y1) 4=some [zae b1,zae b2,zae b3,zae b4]:=by
   have h5:=za9 (m:=1) (k:=5) hcs;rw[hy1]at h5;exact zch (m:=4) (k:=1) h5
  obtain⟨an,cn,hnv,_⟩:=id hn;repeat refine c_r ?_
  refine zaJ (fun i=>i==14) [(0,true),(1,true),(2,true),(3,true),(4,true),(5,true),(6,true),(7,true),(8,true),(9,true),(10,true),(11,true),(12,true),(13,false),(14,false)] NoS mixed (by kernel_rfl) ?_;intro gd K x hgd hx hxe hK;clear hxe;have hwx:=hE1.trans (hEA.trans hx);have p0x:=zaa hx p0A;have g0x:=zaa hwx g0;have gbx:=zac hwx gby;refine sgz (az2 (az7 s4 s1 p0x Nat.add_zero hi0 hlt hxi) (az4 hz0 hy1 g0x gbx)) ?_;refine⟨by kernel_rfl,?_⟩;rw[hnv,show bdV Tryz.prog 217 [(0,.slice an (s.host.map vs).length cn),(1,.agg #[zae b1,zae b2,zae b3,zae b4])]=some (.agg #[.slice an (s.host.map vs).length cn,zae b1,zae b2,zae b3,zae b4,.slice .none 0 0]) from by kernel_rfl,←hnv];refine sg0 ?_;refine⟨.inr (Ext.alloc x _),?_⟩;refine zaV (P:=Tryz.prog) (l:=[nv,zae b1,zae b2,zae b3,zae b4,.slice .none 0 0]) rfl (fun v hv=>by simp at hv;rcases hv with rfl|rfl|rfl|rfl|rfl|rfl<;>first|exact n1|rfl) rfl rfl ?_;intro A1 hE3 hs3 hB5;refine⟨.inl rfl,?_⟩;refine sg0 ?_;apply hK;have hx3:=hx.trans hE3;obtain⟨b5,hb5⟩:∃b,x.heap.size=b:=⟨_,rfl⟩;have hsx:=hx.size;rw[hb5]at hB5 hs3 hsx ⊢;have hIP:IP w 217 219 b5 nv b1 b2 b3 b4 A A1 (.slice .none 0 0) []:=⟨hB5,Owns.nil _ _ _ _ _,hx3,hsx⟩;clear p0x g0x gbx hx hx3 hwx hE3 hB5;refine gz0 ?_
  refine zap (fun m σ ds v=>ds=[]/\∃(k:Nat) (pv:Value),k+m=s.places.length/\σ 6=vi k/\σ 4=vi i/\σ 1= .pointer (some ⟨w.heap.size,0,.none⟩)/\σ 2= .pointer (some ⟨w.heap.size+1,0,.none⟩)/\σ 3= .pointer (some ⟨c3,0,.none⟩)/\σ 5= .pointer (some ⟨b5,0,.none⟩)/\
   IP w 217 219 b5 nv b1 b2 b3 b4 A v pv (s.places.take k)/\b5+1<=v.heap.size) s.places.length ?_ ?_
  ·exact⟨rfl,0,_,by omega,vr0,vq1 s4,vq1 s1,vq1 s2,vq1 s3,vq0,hIP,by omega⟩
  clear s4 s1 s2 s3 hIP;rintro m2 σ2 ds2 v ⟨rfl,k,pv,hkm,s6,s4,s1,s2,s3,s5,hIP,hvs⟩;have hEv:=hEA.trans hIP.e;have hwv:=hE1.trans hEv;have p0v:=zaa hEv p0;have g5v:=zaa hwv g5;refine gz (az2 (az7 s6 s4 s1 (an3 p0v Nat.add_zero g5v) hi0 hlt hxi) (az2 hx5 trivial)) ?_;refine wc0 ?_ ?_
  ·intro hlt2;simp only[ydT]at hlt2;have hk:k<s.places.length:=by omega
   have hk0:=cj k;have hk1':=ci k;obtain⟨xp,xk,xk1,ow,rfl,hxk,hxk1,f0,ho,f1⟩:=hpl k hk;have hz1:adr (some xk) 0=some xk:=zaj _;obtain⟨ao,co,how,_⟩:=id ho;have q5:zad v (some ⟨b5,5,.none⟩)=some pv:=zab hIP.h rfl;have lo:=hIP.lo;repeat refine c_r ?_
   refine zaJ (fun i=>i==26) [(0,true),(1,true),(2,true),(3,true),(4,true),(5,true),(6,true),(7,true),(8,true),(9,true),(10,true),(11,true),(12,true),(13,true),(14,true),(15,true),(16,true),(17,true),(18,true),(19,true),(20,true),(21,true),(22,true),(23,false),(24,false),(25,true),(26,false)] (zbA (b5+1)) mixed (by kernel_rfl) ?_;intro gd K x hgd hx hxe hK;have hx0:=zej hxe;clear hxe;have hwx:=hwv.trans hx0;have p0x:=zaa hx0 p0v;have g5x:=zaa hwx g5;have f0x:=zaa hwx f0;have f1x:=zaa hwx f1;have q5x:=zaa hx0 q5;refine sgz (az2 (az7 s6 s4 s1 s5 p0x Nat.add_zero yn0) (az2 (az7 hi0 hlt hk0 hlt2 hxi hx5 hxk) (az6 hz1 hxk1 g5x f0x f1x q5x))) ?_;have l5:x5.block<b5+1:=by have:=zcC (show w.cell? x5=some _ from g5);have:=hwv.size;have:=hE1.size;have:=hEA.size;omega
   have lk:xk.block<b5+1:=by have:=zcC (show w.cell? xk=some _ from f0);have:=hE1.size;have:=hEA.size;omega
   have lk1:xk1.block<b5+1:=by have:=zcC (show w.cell? xk1=some _ from f1);have:=hE1.size;have:=hEA.size;omega
   have lw:w.heap.size<b5+1:=by have:=hE1.size;have:=hEA.size;omega
   refine⟨zcy (by omega),zcy lw,zdc l5,zdc lk,zcy lw,zdc l5,zdc lk1,by kernel_rfl,?_⟩;rw[how,show bdV Tryz.prog 219 [(0,.slice ao (s.places[k].o.map vs).length co),(1,vs s.places[k].path)]=some (.agg #[.slice ao (s.places[k].o.map vs).length co,vs s.places[k].path]) from by kernel_rfl,←how];refine sg0 ?_;refine zaN (zcR w) (l:=[ow,vs s.places[k].path]) (a:=s.places[k]) (by rfl) (by rfl) (by rfl) (by rfl) ⟨ow,rfl,ho⟩ (by decide) ?_;intro v1 hE4 hs4' ho4;refine⟨.inr hE4.keep,?_⟩;refine sg0 ?_;have hx04:=hx0.trans hE4;have hsz4:=hx04.size;refine zaG (zcR w) (hIP.own.ext hx04) ho4.rows (by rfl) (by rfl) (by rfl) (by rfl) (by rfl) (by rfl) (by decide) vr0 vr0 (by simp;omega) (by decide) (by omega) ?_;intro pv' v2 ho5 hE5 hk5 hb5';refine⟨.inr (hk5.mono fun b _ hb=>(hIP.own.ge hb).1),?_⟩;obtain⟨ap',cp',hpv',_⟩:=ho5.rows.open;refine sgz (az2 s5 yn0) ?_;refine zaT (P:=Tryz.prog) (t:=215) (j:=5) (u:=pv') (l:=[nv,zae b1,zae b2,zae b3,zae b4,pv]) ((hk5.block _ (by omega) (fun hb=>by have:=(hIP.own.ge hb).1;omega)).trans (Ext.at hx04 hIP.h)) (by simp) (by rw[hpv'];rfl) rfl rfl ?_;intro v3 hs3' hB3' hk3';refine⟨.inl rfl,?_⟩;refine sg0 ?_;apply hK;have hIPn:=hIP.app hx04 ho5 hk5 hB3' hk3';have hs5:=hk5.size;refine gz (az2 s6 hk1') ?_;refine⟨m2 - 1,by omega,rfl,k+1,pv',by omega,vq0,vq1 s4,vq1 s1,vq1 s2,vq1 s3,vq1 s5,?_,by omega⟩;rw[zam hk];exact hIPn
  ·intro hge2;simp only[ydF]at hge2;have hfull:s.places.take k=s.places:=List.take_of_length_le (by omega);rw[hfull]at hIP;obtain⟨ap',cp',hpv',_⟩:=hIP.own.rows.open;have lo:=hIP.lo;have dB:zao v (some ⟨b5,0,.none⟩) 6=some [nv,zae b1,zae b2,zae b3,zae b4,pv]:=zaf hIP.h rfl;have q3:zad v (some ⟨c3,0,.none⟩)=some ov:=zab (Ext.at hIP.e hB3) rfl;have ones6:∀q∈ [nv,zae b1,zae b2,zae b3,zae b4,pv],one q=true:=fun q hq=>by
    simp at hq;rcases hq with rfl|rfl|rfl|rfl|rfl|rfl<;>first|exact n1|rfl| (rw[hpv'];rfl)
   have hGl:G.length=i:=by
    have:=congrArg List.length hGf;simp at this;omega
   refine rqz ?_;intro gd K hgd hK;refine sgz (az5 s3 s5 q3 dB Nat.add_zero) ?_;refine zaN (C:=gxC) ze9 (l:=[nv,zae b1,zae b2,zae b3,zae b4,pv]) (a:=(s,(pv,[nv,zae b1,zae b2,zae b3,zae b4,pv]))) (by rfl) (by rfl) (by rfl) (by rfl) ⟨rfl,rfl,ones6⟩ (by decide) ?_;intro v1 hE4 hs4' ho4;try simp only[go_sem]
   have hAv1:=hIP.e.trans hE4;have hsA1:=hAv1.size;refine zaG ze9 ((hGS.ext hAv1).own) ho4.rows (by rfl) (by rfl) (by rfl) (by rfl) (by rfl) (by rfl) (by decide) vr0 vr0 (by simp;omega) (by decide) (by omega) ?_;intro ov' v2 ho5 hE5 hk5 hb5';obtain⟨ao',co',hov',_⟩:=ho5.rows.open;refine sgz (az2 s3 Nat.add_zero) ?_;refine zaT (P:=Tryz.prog) (t:=135) (j:=0) (u:=ov') (l:=[ov,rv,vi c.rw,vi c.rf]) ((hk5.block _ (by omega) (fun hb=>by have:=(hGS.own.ge hb).1;omega)).trans (Ext.at hAv1 hB3)) (by simp) (by rw[hov'];rfl) rfl rfl ?_;intro v3 hs3' hB3' hk3';try simp only[go_sem]
   apply hK;have hGS2:=hGS.app hAv1 hAs (x:=(s,(pv,[nv,zae b1,zae b2,zae b3,zae b4,pv]))) ⟨nv,b1,b2,b3,b4,rfl,hadr,hn,hIP.own.rows.ext hE4⟩ ((hIP.own.blk.mono (by omega)).ext hE4.size) ho5 hk5 hb5';have hGS3:=hGS2.keep hk3' (fun b h1 _ h2=>by omega);have hs5:=hk5.size;refine gz (az2 s4 hi1') ?_;refine⟨m - 1,by omega,rfl,i+1,ov',_,by omega,vq0,vq1 s1,vq1 s2,vq1 s3,Keep.to_ext (hE5 w1 (hEA.trans hAv1) (by omega)) rfl (fun b hb=>by omega) hk3',by omega,hB3',hGS3,?_⟩;rw[zam hi,List.map_append,hGf,hse];rfl
 ·intro hge;simp only[ydF]at hge;rw[List.take_of_length_le (by omega)]at hGf;have hEw:=hE1.trans hEA;have hrows:=hGS.rows hEw;rw[hGf]at hrows;have o1:=hrows.isOne;have dx:=zaf (n:=4) (l:=[ov,rv,vi c.rw,vi c.rf]) hB3 rfl;refine rqz ?_;intro gd K hgd hK;refine sgz (az3 s3 s2 dx) ?_;refine zaC (P:=Tryz.prog) (t:=137) (l:=[ov,rv,vi c.rw,vi c.rf]) (Ext.at hEA hC) rfl (fun v hv=>by simp at hv;rcases hv with rfl|rfl|rfl|rfl<;>first|exact r1|exact o1|rfl) rfl rfl ?_;intro z hsz hBz hkz;try simp only[go_sem]
  refine en hK ?_;refine zas (.inr rfl) Tryz.ntmps68 rfl (zaI (x:=⟨w.heap.size+1,0,.none⟩) (k:=4) ((vq1 s2)) rfl rfl (zaf hBz rfl) zaq) ?_;have hEz:Ext w z:=Keep.to_ext hEw rfl (fun b hb=>by omega) hkz;have hGz:=(hGS.keep hkz (fun b h1 _ h2=>by omega)).rows hEz;rw[hGf]at hGz;exact⟨hEz,_,rfl,ov,rv,rfl,hGz,hr0.ext hEz⟩
section
variable {P : Program} {d : Option Tmp} {ty : TypeId} {ps : String} {af : Array Edge} {g : Option (Nat × Bool)} {ρ : Operand -> Value} {w : World} {K : Value -> World -> Prop}
theorem op_field{s:TypeId}{x:Operand}{f:Nat}{fs:Array Field}{fd:Field}{cs:Array Value}{v:Value}(hs:P.underlying s=some (.struct fs))(hf:fs[f]? =some fd)(ha:tyA P fd.type=false)(hu:(P.underlying fd.type).isSome=true)
  (hx:ρ x= .agg cs) (hv:cs[fd.offset]? =some v) (h:K v w):opV P ⟨d,.field s x f,ty,ps,af,g⟩ ρ w K:=by
 show opW P _ ρ w K;refine zaM (s:=Instr.field s (ρ x) f) (w':=w) (v:=v) ?_ h;obtain⟨u,hu⟩:=yxs hu;have hi:(isAgg fd.type).run P w= .ok false w:=by
  unfold tyA at ha;rw[hu]at ha;cases u<;>first| (cases ha;done)|simp[isAgg,underlying,program,Sem.run,hu]
 have hp:(part fd.type cs fd.offset).run P w= .ok v w:=by
  unfold part;simp only[Sem.run_bind,hi,Result.andThen_ok,Bool.false_eq_true,if_false,hv,Sem.run_pure]
 unfold Instr.field;simp[underlying,program,Sem.run,hs,hf,hx,asAgg];exact hp
end
end Go.Proofs.YtahbdamijngmmaaGreat
