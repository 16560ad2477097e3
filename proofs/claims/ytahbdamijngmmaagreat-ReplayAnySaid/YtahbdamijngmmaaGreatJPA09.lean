/-
  Texts of a proof, joined: O9, OA, TP, H0, A0, M2, L1, M3b, M3, A1, A2, A3, A4, A5, A6, A7, X2, KR, KR2, G8, L3.
  Conditions: none.
-/
import Derived.Test.YtahbdamijngmmaaGreatJPA08
import Derived.Test.YtahbdamijngmmaaGreatJPA02
import Derived.Test.YtahbdamijngmmaaGreatJPA07
import Derived.Test.YtahbdamijngmmaaGreatProg
import Derived.Ground.SlsfProg
import Derived.Shelf.SlSortCmp.NoneTotal
import Derived.Test.YtahbdamijngmmaaGreatJPA03
import Derived.Test.YtahbdamijngmmaaGreatJPA04
set_option linter.unusedVariables false
set_option linter.unusedSimpArgs false
set_option linter.defProp false
set_option linter.unnecessarySimpa false
set_option maxHeartbeats 8000000
namespace Go.Proofs.YtahbdamijngmmaaGreat
open Go
set_option maxRecDepth 10000
theorem zkq(w:World)(A B C D:Obj):Ext w ((((w.alloc A).alloc B).alloc C).alloc D)/\((((w.alloc A).alloc B).alloc C).alloc D).heap.size=w.heap.size+4/\((((w.alloc A).alloc B).alloc C).alloc D).heap[w.heap.size]? =some A/\
  ((((w.alloc A).alloc B).alloc C).alloc D).heap[w.heap.size+1]? =some B/\((((w.alloc A).alloc B).alloc C).alloc D).heap[w.heap.size+2]? =some C/\((((w.alloc A).alloc B).alloc C).alloc D).heap[w.heap.size+3]? =some D:=by
 obtain⟨h1,h2,h3,h4,h5⟩:=zdV w A B C;have hE:=Ext.alloc (((w.alloc A).alloc B).alloc C) D;have hD:=zau (((w.alloc A).alloc B).alloc C) D;rw[h2]at hD;exact⟨h1.trans hE,by rw[zai,h2],Ext.at hE h3,Ext.at hE h4,Ext.at hE h5,hD⟩
theorem zjL(w:World){nv qv tv cv:Value}:Fn Tryz.prog 91 #[nv,qv,tv,cv] w (fun v w'=>v= .func (.func 146) #[] #[.pointer (some ⟨w.heap.size,0,.none⟩),.pointer (some ⟨w.heap.size+1,0,.none⟩),.pointer (some ⟨w.heap.size+3,0,.none⟩),.pointer (some ⟨w.heap.size+2,0,.none⟩)]/\Ext w w'/\w'.heap.size=w.heap.size+4/\
  w'.heap[w.heap.size]? =some (.cells nv.cells 25 (0,0))/\w'.heap[w.heap.size+1]? =some (.cells qv.cells 27 (0,0))/\w'.heap[w.heap.size+2]? =some (.cells tv.cells 3 (0,0))/\w'.heap[w.heap.size+3]? =some (.cells cv.cells 23 (0,0))):=by
 refine enter Tryz.func91 Tryz.ntmps91 rfl rfl ?_;refine go trivial ?_;obtain⟨hE,hs,hA,hB,hC,hD⟩:=zkq w (.cells nv.cells 25 (0,0)) (.cells qv.cells 27 (0,0)) (.cells tv.cells 3 (0,0)) (.cells cv.cells 23 (0,0));refine rt0 Tryz.ntmps91 ?_;exact⟨by simp only[zai],hE,hs,hA,hB,hC,hD⟩
theorem Play_ok{w0 w:World}(hE0:Ext w0 w){cs:List Value}{N:NetL}{qv cv:Value}{q:Nm}{ch:List Int}{t:Int}(hN:NetAt w0 cs N)(hG:zby N)(hq:Row w qv (q.map vs))(hgq:zbX q=true)(hcv:Row w cv (ch.map vi))(hchl:ch.length<=1000000000):
  Fn Tryz.prog 40 #[.agg cs.toArray,qv,vi t,cv] w (fun v w'=>Ext w w'/\∃nv,v= .tuple #[.agg (stV nv (zcJ N q t ch).1).toArray,.bool (zcJ N q t ch).2]/\Row w' nv ((zcJ N q t ch).1.name.map vs)):=by
 obtain⟨hsv,rv,rfl,hh,hr⟩:=id hN.ex;obtain⟨ah,ch0,hhv,_⟩:=hh.open;obtain⟨ar0,cr0,hrv,_⟩:=id hr;obtain⟨aq,cq,hqe,_⟩:=id hq;obtain⟨ac,cc,hce,_⟩:=id hcv;refine enter Tryz.func40 Tryz.ntmps40 rfl rfl ?_;rw[hhv,hrv];refine go trivial ?_;rw[zai,zai,zai];refine zcz ?_;rw[←hhv,←hrv];intro w1 hE1 hs1 hA hB hC;obtain⟨b,hb⟩:∃b,w.heap.size=b:=⟨_,rfl⟩;rw[hb]at hA hB hC hs1 ⊢;rw[show b+1+1=b+2 from rfl]at hC ⊢;refine rq ?_;intro gd K hgd hK;try simp only[go_sem]
 rw[hs1];refine zkP ?_;intro z hEz hsz hD;rw[hs1]at hD;refine zda rfl rfl rfl hD (by simp) (by simp) ?_;intro w2 hs2 hD2 hk2;try simp only[go_sem]
 apply hK;have hE2:Ext w1 w2:=Keep.to_ext hEz rfl (fun i hi=>by omega) hk2;have hA2:=Ext.at hE2 hA;have hB2:=Ext.at hE2 hB;have hC2:=Ext.at hE2 hC;have hz2:=(Array.getElem?_eq_some_iff.1 hD2).1;have dn:zan w2 (some ⟨b,0,.none⟩) 4=some [hsv,rv,vi N.rw,vi N.rf]:=zae hA2 rfl;have hEw2:=hE1.trans hE2;clear hEz hsz hD hs2 hk2 hA hB hC;refine go trivial ?_;refine rc dn (zjL w2) ?_;rintro _ w3 ⟨rfl,hE3,hs3,k1,k2,k3,k4⟩;refine rgo trivial ?_;have k2':w3.heap[w2.heap.size+1]? =some (.cells #[qv] 27 (0,0)):=by rw[k2,hqe];rfl
 have k4':w3.heap[w2.heap.size+3]? =some (.cells #[cv] 23 (0,0)):=by rw[k4,hce];rfl
 have hB3:=Ext.at hE3 hB2;have hC3:=Ext.at hE3 hC2;have hD3:=Ext.at hE3 hD2;have hEw3:=hEw2.trans hE3;obtain⟨S,hS⟩:∃S:Nat->Prop,S=fun i=>(i=b+1\/i=b+2\/i=b+3)\/(w3.heap.size<=i/\i<w3.heap.size+2):=⟨_,rfl⟩;refine zek (own:=0) (n0:=w3.heap.size) (C:=fun i=>i=b+1\/i=b+2\/i=b+3) (W0:=w3) vq0 (by rfl)
  (zlc (w0:=w0) (w1:=w) (t:=t) (ch:=ch) (q:=q) hE0 hEw3 k1 k2' k4' k3 (fun i hi=>by omega) (by omega) hN hG hq hgq hcv hchl) (Keep.refl _ _) (ynl _) (fun i hi=>by omega)
  (fun x U A args h=>by obtain⟨nv,rfl,_⟩:=h;rfl)
  (fun pre U v=>(∀i,¬U i)/\∃nv,v.heap[b+1]? =some (.cells (stV (.slice .none 0 0) stZ).toArray 80 (0,0))/\v.heap[b+2]? =some (.cells (stV nv (pre.getLastD (stZ,false)).1).toArray 80 (0,0))/\v.heap[b+3]? =some (.cells #[.bool (pre.getLastD (stZ,false)).2] 4 (0,0))/\RowY S v nv ((pre.getLastD (stZ,false)).1.name.map vs)/\Ext w v)
  (fun _ _ _=>False) ?_ ?_ ?_ ?_ ?_ ?_
 ·rintro pre U A B ⟨hU,nv,h1,h2,h3,h4,h5⟩ _ hk;have l1:=(Array.getElem?_eq_some_iff.1 h3).1;have hno:∀i,i<w3.heap.size->¬span w3.heap.size (2+0) i:=fun i h1 h2=>by unfold span at h2;omega
  refine⟨hU,nv,(hk.block _ (by omega) (hno _ (by omega))).trans h1,(hk.block _ (by omega) (hno _ (by omega))).trans h2,(hk.block _ (by omega) (hno _ (by omega))).trans h3,h4.turn (hk.mono fun i _ h=>by rw[hS];unfold span at h;exact .inr (by omega)) fun _ h=> .inl h,Keep.to_ext h5 rfl (fun i hi=>by unfold span at hi;omega) hk⟩
 ·rintro c pre A B h _;exact h
 ·exact⟨fun _ h=>h,.slice .none 0 0,hB3,hC3,hD3,⟨⟨.none,0,rfl,ynl _,fun j h=>by simp[stZ]at h⟩,fun h=>absurd rfl h⟩,hEw3⟩
 ·rintro lp pre U x A args ⟨suf,hsp⟩ hszA ⟨hU,nv,h1,h2,h3,h4,h5⟩ _ ⟨xv,rfl,hx⟩;have hxS:RowY S A xv (x.1.name.map vs):=hx.turn (Keep.refl _ _) fun i h=>by rw[hS]at h;exact .inl (.inl h)
  have hl:(pre++ [x]).getLastD (stZ,false)=x:=by rw[List.getLastD_eq_getLast?];simp
  have l3:=(Array.getElem?_eq_some_iff.1 h3).1;refine go trivial ?_;refine rq ?_;intro gd K hgd hK;try simp only[go_sem]
  refine zaD (P:=Tryz.prog) (l:=stV xv x.1) h2 rfl (zbs hx.1.isOne) rfl rfl ?_;intro A1 hs1 hA1 hk1;try simp only[go_sem]
  apply hK;refine go trivial ?_;refine rq ?_;intro gd K hgd hK;try simp only[go_sem]
  refine zda rfl rfl rfl ((hk1.block _ (by omega) (by omega)).trans h3) (by simp) (by simp) ?_;intro A2 hs2 hA2 hk2;try simp only[go_sem]
  apply hK;have hk12:Keep (fun i=>i=b+2\/i=b+3) A A2:=(hk1.mono fun i _ h=> .inl h).trans (hk2.mono fun i _ h=> .inr h);refine⟨rfl,hk12.mono fun i _ h=> .inl (.inr h),fun A3 hk3=>?_⟩;have hno:∀i,i<w3.heap.size->¬two w3.heap.size i:=fun i h1 h2=>by unfold two at h2;omega
  refine go trivial ?_;have hz2:=hk12.size;refine⟨U,⟨hU,xv,?_,?_,?_,?_,?_⟩,fun i h=> .inl h,Keep.refl _ _⟩
  ·exact(hk3.block _ (by omega) (hno _ (by omega))).trans ((hk12.block _ (by omega) (by omega)).trans h1)
  ·rw[hl];exact(hk3.block _ (by omega) (hno _ (by omega))).trans ((hk2.block _ (by omega) (by omega)).trans hA1)
  ·rw[hl];exact(hk3.block _ (by omega) (hno _ (by omega))).trans hA2
  ·rw[hl];exact(hxS.turn (hk12.mono fun i _ h=>by rw[hS];exact .inl (.inr h)) fun _ h=> .inl h).turn (hk3.mono fun i _ h=>by rw[hS];unfold two at h;exact .inr (by omega)) fun _ h=> .inl h
  ·exact Keep.to_ext (Keep.to_ext h5 rfl (fun i hi=>by omega) hk12) rfl (fun i hi=>by unfold two at hi;omega) hk3
 ·rintro xs U v rfl hsz _ ⟨hU,nv,h1,h2,h3,h4,h5⟩ hDv;have hp:(zbi N t ch (zcd N q)).getLastD (stZ,false)=zcJ N q t ch:=rfl;rw[hp]at h2 h3 h4;obtain⟨L,hL⟩:∃L,zcJ N q t ch=L:=⟨_,rfl⟩;rw[hL]at h2 h3 h4 ⊢;have d2:zan v (some ⟨b+2,0,.none⟩) 6=some [vi L.1.sv,nv,vi L.1.rw,vi L.1.rf,.bool L.1.ref,vi L.1.fin]:=zae (l:=stV nv L.1) h2 rfl;have d3:zad v (some ⟨b+3,0,.none⟩)=some (.bool L.2):=zab (i:=0) h3 rfl;have l3:=(Array.getElem?_eq_some_iff.1 h3).1;refine go trivial ?_;refine zaJ (fun _=>false) [(0,true),(1,true),(2,false),(3,true)] ((fun i=>i=b+1)) mixed (by kernel_rfl) ?_;intro gd K x hgd hx hxe hK;have hx0:=zez hxe;clear hxe;have d2x:=zac hx0 d2;have d3x:=zaa hx0 d3;refine sgz (az2 d2x d3x) ?_;refine⟨fun a ha hb=>by cases ha;dsimp only at hb;omega,fun a ha hb=>by cases ha;dsimp only at hb;omega,?_⟩;refine zaD (P:=Tryz.prog) (l:=stV nv L.1) (Ext.at hx0 h1) rfl (zbs h4.1.isOne) rfl rfl ?_;intro y hsy hB8 hky;refine⟨.inr (hky.mono fun i _ h=>h),?_⟩;refine sg0 ?_;apply hK;refine go trivial ?_;have hxs:=hx0.size;have hys:=hky.size;refine zbz (.inr rfl) Tryz.ntmps40 rfl ((hky.block _ (by omega) (by omega)).trans (Ext.at hx0 hDv)) ?_;intro y2 hk2 hs2;have hB9:=(hk2.block _ (by omega) (by omega)).trans hB8;have hkxy:Keep (fun i=>i=b+1\/i=w3.heap.size) x y2:=(hky.mono fun i _ h=> .inl h).trans (hk2.mono fun i _ h=> .inr h);have hrow:Row y2 nv (L.1.name.map vs):=by
   by_cases hl:L.1.name=[]
   ·have h6:=h4.1;rw[hl]at h6 ⊢;obtain⟨a1,c1,e1,e2,_⟩:=h6;exact⟨a1,c1,e1,e2,fun j hj=>absurd hj (by simp)⟩
   ·refine h4.1.blocks fun a n c e=>?_;obtain⟨k1,k2⟩:=h4.2 (fun h=>hl (by simpa using h)) a n c e;exact(hk2.block _ (by omega) (fun h=>k2 (by rw[hS];exact .inr (by omega)))).trans ((hky.block _ (by omega) (fun h=>k2 (by rw[hS];exact .inl (.inl h)))).trans (hx0.block _ k1 (fun h=>h)))
  exact⟨_,zaI (x:=⟨b+1,0,.none⟩) (k:=6) vr0 rfl rfl (zae (l:=stV nv L.1) hB9 rfl) (zam (v:= .bool L.2) vr0 zap),Keep.to_ext (h5.trans hx0) rfl (fun i hi=>by have:=hEw3.size;omega) hkxy,nv,rfl,hrow⟩
 ·rintro c pre x v _ _ h;exact h.elim
section
variable {names : List Nm} (hcl : ∀ l f, l :: f ∈ names -> f ∈ names) (hnd : names.Nodup)
include hcl
include hnd
end
structure FLab where
 val:Lab
 fold:zbf val=val
 len:val.length<=9000000000000000000
instance:Inhabited FLab:=⟨⟨[],rfl,by decide⟩⟩
section
variable {H : Type} {enc : TypeId × Value -> H} {P : Program} {w : World} {base : Nat} {sp : Nat -> Bool} {held : Bool}
def RdC(enc:TypeId×Value->H)(P:Program)(w:World)(base:Nat)(sp:Nat->Bool)(held:Bool)(t:TypeId)(cs:List Value):Prop:=∃n x,DataW.trod enc P w base sp held n t cs=some x/\∀k∈x.1.weights P t,k<=reachBytes
theorem RdC.one{t:TypeId}{v:Value}(h:RdC enc P w base sp held t [v]):Rd enc P w base sp held t v:=h
theorem Rd.c{t:TypeId}{v:Value}(h:Rd enc P w base sp held t v):RdC enc P w base sp held t [v]:=h
theorem zhX{a:Addr}:∀(k i:Nat) {l:List Value},l.length=k->(∀j (h:j<l.length),w.cell? (a.add (i+j))=some l[j])->zaQ w a i k=some l
 |0,_,l,hl,_=>by
  have:l=[]:=List.length_eq_zero_iff.1 hl;subst this;rfl
 |k+1,i,l,hl,h=>by
  cases l with
  |nil=>cases hl
  |cons v l=>
   have h0:=h 0 (by simp);have ih:=zhX (l:=l) k (i+1) (by simpa using hl) (fun j hj=>by
    have:=h (j+1) (by simpa using hj);rw[show i+(j+1)=i+1+j from by omega]at this;simpa using this)
   unfold zaQ;rw[Nat.add_zero]at h0;rw[h0,ih];rfl
theorem zfq{t e:TypeId}{k:Nat}{v:Value}(h:Rd enc P w base sp held t v)(ht:P.underlying t=some (.slice e))(hc:P.cellsOf e=k):
  ∃L,RowK k w v L/\(∀cs∈L,RdC enc P w base sp held e cs)/\L.length*P.bytesOf e<=reachBytes:=by
 obtain⟨n,x,h,hw⟩:=h;rcases Go.Deep.open_slice ht h with ⟨h1,_⟩| ⟨a,len,cap,m,q,D,Pl,h1,_,hl,hm,hmm,rfl,hx⟩
 ·simp only[List.cons.injEq,and_true]at h1;subst h1;exact⟨[],⟨.none,0,rfl,ynl _,fun j h=>by simp at h⟩,fun u h=>(by cases h),by simp⟩
 ·simp only[List.cons.injEq,and_true]at h1;subst h1;have hml:len<=m:=by rw[hmm];split<;>omega
  simp only[DataW.weights,ht]at hw;rw[hc]at hx;obtain⟨V,hV⟩:=Go.Deep.choose_lt (α:=List Value) (p:=fun i cs=>w.cells? base (a.add (i*k)) k=some cs/\DataW.trod enc P w base sp held q e cs=some (D i,Pl i)) hx;refine⟨(List.range len).map V,⟨some a,cap,by simp,by simpa using hl,fun j hj=>?_⟩,fun u hu=>?_,?_⟩
  ·simp at hj;obtain⟨_,h2,h3⟩:=World.cells?_some (hV j (by omega)).1;have e1:((List.range len).map V)[j]'(by simpa using hj)=V j:=by simp
   rw[e1];show zaQ w (a.add (j*k)) 0 k=_;refine zhX k 0 h2 (fun i hi=>?_);rw[yn0,h3 i (by omega)];exact List.getElem?_eq_getElem hi
  ·obtain⟨j,hj,rfl⟩:=List.mem_map.1 hu;simp at hj;refine⟨_,_,(hV j (by omega)).2,fun q hq=>hw q (List.mem_cons_of_mem _ (List.mem_append_left _ (zcT (d:=D j) ?_ hq)))⟩;exact List.mem_map.2 ⟨j,by simpa using hj,rfl⟩
  ·have h1:=hw _ (List.mem_cons_self ..);have h2:((List.range len).map V).length*P.bytesOf e<=(((List.range len).map D).length+((List.range (m - len)).map fun j=>D (len+j)).length)*P.bytesOf e:=Nat.mul_le_mul (by simp) (ynl _);omega
theorem zdv{e:TypeId}{fs:Array Field}{cs:List Value}(h:RdC enc P w base sp held e cs)(he:P.underlying e=some (.struct fs)):cs.length=P.cellsOf e/\∀(i:Nat) (f:Field),fs[i]? =some f->RdC enc P w base sp held f.type ((cs.drop f.offset).take (P.cellsOf f.type)):=by
 obtain⟨n,x,h,hw⟩:=h;obtain⟨xs,m,_,rfl,hl,hxl,hf⟩:=DataW.trod_struct he h;refine⟨hl,fun i f hfi=>?_⟩;have hi:i<fs.size:=(Array.getElem?_eq_some_iff.1 hfi).1;have h1:=hf i f hfi;rw[List.getElem?_eq_getElem (by omega)]at h1;refine⟨m,_,h1,fun k hk=>hw k ?_⟩;simp only[DataW.weights,he];refine DataW.weights_mem_each (ts:=fs.toList.map (·.type)) (ds:=xs.map (·.1)) (j:=i) (t:=f.type) (d:=xs[i].1) ?_ ?_ k hk
 ·rw[List.getElem?_map];rw[show fs.toList[i]? =some f from by simpa using hfi];rfl
 ·rw[List.getElem?_map,List.getElem?_eq_getElem (by omega)];rfl
theorem zfr{t:TypeId}{k:IntKind}{cs:List Value}(h:RdC enc P w base sp held t cs)(ht:P.underlying t=some (.int k)):∃n,cs=[.int k n]/\(Lit.int k n).wf=true:=by
 obtain⟨n,x,h,_⟩:=h;obtain⟨m,h1,_,h2⟩:=DataW.trod_int ht h;exact⟨m,h1,h2⟩
end
set_option maxRecDepth 100000
section
variable {H : Type} {enc : TypeId × Value -> H} {P : Program} {w : World} {base : Nat} {sp : Nat -> Bool} {held : Bool}
theorem zgJ{t e:TypeId}{k:IntKind}{v:Value}(h:Rd enc P w base sp held t v)(ht:P.underlying t=some (.slice e))(hc:P.cellsOf e=1)(he:P.underlying e=some (.int k)):∃l:List Int,Row w v (l.map (.int k))/\∀n∈l,(Lit.int k n).wf=true:=by
 obtain⟨vals,hr,hall,_⟩:=zgI h ht hc;obtain⟨m,rfl,hm⟩:=ziB (f:=fun n=>Value.int k n) (Q:=fun n=>(Lit.int k n).wf=true) (fun u hu=>by
  obtain⟨n,h1,h2⟩:=zfr (hall u hu).c he;exact⟨n,by simpa using h1,h2⟩)
 exact⟨m,hr,hm⟩
theorem wf_u32{n:Int}(h:(Lit.int .u32 n).wf=true):0<=n/\n<=4294967295:=by
 simp[Lit.wf,IntKind.min,IntKind.max,IntKind.signed,IntKind.bits]at h;omega
theorem wf_u8{n:Int}(h:(Lit.int .u8 n).wf=true):0<=n/\n<=255:=by
 simp[Lit.wf,IntKind.min,IntKind.max,IntKind.signed,IntKind.bits]at h;omega
theorem bytes_of{l:List Int}(h:∀n∈l,(Lit.int .u8 n).wf=true):∃m:List UInt8,l.map (Value.int .u8)=m.map zaf:=by
 induction l with
 |nil=>exact⟨[],rfl⟩
 |cons n l ih=>
  obtain⟨m,hm⟩:=ih (fun x hx=>h x (List.mem_cons_of_mem _ hx));have hb:=wf_u8 (h n (List.mem_cons_self ..));obtain⟨k,rfl⟩:∃k:Nat,n=(k:Int):=⟨n.toNat,by omega⟩;exact⟨UInt8.ofNat k::m,by rw[List.map_cons,List.map_cons,hm,zcx (by omega)]⟩
theorem rd_data{cs:List Value}(h:RdC enc Tryz.prog w base sp held 197 cs):∃d:DatL,DatAt w cs d/\∀n∈d.nums,0<=n/\n<=4294967295:=by
 obtain⟨hl,hf⟩:=zdv h rfl;have hl5:cs.length=5:=hl
 match cs,hl5 with
 | [c0,c1,c2,c3,c4],_=>
  obtain⟨ty,e0,_⟩:=zfr (hf 0 _ rfl) rfl;obtain⟨names,n1,_⟩:=rd_names (P:=Tryz.prog) (ts:=27) (tb:=9) (RdC.one (hf 1 _ rfl)) rfl rfl rfl rfl rfl rfl;obtain⟨nums,n2,n3⟩:=zgJ (RdC.one (hf 2 _ rfl)) rfl rfl rfl;obtain⟨texts,n4,_⟩:=zep (P:=Tryz.prog) (RdC.one (hf 3 _ rfl)) (e:=9) rfl rfl rfl rfl;obtain⟨raw,n5,n6⟩:=zgJ (RdC.one (hf 4 _ rfl)) rfl rfl rfl;obtain⟨rb,hrb⟩:=bytes_of n6;rw[hrb]at n5;have e0':c0=vi ty:=List.head_eq_of_cons_eq (show [c0]=[vi ty] from e0);exact⟨⟨ty,names,nums,texts,rb⟩,⟨c1,c2,c3,c4,by rw[e0'],n1,n2,n4,n5⟩,fun n hn=>wf_u32 (n3 n hn)⟩
theorem rd_rec{cs:List Value}(h:RdC enc Tryz.prog w base sp held 201 cs):∃r:RecL,RecAt w cs r/\∀n∈r.dat.nums,0<=n/\n<=4294967295:=by
 obtain⟨hl,hf⟩:=zdv h rfl;have hl7:cs.length=7:=hl
 match cs,hl7 with
 | [c0,c1,c2,c3,c4,c5,c6],_=>
  obtain⟨owner,n0,_⟩:=zep (P:=Tryz.prog) (RdC.one (hf 0 _ rfl)) (e:=9) rfl rfl rfl rfl;obtain⟨ttl,e1,_⟩:=zfr (hf 1 _ rfl) rfl;obtain⟨d,hd,hn⟩:=rd_data (hf 2 _ rfl);have e1':c1=v32 ttl:=List.head_eq_of_cons_eq (show [c1]=[v32 ttl] from e1);have hd':DatAt w [c2,c3,c4,c5,c6] d:=hd;exact⟨⟨owner,ttl,d⟩,⟨c0,[c2,c3,c4,c5,c6],by rw[e1'],n0,hd'⟩,hn⟩
theorem rd_recs{v:Value}(h:Rd enc Tryz.prog w base sp held 120 v):∃R:List RecL,Rows 7 (RecAt w) w v R/\NumR R:=by
 obtain⟨L,hL,hall,_⟩:=zfq h (e:=201) (k:=7) rfl rfl;have:∀L:List (List Value),(∀cs∈L,RdC enc Tryz.prog w base sp held 201 cs)->∃R:List RecL,L.length=R.length/\(∀i (h:i<L.length) (h':i<R.length),RecAt w L[i] R[i])/\NumR R:=fun L=>by
  induction L with
  |nil=>intro _;exact⟨[],rfl,fun i h=>by simp at h,fun r h=>by cases h⟩
  |cons cs L ih=>
   intro h;obtain⟨r,h1,h2⟩:=rd_rec (h cs (List.mem_cons_self ..));obtain⟨R,a1,a2,a3⟩:=ih (fun x hx=>h x (List.mem_cons_of_mem _ hx));refine⟨r::R,by simp[a1],fun i a b=>?_,fun x hx=>?_⟩
   ·cases i with
    |zero=>exact h1
    |succ i=>exact a2 i (by simpa using a) (by simpa using b)
   ·rcases List.mem_cons.1 hx with rfl|hx
    ·exact h2
    ·exact a3 x hx
 obtain⟨R,a1,a2,a3⟩:=this L hall;exact⟨R,⟨L,hL,a1,a2⟩,a3⟩
end
end Go.Proofs.YtahbdamijngmmaaGreat
