/-
  Texts of a proof, joined: U7, U8, U9, UA, UB, UC, UD, X0, X1, X2, UE, UF, KC, KN.
  Conditions: none.
-/
import Derived.Test.YtopbbjdembnfdaaGreatJN12
import Derived.Test.YtopbbjdembnfdaaGreatJN11
import Derived.Test.YtopbbjdembnfdaaGreatJN10
import Derived.ProofKit
import Derived.OpenShut
import Derived.SizedLaws
import Derived.Deep.Slices
import Derived.Test.YtopbbjdembnfdaaGreatJN02
set_option linter.unusedVariables false
set_option linter.unusedSimpArgs false
set_option linter.defProp false
set_option linter.unnecessarySimpa false
namespace Go.Proofs.YtopbbjdembnfdaaGreat
open Go
set_option maxRecDepth 10000
def zcB(to:Nm)(l:List (Nm×List DatL)):List DatL:=l.foldl (fun b g=>if zaq g.1=zaq to then g.2 else b) []
def zff(N:NetL)(r:ResL)(s:zax)(h:Nm):List zax:=((zdX N h (zcB h r.glue)).map fun k=>{s with sv:=k,ref:=true})++(if ((zdX N h (zcB h r.glue)).length:Int)=0 then endS s 9 else [])
def zg2(N:NetL)(s:zax)(r:ResL):List zax:=if s.rf≥N.rf then endS s 8 else(r.data.filterMap fun d=>d.names.head?).flatMap (zff N r {s with rf:=s.rf+1})
theorem zjs{to:Nm}{l:List (Nm×List DatL)}:zcB to l=[]∨∃g∈l,zcB to l=g.2:=by
 unfold zcB
 suffices h:∀(l:List (Nm×List DatL)) (b:List DatL),l.foldl (fun b g=>if zaq g.1=zaq to then g.2 else b) b=b∨∃g∈l,l.foldl (fun b g=>if zaq g.1=zaq to then g.2 else b) b=g.2 from h l []
 intro l
 induction l with
 |nil=>exact fun b=> .inl rfl
 |cons x l ih=>
  intro b
  rw[List.foldl_cons]
  split
  ·rcases ih x.2 with h| ⟨g,hg,h⟩
   ·exact .inr ⟨x,List.mem_cons_self ..,h⟩
   ·exact .inr ⟨g,List.mem_cons_of_mem _ hg,h⟩
  ·rcases ih b with h| ⟨g,hg,h⟩
   ·exact .inl h
   ·exact .inr ⟨g,List.mem_cons_of_mem _ hg,h⟩
theorem zia{to:Nm}{l:List (Nm×List DatL)}{i:Nat}(hi:i<l.length):zcB to (l.take (i+1))=if zaq l[i].1=zaq to then l[i].2 else zcB to (l.take i):=by
 unfold zcB
 rw[zao hi,List.foldl_append]
 rfl
theorem zkI{N:NetL}{r:ResL}{s x:zax}{h:Nm}(hx:x∈zff N r s h):x.name=s.name:=by
 unfold zff at hx
 rcases List.mem_append.1 hx with h|h
 ·obtain⟨k,_,rfl⟩:=List.mem_map.1 h;rfl
 ·split at h
  ·exact za5 h
  ·cases h
set_option maxHeartbeats 4000000 in
theorem zhK{w0 w:World}(hE0:Ext w0 w){cs cr:List Value}{N:NetL}{r:ResL}(hN:NetAt w0 cs N)(hG:NetZ N){nv:Value}{s:zax}(hr:Row w nv (s.name.map vs))(hres:ResAt w0 w cr r)(kr:zjM r)(kl:r.data.length≤1000)(hne:∀d∈r.data,∃n l,d.names=n::l∧NmM n)(b0:0≤s.rf)(b1:s.rf≤1000000):
  Fn Tryz.prog 105 #[.agg cs.toArray,.agg (stV nv s).toArray,.agg cr.toArray] w (fun v w'=>Ext w w'∧Rows 6 (StC w') w' v (zg2 N s r)):=by
 have hN0:=hN
 obtain⟨hv,rv,rfl,hh,hro⟩:=hN.ex
 obtain⟨ah,ch,hhv,_⟩:=hh.open
 obtain⟨ar,cr1,hrv,_⟩:=id hro
 obtain⟨an,cn,hnv,_⟩:=id hr
 have n1:=hr.isOne
 obtain⟨dv,qv,gv,rfl,hd,hq,hg⟩:=hres.ex
 obtain⟨ad,cd,rfl,hcd,hgd2⟩:=hd.open
 obtain⟨aq,cq,hqv,_⟩:=id hq
 obtain⟨ag,cg,rfl,hcg,hgg⟩:=hg.open
 have gl:=kr.gl
 unfold stV
 refine enter Tryz.func105 Tryz.ntmps105 rfl rfl ?_
 repeat refine c_r ?_
 rw[hhv,hrv,hnv,hqv]
 refine rg0 ?_
 rw[←hhv,←hrv,←hnv,←hqv]
 repeat refine c_r ?_
 rw[zam,zam,zam]
 refine zdt ?_
 intro w1 hE1 hs1 hA hB hC
 have p3:zaf w1 (some ⟨w.heap.size+1,3,Option.none⟩)=some (vi s.rf):=zac hB rfl
 have q3:zaf w1 (some ⟨w.heap.size,3,Option.none⟩)=some (vi N.rf):=zac hA rfl
 have dB:zat w1 (some ⟨w.heap.size+1,0,Option.none⟩) 6=some (stV nv s):=zah hB rfl
 repeat refine c_r ?_
 unfold zg2
 by_cases hge:s.rf≥N.rf
 ·rw[if_pos hge]
  refine rg4 p3 q3 Nat.zero_add (decide_eq_true hge) ?_
  repeat refine c_r ?_
  refine wt trivial ?_
  repeat refine c_r ?_
  refine rc dB (zb3 w1 (hr.ext hE1) s 8) ?_
  rintro v w2 ⟨hE2,hv2⟩
  refine re trivial ?_
  repeat refine c_r ?_
  refine rt0 Tryz.ntmps105 ?_
  exact⟨hE1.trans hE2,zbp hv2 fun x hx=>by rw[za5 hx];exact hr.ext (hE1.trans hE2)⟩
 rw[if_neg hge]
 refine rg4 p3 q3 Nat.zero_add (decide_eq_false hge) ?_
 repeat refine c_r ?_
 refine wf trivial ?_
 repeat refine c_r ?_
 refine rq ?_;intro gd K hgd hK
 try simp (disch:=first|omega|assumption|rfl) only[go_sem,p3,Nat.zero_add]
 refine zaV (P:=Tryz.prog) (t:=3) (j:=3) (u:=vi (s.rf+1)) (l:=stV nv s) hB (by show 3<6;decide) rfl rfl rfl ?_
 intro w2 hs2 hB2 hk2
 try simp only[go_sem]
 refine hK _ _ ?_;clear hK hgd;clear K;try clear gd
 obtain⟨s2,hs2e⟩:∃s2:zax,{s with rf:=s.rf+1}=s2:=⟨_,rfl⟩
 have hB2':w2.heap[w.heap.size+1]? =some (.cells (stV nv s2).toArray 82 (0,0)):=by rw[←hs2e];exact hB2
 have hE2:Ext w w2:=Keep.to_ext hE1 rfl (fun b hb=>by omega) hk2
 have hC2:=(hk2.block _ (by omega) (by omega)).trans hC
 have hA2:=(hk2.block _ (by omega) (by omega)).trans hA
 have mn:s2.name=s.name:=by rw[←hs2e]
 rw[hs2e]
 have dN:zat w2 (some ⟨w.heap.size,0,Option.none⟩) 4=some [hv,rv,vi N.rw,vi N.rf]:=zah hA2 rfl
 have dS:zat w2 (some ⟨w.heap.size+1,0,Option.none⟩) 6=some (stV nv s2):=zah hB2' rfl
 have c1:zaf w2 (some ⟨w.heap.size+1+1,1,Option.none⟩)=some (.slice ad r.data.length cd):=zac hC2 rfl
 have c4:zaf w2 (some ⟨w.heap.size+1+1,4,Option.none⟩)=some (.slice ag r.glue.length cg):=zac hC2 rfl
 clear hA hB hC hA2 hB2 hB2' hC2 hk2 p3 q3 dB
 repeat refine c_r ?_
 refine rg0 ?_
 repeat refine c_r ?_
 refine rg0 ?_
 repeat refine c_r ?_
 obtain⟨b4,hb4⟩:∃b,w.heap.size+1=b:=⟨_,rfl⟩
 have hs2':=hE2.size
 rw[hb4]at dS c1 c4 ⊢
 refine zap (fun m σ ds A=>ds=[]∧∃(i:Nat) (ov:Value) (l:List zax),i+m=r.data.length∧σ 8=vi i∧σ 7=ov∧σ 3= .pointer (some ⟨w.heap.size,0,Option.none⟩)∧σ 4= .pointer (some ⟨b4,0,Option.none⟩)∧σ 5= .pointer (some ⟨b4+1,0,Option.none⟩)∧l=((r.data.take i).filterMap fun d=>d.names.head?).flatMap (zff N r s2)∧l.length≤i*1001∧
  Owns 6 (StN nv) w2.heap.size A 82 ov l∧Ext w2 A) r.data.length ?_ ?_
 ·exact⟨rfl,0,.slice Option.none 0 0,[],by omega,vr0,vr0,vr0,vr0,vr0,rfl,Nat.le_refl _,Owns.nil _ _ _ _ _,Keep.refl _ _⟩
 rintro m σ ds A ⟨rfl,i,ov,l,him,s8,s7,s3,s4,s5,hl,hll,hown,hEA⟩
 have c1A:=zab hEA c1
 repeat refine c_r ?_
 refine rg4 s8 s5 c1A Nat.zero_add ?_
 repeat refine c_r ?_
 refine wc0 ?_ ?_
 ·intro hlt
  simp only[decide_eq_true_eq]at hlt
  have hi:i<r.data.length:=by omega
  have hi0:(0:Int)≤(i:Int):=by omega
  have hi1':(i:Int)+1=((i+1:Nat):Int):=by push_cast;rfl
  have hz0:(0:Int)≤(0:Int):=by omega
  obtain⟨c3,hc3,hD⟩:=hgd2 i hi
  obtain⟨nm,nu,tx,rw',rfl,hnm,_,_,_⟩:=hD.ex
  obtain⟨hn,hnl,hne1,hnm1⟩:=hne _ (List.getElem_mem hi)
  obtain⟨vals,⟨an2,cn2,rfl,hcn2,hgn2⟩,hvl,hvr⟩:=hnm
  rw[hne1]at hvl
  simp only[List.length_cons]at hvl
  have hv0:0<vals.length:=by omega
  obtain⟨tv,htv⟩:∃v,vals[0]=v:=⟨_,rfl⟩
  have hrow:Row w0 tv (hn.map vs):=by
   have:=hvr 0 hv0 (by rw[hne1];simp)
   simp only[hne1,List.getElem_cons_zero]at this
   rwa [htv]at this
  have hvlt:(0:Int)<(vals.length:Int):=by omega
  obtain⟨xz,rfl⟩:=Option.isSome_iff_exists.1 (zan hc3)
  obtain⟨xi,hxi⟩:∃xi,adr (some xz) (i*5)=some xi:=⟨_,rfl⟩
  obtain⟨x1,hx1⟩:∃x,adr (some xi) 1=some x:=⟨_,rfl⟩
  rw[hxi]at hc3
  have hwA:=hE2.trans hEA
  have k1:zaf A (some x1)=some (.slice an2 vals.length cn2):=by
   have:=zaj (j:=1) hc3 rfl
   rw[hx1]at this
   exact zab hwA this
  have k0:=zab (hE0.trans hwA) (hgn2 0 hv0)
  obtain⟨xn,rfl⟩:=Option.isSome_iff_exists.1 (zai k0)
  rw[htv,zak]at k0
  repeat refine c_r ?_
  refine rq ?_;intro gd K hgd hK;simp (disch:=first|omega|assumption|rfl) only[go_sem,s8,s5,c1A,Nat.zero_add,hi0,hlt,hxi,hx1,k1,hz0,hvlt,Int.toNat_zero,Nat.zero_mul,zak,k0];refine hK _ _ ?_;clear hK hgd;clear K gd
  repeat refine c_r ?_
  refine rg0 ?_
  repeat refine c_r ?_
  refine rg0 ?_
  repeat refine c_r ?_
  refine zap (fun m σ ds B=>ds=[]∧∃(j:Nat) (kv:Value),j+m=r.glue.length∧σ 11=vi j∧σ 10=kv∧Rows 5 (DatAt w0) w kv (zcB hn (r.glue.take j))∧σ 9=tv∧σ 8=vi i∧σ 7=ov∧σ 3= .pointer (some ⟨w.heap.size,0,Option.none⟩)∧σ 4= .pointer (some ⟨b4,0,Option.none⟩)∧σ 5= .pointer (some ⟨b4+1,0,Option.none⟩)∧Ext A B) r.glue.length ?_ ?_
  ·exact⟨rfl,0,.slice Option.none 0 0,by omega,vr0,vr0,Rows.nil _ _ _,vr0,(vq1 s8),(vq1 s7),(vq1 s3),(vq1 s4),(vq1 s5),Keep.refl _ _⟩
  clear s8 s7 s3 s4 s5
  rintro m2 σ ds B ⟨rfl,j,kv,hjm,s11,s10,hkv,s9,s8,s7,s3,s4,s5,hAB⟩
  have c4B:=zab (hEA.trans hAB) c4
  have hwB:=hwA.trans hAB
  repeat refine c_r ?_
  refine rg4 s11 s5 c4B Nat.zero_add ?_
  repeat refine c_r ?_
  refine wc0 ?_ ?_
  ·intro hlt2
   simp only[decide_eq_true_eq]at hlt2
   have hj:j<r.glue.length:=by omega
   have hj0:(0:Int)≤(j:Int):=by omega
   have hj1':(j:Int)+1=((j+1:Nat):Int):=by push_cast;rfl
   obtain⟨c5,hc5,gh,gd2,rfl,hgh1,hgd3⟩:=hgg j hj
   have mg:=(kr.g _ (List.getElem_mem hj)).1
   obtain⟨yz,rfl⟩:=Option.isSome_iff_exists.1 (zan hc5)
   obtain⟨yi,hyi⟩:∃xi,adr (some yz) (j*2)=some xi:=⟨_,rfl⟩
   obtain⟨y1,hy1⟩:∃x,adr (some yi) 1=some x:=⟨_,rfl⟩
   rw[hyi]at hc5
   have g0:zaf B (some yi)=some gh:=by
    have:=zaj (j:=0) (zae hwB hc5) rfl
    rwa [zak]at this
   have g1:zaf B (some y1)=some gd2:=by
    have:=zaj (j:=1) (zae hwB hc5) rfl
    rwa [hy1]at this
   have htk:=zia (to:=hn) hj
   have mgl:=mg.len
   have hml:=hnm1.len
   repeat refine c_r ?_
   refine rc (an9 s5 c4B s11 hj0 hlt2 hyi (an2 zak g0) s9 Nat.zero_add) (zbK B gh tv r.glue[j].1 hn (hgh1.ext (hE0.trans hwB)) (hrow.ext (hE0.trans hwB)) mg.lb hnm1.LB (by omega) (by omega)) ?_
   rintro _ C ⟨rfl,hBC⟩
   refine re trivial ?_
   repeat refine c_r ?_
   refine zaC (Q:=fun e σ' ds' C'=>e= .normal∧ds'=[]∧C'=C∧σ' 11=vi j∧(∃kv',σ' 10=kv'∧Rows 5 (DatAt w0) w kv' (zcB hn (r.glue.take (j+1))))∧σ' 9=tv∧σ' 8=vi i∧σ' 7=ov∧σ' 3= .pointer (some ⟨w.heap.size,0,Option.none⟩)∧σ' 4= .pointer (some ⟨b4,0,Option.none⟩)∧σ' 5= .pointer (some ⟨b4+1,0,Option.none⟩)) ?_ ?_
   ·have c4C:=zab hBC c4B
    have g1C:=zab hBC g1
    by_cases hsm:zaq r.glue[j].1=zaq hn
    ·rw[if_pos hsm]at htk
     refine wt (decide_eq_true hsm) ?_
     repeat refine c_r ?_
     refine rg9 s5 c4C s11 hj0 hlt2 hyi hy1 g1C Nat.zero_add ?_
     exact⟨rfl,rfl,rfl,(vq1 s11),⟨gd2,vr0,by rw[htk];exact hgd3⟩,(vq1 s9),(vq1 s8),(vq1 s7),(vq1 s3),(vq1 s4),(vq1 s5)⟩
    ·rw[if_neg hsm]at htk
     refine wf (decide_eq_false hsm) ?_
     repeat refine c_r ?_
     exact⟨rfl,rfl,rfl,(vq1 s11),⟨kv,(vq1 s10),by rw[htk];exact hkv⟩,(vq1 s9),(vq1 s8),(vq1 s7),(vq1 s3),(vq1 s4),(vq1 s5)⟩
   clear s11 s10 s9 s8 s7 s3 s4 s5
   rintro _ σ1 _ _ ⟨rfl,rfl,hCe,s11,⟨kv',s10,hkv'⟩,s9,s8,s7,s3,s4,s5⟩
   subst hCe
   repeat refine c_r ?_
   refine rg2 s11 hj1' ?_
   repeat refine c_r ?_
   exact⟨m2 - 1,by omega,rfl,j+1,kv',by omega,vq0,(vq1 s10),hkv',(vq1 s9),(vq1 s8),(vq1 s7),(vq1 s3),(vq1 s4),(vq1 s5),hAB.trans hBC⟩
  intro hge2
  simp only[decide_eq_false_iff_not]at hge2
  rw[List.take_of_length_le (by omega)]at hkv
  clear s11 hge2 hjm
  obtain⟨H,hH⟩:∃H,zcB hn r.glue=H:=⟨_,rfl⟩
  have hHl:H.length≤1000000000:=by
   rw[←hH]
   rcases zjs (to:=hn) (l:=r.glue) with h| ⟨g,hg',h⟩
   ·rw[h];exact Nat.zero_le _
   ·rw[h];exact(kr.g g hg').2.2
  rw[hH]at hkv
  have dNB:=zae (hEA.trans hAB) dN
  repeat refine c_r ?_
  refine rc (an4 s3 dNB s9 s10) (zlG (hE0.trans hwB) hN0 hG (hrow.ext (hE0.trans hwB)) hnm1 (hkv.ext hwB) hHl) ?_
  rintro mv C ⟨hBC,hmv,hmb⟩
  refine re trivial ?_
  obtain⟨M,hM⟩:∃M,zdX N hn H=M:=⟨_,rfl⟩
  have hMl:M.length≤1000:=by
   rw[←hM]
   have h1:=zcY (p:=zbC hn H) (l:=N.hosts) (i:=0)
   have h2:=hG.hl
   show(zcy (zbC hn H) 0 N.hosts).length≤1000
   omega
  rw[hM]at hmv
  have hmv0:=hmv
  obtain⟨am,cm,rfl,hcm,hgm⟩:=hmv
  simp only[List.length_map]at hcm hgm s10
  have hAC:=hAB.trans hBC
  have hown1:=hown.ext hAC
  repeat refine c_r ?_
  refine rg0 ?_
  repeat refine c_r ?_
  refine zap (fun m σ ds D=>ds=[]∧∃(j:Nat) (ov':Value),j+m=M.length∧σ 13=vi j∧σ 12= .slice am M.length cm∧σ 8=vi i∧σ 7=ov'∧σ 3= .pointer (some ⟨w.heap.size,0,Option.none⟩)∧σ 4= .pointer (some ⟨b4,0,Option.none⟩)∧σ 5= .pointer (some ⟨b4+1,0,Option.none⟩)∧
   Owns 6 (StN nv) w2.heap.size D 82 ov' (l++(M.take j).map fun k=>{s2 with sv:=k,ref:=true})∧Ext w2 D∧(∀b,some b=ov'.ownBlock→b<B.heap.size∨C.heap.size≤b)∧KeepB C.heap.size (fun b=>b<B.heap.size) C D) M.length ?_ ?_
  ·refine⟨rfl,0,ov,by omega,vr0,by first| (simp only[go_sem,List.length_map];done)| (simp only[go_sem,List.length_map];rfl),(vq1 s8),(vq1 s7),(vq1 s3),(vq1 s4),(vq1 s5),by rw[List.take_zero,List.map_nil,List.append_nil];exact hown1,hEA.trans hAC,fun b hb=>?_,KeepB.refl _ _ _⟩
   have:=(hown.ge hb).2
   have:=hAB.size
   exact .inl (by omega)
  clear s10 s9 s8 s7 s3 s4 s5
  rintro m3 σ ds D ⟨rfl,j,ov',hjm,s13,s12,s8,s7,s3,s4,s5,hownD,hED,hobD,hKD⟩
  have hwD:=hE2.trans hED
  have hszD:=hKD.size
  have hBs:=hBC.size
  repeat refine c_r ?_
  refine rg2 s13 s12 ?_
  repeat refine c_r ?_
  refine wc0 ?_ ?_
  ·intro hlt3
   simp only[decide_eq_true_eq]at hlt3
   have hj:j<M.length:=by omega
   have hj0:(0:Int)≤(j:Int):=by omega
   have hj1':(j:Int)+1=((j+1:Nat):Int):=by push_cast;rfl
   have dSD:=zae hED dS
   repeat refine c_r ?_
   refine rq ?_;intro gd K hgd hK
   try simp (disch:=first|omega|assumption|rfl) only[go_sem,s4,dSD]
   refine zbo (P:=Tryz.prog) (l:=stV nv s2) rfl (zec n1) rfl rfl ?_
   intro D1 hE6 hs6 hB6
   try simp only[go_sem]
   refine hK _ _ ?_;clear hK hgd;clear K;try clear gd
   obtain⟨d0,hd0⟩:∃b,D.heap.size=b:=⟨_,rfl⟩
   rw[hd0]at hB6 hs6 ⊢
   have hKD1:=hKD.trans (hE6.toB hszD fun i _ h=>h.elim)
   have hgj:zaf D1 (adr am j)=some (vi M[j]):=by
    have hrD:=hmv0.blocks (x:=D1) fun a n c hv=>hKD1.keep.block _ (hmb a n c hv).2 (by have:=(hmb a n c hv).1;omega)
    obtain⟨a',c',e,_,hg'⟩:=hrD
    injection e with e1 e2 e3
    subst e1
    have:=hg' j (by simpa using hj)
    rwa [List.getElem_map]at this
   obtain⟨xm,rfl⟩:=Option.isSome_iff_exists.1 (zai hgj)
   repeat refine c_r ?_
   refine rq ?_;intro gd K hgd hK
   try simp (disch:=first|omega|assumption|rfl) only[go_sem,s12,s13,hj0,hlt3,hgj,Nat.mul_one,Nat.add_zero]
   refine zaV (P:=Tryz.prog) (t:=3) (j:=0) (u:=vi M[j]) (l:=stV nv s2) hB6 (by show 0<6;decide) rfl rfl rfl ?_
   intro D2 hs7 hB7 hk7
   try simp only[go_sem]
   refine hK _ _ ?_;clear hK hgd;clear K;try clear gd
   repeat refine c_r ?_
   refine rq ?_;intro gd K hgd hK
   try simp only[go_sem]
   refine zaV (P:=Tryz.prog) (t:=4) (j:=4) (u:= .bool true) hB7 (by show 4<6;decide) rfl rfl rfl ?_
   intro D3 hs8 hB8 hk8
   try simp only[go_sem]
   refine hK _ _ ?_;clear hK hgd;clear K;try clear gd
   have hB8':D3.heap[d0]? =some (.cells (stV nv {s2 with sv:=M[j],ref:=true}).toArray 82 (0,0)):=hB8
   have d:zat D3 (some ⟨d0,0,Option.none⟩) 6=some (stV nv {s2 with sv:=M[j],ref:=true}):=zah hB8' rfl
   have hE3:Ext D D3:=Keep.to_ext (Keep.to_ext hE6 rfl (fun b hb=>by omega) hk7) rfl (fun b hb=>by omega) hk8
   have hsD3:=hE3.size
   have hsED:=hED.size
   repeat refine c_r ?_
   refine rq ?_;intro gd K hgd hK
   try simp (disch:=first|omega|assumption|rfl) only[go_sem,s7,d]
   refine zaT (C:=StN nv) (zba nv) (l:=stV nv {s2 with sv:=M[j],ref:=true}) (by rfl) (by rfl) (by rfl) (by rfl) ⟨rfl,n1⟩ (by decide) ?_
   intro D4 hE9 hs9 ho9
   have hsD4:=hE9.size
   try simp only[go_sem]
   refine zaI (zba nv) (hownD.ext (hE3.trans hE9)) ho9.rows (by rfl) (by rfl) (by rfl) (by rfl) (by rfl) (by rfl) (by decide) ((vr1 s7)) (vr0) (by simp;omega) (by decide) (by omega) ?_
   intro ov2 D5 ho10 hE10 hk10 hob10
   try simp only[go_sem]
   refine hK _ _ ?_;clear hK hgd;clear K;try clear gd
   have hsz4:=(hE3.trans hE9).size
   repeat refine c_r ?_
   refine rg2 s13 hj1' ?_
   repeat refine c_r ?_
   refine⟨m3 - 1,by omega,rfl,j+1,ov2,by omega,vq0,(vq1 s12),(vq1 s8),vq0,(vq1 s3),(vq1 s4),(vq1 s5),?_,?_,?_,?_⟩
   ·rw[zao hj,List.map_append,←List.append_assoc]
    exact ho10
   ·exact hE10 w2 (hED.trans (hE3.trans hE9)) (Nat.le_refl _)
   ·intro b hb
    rcases hob10 b hb with h|h
    ·exact hobD b h
    ·exact .inr (by omega)
   ·refine hKD.trans (((hE3.trans hE9).toB hszD fun i _ h=>h.elim).trans (hk10.toB (by omega) fun i h1 h2=>?_))
    rcases hobD i h2 with h|h
    ·exact h
    ·omega
  intro hge3
  simp only[decide_eq_false_iff_not]at hge3
  rw[List.take_of_length_le (by omega)]at hownD
  have hhost:zff N r s2 hn=(M.map fun k=>{s2 with sv:=k,ref:=true})++(if (M.length:Int)=0 then endS s2 9 else []):=by unfold zff;rw[hH,hM]
  have hnx:((r.data.take (i+1)).filterMap fun d=>d.names.head?).flatMap (zff N r s2)=l++zff N r s2 hn:=by
   rw[zao hi,List.filterMap_append,List.flatMap_append,←hl]
   simp[hne1]
  have hnl2:(l++zff N r s2 hn).length≤(i+1)*1001:=by
   rw[List.length_append,hhost,List.length_append,List.length_map]
   have:(if (M.length:Int)=0 then endS s2 9 else []).length≤1:=by split<;>simp[endS]
   omega
  clear s13 hge3 hjm
  repeat refine c_r ?_
  refine rg1 s12 ?_
  repeat refine c_r ?_
  by_cases hm0:(M.length:Int)=0
  ·rw[if_pos hm0]at hhost
   refine wt (decide_eq_true hm0) ?_
   have dSD:=zae hED dS
   repeat refine c_r ?_
   refine rq ?_;intro gd K hgd hK
   try simp (disch:=first|omega|assumption|rfl) only[go_sem,s4,dSD]
   refine zbo (P:=Tryz.prog) (l:=stV nv s2) rfl (zec n1) rfl rfl ?_
   intro D1 hE6 hs6 hB6
   try simp only[go_sem]
   refine hK _ _ ?_;clear hK hgd;clear K;try clear gd
   obtain⟨d0,hd0⟩:∃b,D.heap.size=b:=⟨_,rfl⟩
   rw[hd0]at hB6 hs6 ⊢
   repeat refine c_r ?_
   refine rq ?_;intro gd K hgd hK
   try simp only[go_sem]
   refine zaV (P:=Tryz.prog) (t:=3) (j:=5) (u:=vi 9) (l:=stV nv s2) hB6 (by show 5<6;decide) rfl rfl rfl ?_
   intro D2 hs7 hB7 hk7
   try simp only[go_sem]
   refine hK _ _ ?_;clear hK hgd;clear K;try clear gd
   have d:zat D2 (some ⟨d0,0,Option.none⟩) 6=some (stV nv {s2 with fin:=9}):=zah hB7 rfl
   have hE3:Ext D D2:=Keep.to_ext hE6 rfl (fun b hb=>by omega) hk7
   have hsD3:=hE3.size
   have hsED:=hED.size
   repeat refine c_r ?_
   refine rq ?_;intro gd K hgd hK
   try simp (disch:=first|omega|assumption|rfl) only[go_sem,s7,d]
   refine zaT (C:=StN nv) (zba nv) (l:=stV nv {s2 with fin:=9}) (by rfl) (by rfl) (by rfl) (by rfl) ⟨rfl,n1⟩ (by decide) ?_
   intro D4 hE9 hs9 ho9
   have hsD4:=hE9.size
   try simp only[go_sem]
   refine zaI (zba nv) (hownD.ext (hE3.trans hE9)) ho9.rows (by rfl) (by rfl) (by rfl) (by rfl) (by rfl) (by rfl) (by decide) ((vr1 s7)) (vr0) (by simp;omega) (by decide) (by omega) ?_
   intro ov2 D5 ho10 hE10 hk10 hob10
   try simp only[go_sem]
   refine hK _ _ ?_;clear hK hgd;clear K;try clear gd
   repeat refine c_r ?_
   refine rg2 s8 hi1' ?_
   repeat refine c_r ?_
   refine⟨m - 1,by omega,rfl,i+1,ov2,_,by omega,vq0,vq0,(vq1 s3),(vq1 s4),(vq1 s5),hnx.symm,hnl2,?_,hE10 w2 (hED.trans (hE3.trans hE9)) (Nat.le_refl _)⟩
   rw[hhost,←List.append_assoc]
   exact ho10
  ·rw[if_neg hm0,List.append_nil]at hhost
   refine wf (decide_eq_false hm0) ?_
   repeat refine c_r ?_
   refine rg2 s8 hi1' ?_
   repeat refine c_r ?_
   refine⟨m - 1,by omega,rfl,i+1,ov',_,by omega,vq0,(vq1 s7),(vq1 s3),(vq1 s4),(vq1 s5),hnx.symm,hnl2,?_,hED⟩
   rw[hhost]
   exact hownD
 ·intro hge2
  simp only[decide_eq_false_iff_not]at hge2
  rw[List.take_of_length_le (by omega)]at hl
  have hE:=hE2.trans hEA
  repeat (first|refine c_r ?_| (refine zcj (by rfl) ?_;intro gd K hgd hK;simp (disch:=first|omega|assumption|rfl) only[go_sem,s7];refine hK _ _ ?_;clear hK hgd;clear K gd))
  refine rt0 Tryz.ntmps105 ?_
  rw[←hl]
  refine⟨hE,zbp hown.rows fun x hx=>?_⟩
  rw[hl]at hx
  obtain⟨h,_,hx⟩:=List.mem_flatMap.1 hx
  rw[zkI hx,mn]
  exact hr.ext hE
def zkF(N:NetL)(s:zax)(t:Int):List zax:=
 if s.fin=0 then
  (if (askN N s.sv s.name t).kind=1 then endS s 1 else if (askN N s.sv s.name t).kind=2 then endS s 2 else if (askN N s.sv s.name t).kind=3 then endS s 3 else if (askN N s.sv s.name t).kind=6 then endS s 4
  else if (askN N s.sv s.name t).kind=7 then(if s.ref=true then endS s 6 else endS s 5) else if (askN N s.sv s.name t).kind=5 then zd6 N s (askN N s.sv s.name t).name else zg2 N s (askN N s.sv s.name t))
 else []
def LeadD(r:ResL):Prop:=r.kind≠1→r.kind≠2→r.kind≠3→r.kind≠6→r.kind≠7→r.kind≠5→∀d∈r.data,∃n l,d.names=n::l∧NmM n
set_option maxHeartbeats 2000000 in
theorem RNext_ok{w0 w:World}(hE0:Ext w0 w){cs sc:List Value}{N:NetL}{s:zax}{t:Int}(hN:NetAt w0 cs N)(hG:NetZ N)(hs:StC w sc s)(bs:StB s)(hLD:LeadD (askN N s.sv s.name t)):
  Fn Tryz.prog 39 #[.agg cs.toArray,.agg sc.toArray,vi t] w (fun v w'=>Ext w w'∧Rows 6 (StC w') w' v (zkF N s t)):=by
 have hN0:=hN
 obtain⟨hv,rv,rfl,hh,hro⟩:=hN.ex
 obtain⟨nv,rfl,hr⟩:=hs.ex
 obtain⟨ah,ch,hhv,_⟩:=hh.open
 obtain⟨ar,cr,hrv,_⟩:=id hro
 obtain⟨an,cn,hnv,_⟩:=id hr
 unfold stV
 refine enter Tryz.func39 Tryz.ntmps39 rfl rfl ?_
 repeat refine c_r ?_
 rw[hhv,hrv,hnv]
 refine rg0 ?_
 rw[←hhv,←hrv,←hnv]
 repeat refine c_r ?_
 rw[zam]
 refine zaH ?_
 intro w1 hE1 hs1 hA hB
 have p5:zaf w1 (some ⟨w.heap.size+1,5,Option.none⟩)=some (vi s.fin):=zac hB rfl
 have p0:zaf w1 (some ⟨w.heap.size+1,0,Option.none⟩)=some (vi s.sv):=zac hB rfl
 have p1:zaf w1 (some ⟨w.heap.size+1,1,Option.none⟩)=some nv:=zac hB rfl
 have p4:zaf w1 (some ⟨w.heap.size+1,4,Option.none⟩)=some (.bool s.ref):=zac hB rfl
 have dN:zat w1 (some ⟨w.heap.size,0,Option.none⟩) 4=some [hv,rv,vi N.rw,vi N.rf]:=zah hA rfl
 have dS:zat w1 (some ⟨w.heap.size+1,0,Option.none⟩) 6=some (stV nv s):=zah hB rfl
 repeat refine c_r ?_
 unfold zkF
 by_cases hf:s.fin=0
 rotate_left
 ·rw[if_neg hf]
  refine rg3 p5 Nat.zero_add (decide_eq_false hf) ?_
  repeat refine c_r ?_
  refine wt Bool.not_false ?_
  repeat (first|refine c_r ?_|refine rg0 ?_)
  refine rt0 Tryz.ntmps39 ?_
  exact⟨hE1,Rows.nil _ _ _⟩
 rw[if_pos hf]
 refine rg3 p5 Nat.zero_add (decide_eq_true hf) ?_
 repeat refine c_r ?_
 refine wf Bool.not_true ?_
 repeat refine c_r ?_
 refine rq ?_;intro gd K hgd hK
 try simp (disch:=first|omega|assumption|rfl) only[go_sem,dN,p0,p1,Nat.add_zero,Nat.zero_add]
 refine Fn.mono (RAsk_ok (s:=s.sv) (t:=t) (hE0.trans hE1) hN0 hG (hr.ext hE1) bs.nm) ?_
 rintro _ w2 ⟨hE2,cs,rfl,hra⟩
 have hF:=zlt (s:=s.sv) (t:=t) hG bs.nm
 have hcl:cs.length=5∧∀v∈cs,one v=true:=by
  obtain⟨dv,mv,gv,rfl,h1,h2,h3⟩:=hra.ex
  exact⟨rfl,ones5 h1.isOne h2.isOne h3.isOne⟩
 try simp only[go_sem]
 refine zbo (P:=Tryz.prog) (l:=cs) (by rw[hcl.1];rfl) hcl.2 (by rw[hcl.1];rfl) rfl ?_
 intro w3 hE3 hs3 hB3
 try simp only[go_sem]
 refine hK _ _ ?_;clear hK hgd;clear K;try clear gd
 obtain⟨r,hre⟩:∃r,askN N s.sv s.name t=r:=⟨_,rfl⟩
 rw[hre]at hra hF hLD ⊢
 have hra3:=hra.ext hE3
 have d3:=zah (n:=5) hB3 hcl.1.symm
 obtain⟨b,hb⟩:∃b,w2.heap.size=b:=⟨_,rfl⟩
 rw[hb]at hB3 d3 ⊢
 have hE23:=hE2.trans hE3
 have hE13:=hE1.trans hE23
 have hE03:=hE0.trans hE13
 have dN3:=zae hE23 dN
 have dS3:=zae hE23 dS
 have p43:=zab hE23 p4
 clear hra p5 p0 p1 p4 dN dS
 have k0:zaf w3 (some ⟨b,0,Option.none⟩)=some (vi r.kind):=by
  obtain⟨dv,mv,gv,e,_⟩:=hra3.ex
  rw[e]at hB3
  exact zac hB3 rfl
 have hrn:=hr.ext hE13
 repeat refine c_r ?_
 refine rg2 k0 Nat.add_zero ?_
 repeat refine c_r ?_
 by_cases k1:r.kind=1
 ·rw[if_pos k1]
  refine rg1 (decide_eq_true k1) ?_
  repeat refine c_r ?_
  refine wt trivial ?_
  repeat refine c_r ?_
  refine rc dS3 (zb3 w3 hrn s 1) ?_
  rintro v w4 ⟨hE4,hv⟩
  refine re trivial ?_
  repeat refine c_r ?_
  refine rt0 Tryz.ntmps39 ?_
  exact⟨hE13.trans hE4,zbp hv fun x hx=>by rw[za5 hx];exact hrn.ext hE4⟩
 rw[if_neg k1]
 refine rg1 (decide_eq_false k1) ?_
 repeat refine c_r ?_
 refine wf trivial ?_
 repeat refine c_r ?_
 by_cases k2:r.kind=2
 ·rw[if_pos k2]
  refine rg1 (decide_eq_true k2) ?_
  repeat refine c_r ?_
  refine wt trivial ?_
  repeat refine c_r ?_
  refine rc dS3 (zb3 w3 hrn s 2) ?_
  rintro v w4 ⟨hE4,hv⟩
  refine re trivial ?_
  repeat refine c_r ?_
  refine rt0 Tryz.ntmps39 ?_
  exact⟨hE13.trans hE4,zbp hv fun x hx=>by rw[za5 hx];exact hrn.ext hE4⟩
 rw[if_neg k2]
 refine rg1 (decide_eq_false k2) ?_
 repeat refine c_r ?_
 refine wf trivial ?_
 repeat refine c_r ?_
 by_cases k3:r.kind=3
 ·rw[if_pos k3]
  refine rg1 (decide_eq_true k3) ?_
  repeat refine c_r ?_
  refine wt trivial ?_
  repeat refine c_r ?_
  refine rc dS3 (zb3 w3 hrn s 3) ?_
  rintro v w4 ⟨hE4,hv⟩
  refine re trivial ?_
  repeat refine c_r ?_
  refine rt0 Tryz.ntmps39 ?_
  exact⟨hE13.trans hE4,zbp hv fun x hx=>by rw[za5 hx];exact hrn.ext hE4⟩
 rw[if_neg k3]
 refine rg1 (decide_eq_false k3) ?_
 repeat refine c_r ?_
 refine wf trivial ?_
 repeat refine c_r ?_
 by_cases k6:r.kind=6
 ·rw[if_pos k6]
  refine rg1 (decide_eq_true k6) ?_
  repeat refine c_r ?_
  refine wt trivial ?_
  repeat refine c_r ?_
  refine rc dS3 (zb3 w3 hrn s 4) ?_
  rintro v w4 ⟨hE4,hv⟩
  refine re trivial ?_
  repeat refine c_r ?_
  refine rt0 Tryz.ntmps39 ?_
  exact⟨hE13.trans hE4,zbp hv fun x hx=>by rw[za5 hx];exact hrn.ext hE4⟩
 rw[if_neg k6]
 refine rg1 (decide_eq_false k6) ?_
 repeat refine c_r ?_
 refine wf trivial ?_
 repeat refine c_r ?_
 by_cases k7:r.kind=7
 ·rw[if_pos k7]
  refine rg1 (decide_eq_true k7) ?_
  repeat refine c_r ?_
  refine wt trivial ?_
  repeat refine c_r ?_
  refine rg2 p43 Nat.zero_add ?_
  repeat refine c_r ?_
  cases hrf:s.ref with
  |true=>
   rw[hrf]at p43
   rw[if_pos rfl]
   refine wt hrf ?_
   repeat refine c_r ?_
   refine rc dS3 (zb3 w3 hrn s 6) ?_
   rintro v w4 ⟨hE4,hv⟩
   refine re trivial ?_
   repeat refine c_r ?_
   refine rt0 Tryz.ntmps39 ?_
   exact⟨hE13.trans hE4,zbp hv fun x hx=>by rw[za5 hx];exact hrn.ext hE4⟩
  |false=>
   rw[if_neg Bool.false_ne_true]
   refine wf hrf ?_
   repeat refine c_r ?_
   refine rc dS3 (zb3 w3 hrn s 5) ?_
   rintro v w4 ⟨hE4,hv⟩
   refine re trivial ?_
   repeat refine c_r ?_
   refine rt0 Tryz.ntmps39 ?_
   exact⟨hE13.trans hE4,zbp hv fun x hx=>by rw[za5 hx];exact hrn.ext hE4⟩
 rw[if_neg k7]
 refine rg1 (decide_eq_false k7) ?_
 repeat refine c_r ?_
 refine wf trivial ?_
 repeat refine c_r ?_
 by_cases k5:r.kind=5
 ·rw[if_pos k5]
  obtain⟨dv,mv,gv,e,_,hnm,_⟩:=hra3.ex
  have q2:zaf w3 (some ⟨b,2,Option.none⟩)=some mv:=by rw[e]at hB3;exact zac hB3 rfl
  refine rg1 (decide_eq_true k5) ?_
  repeat refine c_r ?_
  refine wt trivial ?_
  repeat refine c_r ?_
  refine rc (an4 dN3 dS3 q2 Nat.zero_add) (zin hE03 hN0 hG hrn hnm (zd4 (hF.nm k5)).m bs.rw0 bs.rw1) ?_
  rintro v w4 ⟨hE4,hv⟩
  refine re trivial ?_
  repeat refine c_r ?_
  refine rt0 Tryz.ntmps39 ?_
  exact⟨hE13.trans hE4,hv⟩
 rw[if_neg k5]
 refine rg1 (decide_eq_false k5) ?_
 repeat refine c_r ?_
 refine wf trivial ?_
 repeat refine c_r ?_
 refine rc (an3 dN3 dS3 d3) (zhK hE03 hN0 hG hrn hra3 hF.ok hF.dl (hLD k1 k2 k3 k6 k7 k5) bs.rf0 bs.rf1) ?_
 rintro v w4 ⟨hE4,hv⟩
 refine re trivial ?_
 repeat refine c_r ?_
 refine rt0 Tryz.ntmps39 ?_
 exact⟨hE13.trans hE4,hv⟩
theorem zjP(w:World){ca cb:List Value}{s:zax}(ha:StC w ca s)(hb:StC w cb s)(ms:NmM s.name):
  Fn Tryz.prog 96 #[.agg ca.toArray,.agg cb.toArray] w (fun v w'=>v= .bool true∧Ext w w'):=by
 obtain⟨na,rfl,h1⟩:=ha.ex
 obtain⟨nb,rfl,h2⟩:=hb.ex
 obtain⟨a1,c1,hna,_⟩:=id h1
 obtain⟨a2,c2,hnb,_⟩:=id h2
 have ml:=ms.len
 unfold stV
 rw[hna,hnb]
 refine enter Tryz.func96 Tryz.ntmps96 rfl rfl ?_
 repeat refine c_r ?_
 refine rg0 ?_
 rw[←hna,←hnb]
 repeat refine c_r ?_
 rw[zam]
 refine zaH ?_
 intro w1 hE1 hs1 hA hB
 have pa:zaf w1 (some ⟨w.heap.size,1,Option.none⟩)=some na:=zac hA rfl
 have pb:zaf w1 (some ⟨w.heap.size+1,1,Option.none⟩)=some nb:=zac hB rfl
 have a0:zaf w1 (some ⟨w.heap.size,0,Option.none⟩)=some (vi s.sv):=zac hA rfl
 have a2':zaf w1 (some ⟨w.heap.size,2,Option.none⟩)=some (vi s.rw):=zac hA rfl
 have a3:zaf w1 (some ⟨w.heap.size,3,Option.none⟩)=some (vi s.rf):=zac hA rfl
 have a4:zaf w1 (some ⟨w.heap.size,4,Option.none⟩)=some (.bool s.ref):=zac hA rfl
 have a5:zaf w1 (some ⟨w.heap.size,5,Option.none⟩)=some (vi s.fin):=zac hA rfl
 have b0:zaf w1 (some ⟨w.heap.size+1,0,Option.none⟩)=some (vi s.sv):=zac hB rfl
 have b2:zaf w1 (some ⟨w.heap.size+1,2,Option.none⟩)=some (vi s.rw):=zac hB rfl
 have b3:zaf w1 (some ⟨w.heap.size+1,3,Option.none⟩)=some (vi s.rf):=zac hB rfl
 have b4:zaf w1 (some ⟨w.heap.size+1,4,Option.none⟩)=some (.bool s.ref):=zac hB rfl
 have b5:zaf w1 (some ⟨w.heap.size+1,5,Option.none⟩)=some (vi s.fin):=zac hB rfl
 have k1:∀h:Decidable True,@decide True h=true:=fun h=>decide_eq_true trivial
 have k4:(s.ref==s.ref)=true:=by cases s.ref<;>rfl
 repeat refine c_r ?_
 refine rcg [(5,10),(12,17),(19,24),(26,31),(33,38)] (an3 (an7 a0 b0 k1 Nat.add_zero a2' b2 Nat.zero_add) (an5 a3 b3 a4 b4 k4) (an4 a5 b5 pa pb)) (zbK w1 na nb s.name s.name (h1.ext hE1) (h2.ext hE1) ms.LB ms.LB (by omega) (by omega)) ?_
 rintro _ w2 ⟨rfl,hE2⟩
 have hd:∀h:Decidable True,@decide True h=true:=fun h=>decide_eq_true trivial
 refine reg [(5,10),(12,17),(19,24),(26,31),(33,38)] hd ?_
 repeat refine c_r ?_
 refine rt0 Tryz.ntmps96 ?_
 exact⟨rfl,hE1.trans hE2⟩
theorem zlL(w:World){ca:List Value}{s:zax}(ha:StC w ca s):
  Fn Tryz.prog 40 #[.agg ca.toArray] w (fun v w'=>Ext w w'∧∃cb,v= .agg cb.toArray∧StC w' cb s):=by
 obtain⟨na,rfl,h1⟩:=ha.ex
 have n1:=h1.isOne
 obtain⟨a1,c1,hna,_⟩:=id h1
 unfold stV
 rw[hna]
 refine enter Tryz.func40 Tryz.ntmps40 rfl rfl ?_
 repeat refine c_r ?_
 refine rg0 ?_
 rw[←hna]
 repeat refine c_r ?_
 rw[zam]
 refine zaH ?_
 intro w1 hE1 hs1 hA hC
 have a0:zaf w1 (some ⟨w.heap.size,0,Option.none⟩)=some (vi s.sv):=zac hA rfl
 have pa:zaf w1 (some ⟨w.heap.size,1,Option.none⟩)=some na:=zac hA rfl
 have a2':zaf w1 (some ⟨w.heap.size,2,Option.none⟩)=some (vi s.rw):=zac hA rfl
 have a3:zaf w1 (some ⟨w.heap.size,3,Option.none⟩)=some (vi s.rf):=zac hA rfl
 have a4:zaf w1 (some ⟨w.heap.size,4,Option.none⟩)=some (.bool s.ref):=zac hA rfl
 have a5:zaf w1 (some ⟨w.heap.size,5,Option.none⟩)=some (vi s.fin):=zac hA rfl
 repeat refine c_r ?_
 refine rq ?_;intro gd K hgd hK
 try simp (disch:=first|omega|assumption|rfl) only[go_sem,a0,pa,a2',a3,a4,a5,Nat.add_zero,Nat.zero_add]
 refine⟨by kernel_rfl,?_⟩
 rw[hna,show bdV Tryz.prog 82 [(0,vi s.sv),(1,.slice a1 (s.name.map vs).length c1),(2,vi s.rw),(3,vi s.rf),(4,.bool s.ref),(5,vi s.fin)]=some (.agg #[vi s.sv,.slice a1 (s.name.map vs).length c1,vi s.rw,vi s.rf,.bool s.ref,vi s.fin]) from by kernel_rfl,←hna]
 try simp only[go_sem]
 refine zaE (P:=Tryz.prog) (t:=82) (l:=stV na s) hC rfl (zec n1) rfl rfl ?_
 intro z hz' hbz hkz
 try simp only[go_sem]
 refine hK _ _ ?_;clear hK hgd;clear K;try clear gd
 repeat refine c_r ?_
 refine zay (.inr rfl) Tryz.ntmps40 rfl (zaL (x:=⟨w.heap.size+1,0,Option.none⟩) (k:=6) (vq0) rfl rfl (zah hbz rfl) zau) ?_
 have hz:=Keep.to_ext hE1 rfl (fun b hb=>by omega) hkz
 exact⟨hz,_,rfl,⟨na,rfl,h1.ext hz⟩⟩
theorem StC.cells{w:World}{cs:List Value}{s:zax}(h:StC w cs s):cs.length=6∧∀v∈cs,one v=true:=by
 obtain⟨nv,rfl,h1⟩:=h.ex
 exact⟨rfl,zec h1.isOne⟩
set_option maxHeartbeats 1000000 in
theorem zgg(w:World){av bv:Value}{L:List zax}(ha:Rows 6 (StC w) w av L)(hb:Rows 6 (StC w) w bv L)(hL:∀s∈L,NmM s.name)(hLl:L.length≤1000000000):
  Fn Tryz.prog 35 #[av,bv] w (fun v w'=>v= .bool true∧Ext w w'):=by
 obtain⟨aa,ca,rfl,hca,hga⟩:=ha.open
 obtain⟨ab,cb,rfl,hcb,hgb⟩:=hb.open
 refine enter Tryz.func35 Tryz.ntmps35 rfl rfl ?_
 repeat refine c_r ?_
 refine rg0 ?_
 repeat refine c_r ?_
 refine rg1 (fun h=>decide_eq_true trivial:∀h:Decidable True,@decide True h=true) ?_
 repeat refine c_r ?_
 refine wf trivial ?_
 repeat refine c_r ?_
 refine rg0 ?_
 repeat refine c_r ?_
 refine zap (fun m σ ds A=>ds=[]∧∃(i:Nat),i+m=L.length∧σ 5=vi i∧σ 0= .slice aa L.length ca∧σ 1= .slice ab L.length cb∧Ext w A) L.length ?_ ?_
 ·exact⟨rfl,0,by omega,vr0,vr0,vr0,Keep.refl _ _⟩
 rintro m σ ds A ⟨rfl,i,him,s5,s0,s1,hEA⟩
 repeat refine c_r ?_
 refine rg2 s5 s0 ?_
 repeat refine c_r ?_
 refine wc0 ?_ ?_
 ·intro hlt
  simp only[decide_eq_true_eq]at hlt
  have hi:i<L.length:=by omega
  have hi0:(0:Int)≤(i:Int):=by omega
  have hi1':(i:Int)+1=((i+1:Nat):Int):=by push_cast;rfl
  obtain⟨c1,hc1,hS1⟩:=hga i hi
  obtain⟨c2,hc2,hS2⟩:=hgb i hi
  obtain⟨xa,rfl⟩:=Option.isSome_iff_exists.1 (zan hc1)
  obtain⟨xb,rfl⟩:=Option.isSome_iff_exists.1 (zan hc2)
  obtain⟨xi,hxi⟩:∃x,adr (some xa) (i*6)=some x:=⟨_,rfl⟩
  obtain⟨yi,hyi⟩:∃x,adr (some xb) (i*6)=some x:=⟨_,rfl⟩
  rw[hxi]at hc1
  rw[hyi]at hc2
  repeat refine c_r ?_
  refine zaN (fun _=>false) [(0,true),(1,true),(2,true),(3,true),(5,true),(6,true),(7,true),(8,true),(4,false),(9,false),(10,true)] NoS mixed (by kernel_rfl) ?_;intro gd K x hgd hx hxe hK;clear hxe
  have d1x:=zae (hEA.trans hx) hc1
  have d2x:=zae (hEA.trans hx) hc2
  simp (disch:=first|omega|assumption|rfl) only[go_sem,s0,s1,s5,hi0,hlt,hxi,hyi,d1x,d2x]
  refine Fn.mono (zlL x (hS1.ext (hEA.trans hx))) ?_
  rintro _ x2 ⟨hx2,c3,rfl,hS3⟩
  refine⟨.inr hx2,?_⟩
  simp (disch:=first|omega|assumption|rfl) only[go_sem]
  refine Fn.mono (zjP x2 hS3 (hS2.ext ((hEA.trans hx).trans hx2)) (hL _ (List.getElem_mem hi))) ?_
  rintro _ x3 ⟨rfl,hx3⟩
  refine⟨.inr hx3,?_⟩
  simp (disch:=first|omega|assumption|rfl) only[go_sem]
  refine hK _ _ ?_;clear hK hgd;clear K;try clear gd
  repeat refine c_r ?_
  refine wf trivial ?_
  repeat refine c_r ?_
  refine rg2 s5 hi1' ?_
  repeat refine c_r ?_
  exact⟨m - 1,by omega,rfl,i+1,by omega,vq0,(vq1 s0),(vq1 s1),((hEA.trans hx).trans hx2).trans hx3⟩
 ·intro hge
  repeat (first|refine c_r ?_|refine rg0 ?_)
  refine rt0 Tryz.ntmps35 ?_
  exact⟨rfl,hEA⟩
def zcu(l:List (Nm×List DatL)):Prop:=∀a∈l,∀b∈l,zaq a.1=zaq b.1→a.2=b.2
theorem zdD{to:Nm}:∀{l:List (Nm×List DatL)} {b:List DatL},(∀g∈l,zaq g.1=zaq to→g.2=b)→l.foldl (fun b g=>if zaq g.1=zaq to then g.2 else b) b=b
 | [],_,_=>rfl
 |g::l,b,h=>by
  rw[List.foldl_cons]
  by_cases e:zaq g.1=zaq to
  ·rw[if_pos e,h g (List.mem_cons_self ..) e]
   exact zdD fun x hx=>h x (List.mem_cons_of_mem _ hx)
  ·rw[if_neg e]
   exact zdD fun x hx=>h x (List.mem_cons_of_mem _ hx)
theorem ziR{to:Nm}:∀{l:List (Nm×List DatL)},zcu l→zcB to l=zcf to l
 | [],_=>rfl
 |g::l,h=>by
  unfold zcB zcf
  rw[List.foldl_cons]
  by_cases e:zaq g.1=zaq to
  ·rw[if_pos e,if_pos e]
   exact zdD fun x hx h3=>h x (List.mem_cons_of_mem _ hx) g (List.mem_cons_self ..) (h3.trans e.symm)
  ·rw[if_neg e,if_neg e]
   exact ziR fun a ha b hb=>h a (List.mem_cons_of_mem _ ha) b (List.mem_cons_of_mem _ hb)
theorem host_D{N:NetL}{r:ResL}{s:zax}{h:Nm}(hd:zcu r.glue):zff N r s h=zdC N r s h:=by
 unfold zff zdC ofR
 rw[ziR hd]
 by_cases e:((zdX N h (zcf h r.glue)).length:Int)=0
 ·have e2:zdX N h (zcf h r.glue)=[]:=List.eq_nil_of_length_eq_zero (by omega)
  rw[if_pos e,e2]
  simp
 ·rw[if_neg e,List.append_nil,List.nil_append]
theorem refer_D{N:NetL}{r:ResL}{s:zax}(hd:zcu r.glue):zg2 N s r=zet N s r:=by
 unfold zg2 zet
 split
 ·rfl
 ·rw[show zaz 2 r.data=r.data.filterMap (fun d=>d.names.head?) from rfl]
  congr 1
  exact funext fun h=>host_D hd
theorem next_D{N:NetL}{s:zax}{t:Int}(hk:(askN N s.sv s.name t).kind=1∨(askN N s.sv s.name t).kind=2∨(askN N s.sv s.name t).kind=3∨(askN N s.sv s.name t).kind=4∨(askN N s.sv s.name t).kind=5∨(askN N s.sv s.name t).kind=6∨(askN N s.sv s.name t).kind=7)
  (hd:zcu (askN N s.sv s.name t).glue):zkF N s t=zc1 N s t:=by
 unfold zkF zc1
 rw[refer_D hd]
 split
 ·rcases hk with h|h|h|h|h|h|h<;>simp[h]
 ·rfl
def zdc(r:ResL):Prop:=r.kind=1∨r.kind=2∨r.kind=3∨r.kind=4∨r.kind=5∨r.kind=6∨r.kind=7
theorem zhF{R:List RecL}{n:Nm}{t:Int}{b:Bool}:zdc (atL R n t b):=by
 unfold atL zdc
 split
 ·simp
 ·split<;>simp
theorem zhl{o:Nm}{R:List RecL}{q:Nm}:∀{l:List Nm} {r:ResL},goL o R q l=some r→zdc r
 | [],r,h=>by cases h
 |n::l,r,h=>by
  unfold goL at h
  split at h
  ·cases h;exact .inr (.inr (.inr (.inl rfl)))
  ·split at h
   ·cases h
   ·cases hr:zaG R q n with
    |none=>rw[hr]at h;exact zhl h
    |some x=>
     rw[hr]at h
     cases h
     unfold zaG at hr
     split at hr
     ·cases hr
     ·split at hr
      ·cases hr;unfold zdc;simp
      ·cases hr;unfold zdc;simp
theorem zkK{o:Nm}{R:List RecL}{q:Nm}{t:Int}:zdc (za3 o R q t):=by
 unfold za3
 split
 ·unfold zdc;simp
 ·cases hg:goL o R q (za8 o q) with
  |some r=>
   dsimp only
   exact zhl hg
  |none=>
   dsimp only
   split
   ·exact zhF
   ·cases hs:zaZ o R q with
    |some s=>
     dsimp only
     exact zhF
    |none=>
     dsimp only
     unfold zdc;simp
theorem zi5{N:NetL}{s:Int}{q:Nm}{t:Int}:zdc (askN N s q t):=by
 unfold askN
 split
 ·cases (N.zones s)[(zbN N s q).1.toNat]? with
  |some z=>exact zkK
  |none=>unfold zdc;simp
 ·unfold zdc;simp
theorem zk3{R:List RecL}{a b:Nm}(h:zaq a=zaq b):zbd R a=zbd R b:=by
 unfold zbd
 rw[←zd2 (n:=a),←zd2 (n:=b),←zd2 (n:=a),←zd2 (n:=b),h]
theorem zcZ:zcu []:=fun a h=>by cases h
theorem one_of{R:List RecL}{hs:List Nm}:zcu (zbx R hs):=by
 have key:∀x∈zbx R hs,x.2=zbd R x.1:=fun x hx=>by
  obtain⟨n,_,hn⟩:=List.mem_filterMap.1 hx
  split at hn
  ·cases hn
  ·cases hn;rfl
 intro a ha b hb h
 rw[key a ha,key b hb,zk3 h]
theorem at_one{R:List RecL}{n:Nm}{t:Int}{b:Bool}:zcu (atL R n t b).glue:=by
 unfold atL
 split
 ·exact zcZ
 ·split<;>exact zcZ
theorem go_one{o:Nm}{R:List RecL}{q:Nm}:∀{l:List Nm} {r:ResL},goL o R q l=some r→zcu r.glue
 | [],r,h=>by cases h
 |n::l,r,h=>by
  unfold goL at h
  split at h
  ·cases h;exact one_of
  ·split at h
   ·cases h
   ·cases hr:zaG R q n with
    |none=>rw[hr]at h;exact go_one h
    |some x=>
     rw[hr]at h
     cases h
     unfold zaG at hr
     split at hr
     ·cases hr
     ·split at hr
      ·cases hr;exact zcZ
      ·cases hr;exact zcZ
theorem look_one{o:Nm}{R:List RecL}{q:Nm}{t:Int}:zcu (za3 o R q t).glue:=by
 unfold za3
 split
 ·exact zcZ
 ·cases hg:goL o R q (za8 o q) with
  |some r=>
   dsimp only
   exact go_one hg
  |none=>
   dsimp only
   split
   ·exact at_one
   ·cases hs:zaZ o R q with
    |some s=>
     dsimp only
     exact at_one
    |none=>
     dsimp only
     exact zcZ
theorem ask_one{N:NetL}{s:Int}{q:Nm}{t:Int}:zcu (askN N s q t).glue:=by
 unfold askN
 split
 ·cases (N.zones s)[(zbN N s q).1.toNat]? with
  |some z=>exact look_one
  |none=>exact zcZ
 ·exact zcZ
theorem next_DS{N:NetL}{s:zax}{t:Int}:zkF N s t=zc1 N s t:=next_D zi5 ask_one
theorem zk2{o:Nm}{R:List RecL}{q:Nm}:∀{l:List Nm} {r:ResL},goL o R q l=some r→r.kind=4→∃c,r.data=datC R c 2
 | [],r,h,_=>by cases h
 |n::l,r,h,h4=>by
  unfold goL at h
  split at h
  ·cases h;exact⟨n,rfl⟩
  ·split at h
   ·cases h
   ·cases hr:zaG R q n with
    |none=>rw[hr]at h;exact zk2 h h4
    |some x=>
     rw[hr]at h
     cases h
     unfold zaG at hr
     split at hr
     ·cases hr
     ·split at hr
      ·cases hr;cases h4
      ·cases hr;cases h4
theorem zkJ{o:Nm}{R:List RecL}{q:Nm}{t:Int}(h4:(za3 o R q t).kind=4):∃c,(za3 o R q t).data=datC R c 2:=by
 have atN:∀{n:Nm} {b:Bool},(atL R n t b).kind≠4:=fun {n b} h=>by
  unfold atL at h
  split at h
  ·cases h
  ·split at h<;>cases h
 unfold za3 at h4 ⊢
 split at h4
 ·cases h4
 ·rename_i hu
  rw[if_neg hu]
  cases hg:goL o R q (za8 o q) with
  |some r=>
   rw[hg]at h4
   exact zk2 hg h4
  |none=>
   rw[hg]at h4
   dsimp only at h4
   split at h4
   ·exact absurd h4 atN
   ·cases hs:zaZ o R q with
    |some s=>
     rw[hs]at h4
     exact absurd h4 atN
    |none=>
     rw[hs]at h4
     cases h4
theorem ask_lead{N:NetL}(hG:NetZ N){s:Int}{q:Nm}{t:Int}(mq:NmM q):LeadD (askN N s q t):=by
 intro h1 h2 h3 h6 h7 h5 d hd
 have h4:(askN N s q t).kind=4:=by
  rcases zi5 (N:=N) (s:=s) (q:=q) (t:=t) with h|h|h|h|h|h|h<;>first|exact h|exact absurd h ‹_›
 have hF:=zlt (s:=s) (t:=t) hG mq
 have hh:d.names≠ []:=by
  unfold askN at h4 hd
  split at h4
  ·rename_i hb
   rw[if_pos hb]at hd
   cases hz:(N.zones s)[(zbN N s q).1.toNat]? with
   |none=>rw[hz]at h4;cases h4
   |some z=>
    rw[hz]at h4 hd
    obtain⟨c,hc⟩:=zkJ h4
    dsimp only at hd
    rw[hc]at hd
    have gz:=(zbO hG).1 z (List.mem_of_getElem? hz)
    obtain⟨r,hr,hrd⟩:=zdo hd
    have hl:=gz.gd.lead r hr (by rw[hrd,zen hd];exact .inl rfl)
    intro hn
    rw[hrd,hn]at hl
    cases hl
  ·cases h4
 cases hn:d.names with
 |nil=>exact absurd hn hh
 |cons n l=>
  refine⟨n,l,rfl,hF.tg n ?_⟩
  show n∈(askN N s q t).data.filterMap fun d=>d.names.head?
  exact List.mem_filterMap.2 ⟨d,hd,by rw[hn];rfl⟩
def goodS(N:NetL)(s:zax):Bool:=decide (s.sv≥0) && (decide (s.sv<(N.hosts.length:Int)) && (zcT s.name && (decide (s.rw≥0) && (decide (s.rw≤N.rw) && (decide (s.rf≥0) && (decide (s.rf≤N.rf) && (decide (s.fin≥0) && decide (s.fin≤9))))))))
structure GoodSt(N:NetL)(s:zax):Prop where
 s0:0≤s.sv
 s1:s.sv<(N.hosts.length:Int)
 nm:zcT s.name=true
 w0:0≤s.rw
 w1:s.rw≤N.rw
 f0:0≤s.rf
 f1:s.rf≤N.rf
 e0:0≤s.fin
 e1:s.fin≤9
theorem zk0{N:NetL}{s:zax}:goodS N s=true↔GoodSt N s:=by
 unfold goodS
 simp only[Bool.and_eq_true,decide_eq_true_eq]
 exact⟨fun ⟨a,b,c,d,e,f,g,h,i⟩=>⟨a,b,c,d,e,f,g,h,i⟩,fun h=>⟨h.s0,h.s1,h.nm,h.w0,h.w1,h.f0,h.f1,h.e0,h.e1⟩⟩
set_option maxHeartbeats 2000000 in
theorem zk1{w0 w:World}(hE0:Ext w0 w){cs sc:List Value}{N:NetL}{s:zax}(hN:NetAt w0 cs N)(hs:StC w sc s):
  Fn Tryz.prog 33 #[.agg cs.toArray,.agg sc.toArray] w (fun v w'=>v= .bool (goodS N s)∧Ext w w'):=by
 obtain⟨hv,rv,rfl,hh,hro⟩:=hN.ex
 obtain⟨nv,rfl,hr⟩:=hs.ex
 obtain⟨ah,ch,rfl,_⟩:=hh.open
 obtain⟨ar,cr,rfl,_⟩:=hro
 obtain⟨an,cn,hnv,_⟩:=id hr
 unfold stV
 refine enter Tryz.func33 Tryz.ntmps33 rfl rfl ?_
 repeat refine c_r ?_
 rw[hnv]
 refine rg0 ?_
 rw[←hnv]
 repeat refine c_r ?_
 rw[zam]
 refine zaH ?_
 intro w1 hE1 hs1 hA hB
 have h0:zaf w1 (some ⟨w.heap.size,0,Option.none⟩)=some (.slice ah N.hosts.length ch):=zac hA rfl
 have n2:zaf w1 (some ⟨w.heap.size,2,Option.none⟩)=some (vi N.rw):=zac hA rfl
 have n3:zaf w1 (some ⟨w.heap.size,3,Option.none⟩)=some (vi N.rf):=zac hA rfl
 have a0:zaf w1 (some ⟨w.heap.size+1,0,Option.none⟩)=some (vi s.sv):=zac hB rfl
 have a1:zaf w1 (some ⟨w.heap.size+1,1,Option.none⟩)=some nv:=zac hB rfl
 have a2:zaf w1 (some ⟨w.heap.size+1,2,Option.none⟩)=some (vi s.rw):=zac hB rfl
 have a3:zaf w1 (some ⟨w.heap.size+1,3,Option.none⟩)=some (vi s.rf):=zac hB rfl
 have a5:zaf w1 (some ⟨w.heap.size+1,5,Option.none⟩)=some (vi s.fin):=zac hB rfl
 unfold goodS
 obtain⟨x0,k0⟩:∃x,decide (s.sv≥0)=x:=⟨_,rfl⟩
 obtain⟨x1,k1⟩:∃x,decide (s.sv<(N.hosts.length:Int))=x:=⟨_,rfl⟩
 obtain⟨x3,k3⟩:∃x,decide (s.rw≥0)=x:=⟨_,rfl⟩
 obtain⟨x4,k4⟩:∃x,decide (s.rw≤N.rw)=x:=⟨_,rfl⟩
 obtain⟨x5,k5⟩:∃x,decide (s.rf≥0)=x:=⟨_,rfl⟩
 obtain⟨x6,k6⟩:∃x,decide (s.rf≤N.rf)=x:=⟨_,rfl⟩
 obtain⟨x7,k7⟩:∃x,decide (s.fin≥0)=x:=⟨_,rfl⟩
 obtain⟨x8,k8⟩:∃x,decide (s.fin≤9)=x:=⟨_,rfl⟩
 rw[k0,k1,k3,k4,k5,k6,k7,k8]
 repeat refine c_r ?_
 refine zaC (Q:=fun e σ' ds' v'=>e= .normal∧ds'=[]∧Ext w1 v'∧σ' 4= .bool (x0 && (x1 && (zcT s.name && (x3 && (x4 && (x5 && (x6 && (x7 && x8))))))))) ?_ ?_
 ·cases x0
  ·refine rgg [(3,8),(11,16),(16,21),(21,26),(28,33),(33,38),(40,45),(45,50)] (an3 a0 k0 Nat.add_zero) ?_
   exact⟨rfl,rfl,Keep.refl _ _,vr0⟩
  cases x1
  ·refine rgg [(3,8),(11,16),(16,21),(21,26),(28,33),(33,38),(40,45),(45,50)] (an5 a0 k0 Nat.add_zero h0 k1) ?_
   exact⟨rfl,rfl,Keep.refl _ _,vr0⟩
  refine rcg [(3,8),(11,16),(16,21),(21,26),(28,33),(33,38),(40,45),(45,50)] (an7 a0 k0 Nat.add_zero h0 k1 a1 Nat.zero_add) (zgP w1 nv s.name (hr.ext hE1)) ?_
  rintro _ w2 ⟨rfl,hE2⟩
  have b2:=zab hE2 a2
  have b3:=zab hE2 a3
  have b5:=zab hE2 a5
  have m2:=zab hE2 n2
  have m3:=zab hE2 n3
  cases zcT s.name
  ·refine reg [(3,8),(11,16),(16,21),(21,26),(28,33),(33,38),(40,45),(45,50)] trivial ?_
   exact⟨rfl,rfl,hE2,vr0⟩
  cases x3
  ·refine reg [(3,8),(11,16),(16,21),(21,26),(28,33),(33,38),(40,45),(45,50)] (an3 b2 k3 Nat.zero_add) ?_
   exact⟨rfl,rfl,hE2,vr0⟩
  cases x4
  ·refine reg [(3,8),(11,16),(16,21),(21,26),(28,33),(33,38),(40,45),(45,50)] (an5 b2 k3 Nat.zero_add m2 k4) ?_
   exact⟨rfl,rfl,hE2,vr0⟩
  cases x5
  ·refine reg [(3,8),(11,16),(16,21),(21,26),(28,33),(33,38),(40,45),(45,50)] (an7 b2 k3 Nat.zero_add m2 k4 b3 k5) ?_
   exact⟨rfl,rfl,hE2,vr0⟩
  cases x6
  ·refine reg [(3,8),(11,16),(16,21),(21,26),(28,33),(33,38),(40,45),(45,50)] (an3 (an7 b2 k3 Nat.zero_add m2 k4 b3 k5) m3 k6) ?_
   exact⟨rfl,rfl,hE2,vr0⟩
  cases x7
  ·refine reg [(3,8),(11,16),(16,21),(21,26),(28,33),(33,38),(40,45),(45,50)] (an5 (an7 b2 k3 Nat.zero_add m2 k4 b3 k5) m3 k6 b5 k7) ?_
   exact⟨rfl,rfl,hE2,vr0⟩
  cases x8
  ·refine reg [(3,8),(11,16),(16,21),(21,26),(28,33),(33,38),(40,45),(45,50)] (an6 (an7 b2 k3 Nat.zero_add m2 k4 b3 k5) m3 k6 b5 k7 k8) ?_
   exact⟨rfl,rfl,hE2,vr0⟩
  refine reg [(3,8),(11,16),(16,21),(21,26),(28,33),(33,38),(40,45),(45,50)] (an6 (an7 b2 k3 Nat.zero_add m2 k4 b3 k5) m3 k6 b5 k7 k8) ?_
  exact⟨rfl,rfl,hE2,vr0⟩
 rintro _ σ1 _ w5 ⟨rfl,rfl,hE5,h4⟩
 repeat refine c_r ?_
 refine rt1 h4 Tryz.ntmps33 ?_
 exact⟨rfl,hE1.trans hE5⟩
theorem zjZ:∀{n:Nm},(∀l∈n,l≠ [])→2*n.length≤(n.map fun l=>1+l.length).sum
 | [],_=>by simp
 |l::n,h=>by
  have h1:=List.length_pos_iff.2 (h l (List.mem_cons_self ..))
  have h2:=zjZ (n:=n) fun m hm=>h m (List.mem_cons_of_mem _ hm)
  rw[List.map_cons,List.sum_cons,List.length_cons];omega
theorem zih{n:Nm}(h:zaF n=0):n.length≤127:=by
 have hl:=zbu h
 have h2:=zjZ fun l hm=>(hl l hm).1
 unfold zaF at h
 cases hf:n.find? (fun l=>decide (errL l≠0)) with
 |some x=>
  rw[hf]at h
  have h1:=List.find?_some hf
  simp at h1
  exact absurd h h1
 |none=>
  rw[hf]at h
  dsimp only at h
  split at h
  ·cases h
  ·rename_i h3
   unfold lenN at h3
   omega
theorem zjt{n:Nm}(h:zaF n=0):zcT n=true:=by
 unfold zcT
 rw[Bool.and_eq_true,decide_eq_true_eq]
 refine⟨?_,h⟩
 have h1:=zbu h
 have h2:=zih h
 unfold few
 simp only[Bool.and_eq_true,decide_eq_true_eq,List.all_eq_true]
 refine⟨by omega,fun l hl=>by have:=(h1 l hl).2;omega⟩
theorem GoodSt.b{N:NetL}{s:zax}(h:GoodSt N s)(hN:zeq N):StB s:=⟨(zcr h.nm).m,h.w0,by have:=h.w1;have:=hN.w.2;omega,h.f0,by have:=h.f1;have:=hN.f.2;omega⟩
structure zlM(N:NetL)(s x:zax):Prop where
 g:GoodSt N x
 w:s.rw≤x.rw
 f:s.rf≤x.rf
 m1:x.rw - s.rw+x.rf - s.rf≤1
 go:x.fin=0→x.rw - s.rw+x.rf - s.rf=1
theorem zhs{N:NetL}{s s0 x:zax}{k:Int}(hs:GoodSt N s)(hk:1≤k∧k≤9)(hw:s0.rw=s.rw)(hf:s0.rf≤s.rf∧s.rf≤s0.rf+1)(hx:x∈endS s k):zlM N s0 x:=by
 rw[List.mem_singleton.1 hx]
 exact⟨⟨hs.s0,hs.s1,hs.nm,hs.w0,hs.w1,hs.f0,hs.f1,by dsimp only;omega,hk.2⟩,by dsimp only;omega,by dsimp only;omega,by dsimp only;omega,fun h=>by dsimp only at h;omega⟩
theorem ziJ{α:Type}{p:α→Bool}:∀{l:List α} {i:Nat} {k:Int},k∈zcy p i l→(i:Int)≤k∧k<(i:Int)+(l.length:Int)
 | [],i,k,h=>by cases h
 |a::l,i,k,h=>by
  unfold zcy at h
  rcases List.mem_append.1 h with h|h
  ·split at h
   ·rw[List.mem_singleton.1 h,List.length_cons];omega
   ·cases h
  ·have:=ziJ h
   rw[List.length_cons];omega
theorem aliasS_F{N:NetL}{s x:zax}{to:Nm}(hN:zeq N)(hs:GoodSt N s)(h0:s.fin=0)(ht:zaF to=0)(hx:x∈zd6 N s to):zlM N s x:=by
 unfold zd6 at hx
 split at hx
 ·exact zhs hs (by omega) rfl (by omega) hx
 rename_i hw
 have hw':s.rw<N.rw:=by omega
 have g:∀k:Int,0≤k→k<(N.hosts.length:Int)→zlM N s {s with rw:=s.rw+1,name:=to,ref:=false,sv:=k}:=fun k h1 h2=>
  ⟨⟨h1,h2,zjt ht,by have:=hs.w0;dsimp only;omega,by dsimp only;omega,hs.f0,hs.f1,hs.e0,hs.e1⟩,by dsimp only;omega,by dsimp only;omega,by dsimp only;omega,fun _=>by dsimp only;omega⟩
 split at hx
 ·rw[List.mem_singleton.1 hx]
  exact g s.sv hs.s0 hs.s1
 ·unfold zcn at hx
  obtain⟨k,hk,rfl⟩:=List.mem_map.1 hx
  have:=hN.rin k hk
  exact g k this.1 this.2
theorem referS_F{N:NetL}{s x:zax}{r:ResL}(hs:GoodSt N s)(h0:s.fin=0)(hx:x∈zet N s r):zlM N s x:=by
 unfold zet at hx
 split at hx
 ·exact zhs hs (by omega) rfl (by omega) hx
 rename_i hw
 have hf0:=hs.f0
 have hs2:GoodSt N {s with rf:=s.rf+1}:=⟨hs.s0,hs.s1,hs.nm,hs.w0,hs.w1,by dsimp only;omega,by dsimp only;omega,hs.e0,hs.e1⟩
 obtain⟨h,_,hx⟩:=List.mem_flatMap.1 hx
 unfold zdC at hx
 rcases List.mem_append.1 hx with hx|hx
 ·split at hx
  ·exact zhs hs2 (by omega) rfl (by dsimp only;omega) hx
  ·cases hx
 ·obtain⟨k,hk,rfl⟩:=List.mem_map.1 hx
  unfold ofR zdX at hk
  have:=ziJ hk
  exact⟨⟨by dsimp only;omega,by dsimp only;omega,hs.nm,hs.w0,hs.w1,by dsimp only;omega,by dsimp only;omega,hs.e0,hs.e1⟩,by dsimp only;omega,by dsimp only;omega,by dsimp only;omega,fun _=>by dsimp only;omega⟩
theorem next_F{N:NetL}{s x:zax}{t:Int}(hN:zeq N)(hs:GoodSt N s)(hx:x∈zc1 N s t):s.fin=0∧zlM N s x:=by
 have hF:=zlt (s:=s.sv) (t:=t) hN.z (zcr hs.nm).m
 unfold zc1 at hx
 split at hx
 ·rename_i h0
  refine⟨h0,?_⟩
  repeat first| (split at hx;(first|exact zhs hs (by omega) rfl (by omega) hx|exact aliasS_F hN hs h0 (hF.nm (by assumption)) hx|exact referS_F hs h0 hx))|exact zhs hs (by omega) rfl (by omega) hx
 ·cases hx
theorem zgV{u:Int}{ds:List DatL}:(zaz u ds).length≤ds.length:=by
 unfold zaz
 split
 ·exact List.length_filterMap_le _ _
 ·simp
theorem next_len{N:NetL}{s:zax}{t:Int}(hN:NetZ N)(ms:NmM s.name):(zc1 N s t).length≤2000000:=by
 have hF:=zlt (s:=s.sv) (t:=t) hN ms
 have he:∀k:Int,(endS s k).length≤2000000:=fun k=>by unfold endS;simp
 have h1:=hN.rl
 have h2:=hN.hl
 unfold zc1
 split
 ·repeat (split;· exact he _)
  split
  ·unfold zd6
   split
   ·exact he _
   split
   ·simp
   ·unfold zcn;rw[List.length_map];omega
  split
  ·unfold zet
   split
   ·exact he _
   ·have h3:=zgC (fun a=>zhi (N:=N) (r:=askN N s.sv s.name t) (s:={s with rf:=s.rf+1}) (h:=a)) (zaz 2 (askN N s.sv s.name t).data)
    have h4:=zgV (u:=2) (ds:=(askN N s.sv s.name t).data)
    have h5:=hF.dl
    have h6:(zaz 2 (askN N s.sv s.name t).data).length*(N.hosts.length+1)≤1000*1001:=Nat.mul_le_mul (by omega) (by omega)
    omega
  split<;>exact he _
 ·simp
def zlP:Prop:=∀w:World,Fn Tryz.prog 31 #[] w (fun v w'=>v= .bool true∧Ext w w')
theorem next_nms{N:NetL}{s:zax}{t:Int}(hN:zeq N)(hs:GoodSt N s):∀x∈zc1 N s t,NmM x.name:=fun x hx=>(zcr (next_F hN hs hx).2.g.nm).m
theorem zkh{N:NetL}{s:zax}(hs:NmM s.name):∀x∈zcn N s,NmM x.name:=fun x hx=>by
 unfold zcn at hx
 obtain⟨r,_,rfl⟩:=List.mem_map.1 hx
 exact hs
theorem zki{N:NetL}{s:zax}(hN:NetZ N):(zcn N s).length≤1000000000:=by
 have:=hN.rl
 unfold zcn;rw[List.length_map];omega
set_option maxHeartbeats 4000000 in
theorem zim(hkn:zlP)(W:World){cs sc:List Value}{N:NetL}{s:zax}{t:Int}(hN:NetAt W cs N)(hv:NumN N)(hs:StC W sc s):
  Fn Tryz.prog 8 #[.agg cs.toArray,.agg sc.toArray,vi t] W (fun v w'=>v= .bool true∧Ext W w'):=by
 have hN0:=hN
 have hs0:=hs
 obtain⟨hsv,rv,rfl,hh,hr⟩:=hN.ex
 obtain⟨nv,rfl,hnm⟩:=hs.ex
 obtain⟨ah,ch,hhv,_⟩:=hh.open
 obtain⟨ar,cr,hrv,_⟩:=id hr
 obtain⟨an,cn,hnv,_⟩:=id hnm
 unfold stV
 refine enter Tryz.func8 Tryz.ntmps8 rfl rfl ?_
 repeat refine c_r ?_
 rw[hhv,hrv,hnv]
 refine rg0 ?_
 rw[←hhv,←hrv,←hnv]
 repeat refine c_r ?_
 rw[zam]
 refine zaH ?_
 intro w1 hE1 hs1 hA hB
 have dN:zat w1 (some ⟨W.heap.size,0,Option.none⟩) 4=some [hsv,rv,vi N.rw,vi N.rf]:=zah hA rfl
 have dS:zat w1 (some ⟨W.heap.size+1,0,Option.none⟩) 6=some (stV nv s):=zah hB rfl
 have p1:zaf w1 (some ⟨W.heap.size+1,1,Option.none⟩)=some nv:=zac hB rfl
 repeat refine c_r ?_
 refine rc trivial (hkn w1) ?_
 rintro _ w2 ⟨rfl,hE2⟩
 refine re trivial ?_
 repeat refine c_r ?_
 refine wf trivial ?_
 have dN2:=zae hE2 dN
 have dS2:=zae hE2 dS
 have hE12:=hE1.trans hE2
 repeat refine c_r ?_
 refine zaC (Q:=fun e σ' ds' v'=>e= .normal∧ds'=[]∧σ' 2=vi t∧σ' 3= .pointer (some ⟨W.heap.size,0,Option.none⟩)∧σ' 4= .pointer (some ⟨W.heap.size+1,0,Option.none⟩)∧Ext w2 v'∧∃bb,σ' 18= .bool bb∧(bb=false→zeq N∧GoodSt N s)) ?_ ?_
 ·refine rcg [(3,13)] dN2 (zlS w2 (hN0.ext hE12) hv) ?_
  rintro _ w3 ⟨hE3,b,rfl,hb⟩
  cases b with
  |false=>
   refine reg [(3,13)] Bool.not_false ?_
   exact⟨rfl,rfl,vq0,vq0,vq0,hE3,_,vr0,fun h=>by cases h⟩
  |true=>
   refine rdg [(3,13)] (an3 (zae hE3 dN2) (zae hE3 dS2) Bool.not_true) (zk1 (hE12.trans hE3) hN0 (hs0.ext (hE12.trans hE3))) ?_
   rintro _ w4 ⟨rfl,hE4⟩
   refine reg [(3,13)] trivial ?_
   exact⟨rfl,rfl,vq0,vq0,vq0,hE3.trans hE4,_,vr0,fun h=>⟨hb rfl,zk0.1 (by simpa using h)⟩⟩
 rintro _ σ1 _ w3 ⟨rfl,rfl,s2,s3,s4,hE3,bb,s18,hbb⟩
 have hE13:=hE12.trans hE3
 repeat refine c_r ?_
 cases bb with
 |true=>
  refine wt s18 ?_
  repeat (first|refine c_r ?_|refine rg0 ?_)
  refine rt0 Tryz.ntmps8 ?_
  exact⟨rfl,hE13⟩
 |false=>
 refine wf s18 ?_
 obtain⟨gN,gS⟩:=hbb rfl
 clear hbb s18
 have dN3:=zae hE3 dN2
 have mq:=(zcr gS.nm).m
 repeat refine c_r ?_
 refine rq ?_;intro gd K hgd hK
 try simp (disch:=first|omega|assumption|rfl) only[go_sem,s3,dN3]
 refine Fn.mono (Of16_ok w3 (hN0.ext hE13) gN.z) ?_
 rintro _ w4 ⟨hE4,cs',rfl,hX⟩
 obtain⟨hv',rv',rfl,hh',hr'⟩:=id hX.ex
 have hh1:=hh'.isOne
 have hr1:=hr'.isOne
 try simp only[go_sem]
 refine zbo (P:=Tryz.prog) (l:=[hv',rv',vi N.rw,vi N.rf]) rfl (fun v h=>by simp at h;rcases h with rfl|rfl|rfl|rfl<;>first|assumption|rfl) rfl rfl ?_
 intro w5 hE5 hs5 hC
 try simp only[go_sem]
 refine hK _ _ ?_;clear hK hgd;clear K;try clear gd
 have hE25:=(hE3.trans hE4).trans hE5
 have hE15:=hE12.trans (hE3.trans (hE4.trans hE5))
 have dN5:=zae hE25 dN2
 have dS5:=zae hE25 dS2
 have p15:=zab (hE2.trans hE25) p1
 have dX5:zat w5 (some ⟨w4.heap.size,0,Option.none⟩) 4=some [hv',rv',vi N.rw,vi N.rf]:=zah hC rfl
 have hX5:=hX.ext hE5
 have hnm5:=hnm.ext hE15
 have hs15:=hs0.ext hE15
 have bs:=gS.b gN
 have hl1:(zcn N ⟨0,s.name,0,0,false,0⟩).length≤1000000000:=zki gN.z
 have hl2:(zc1 N s t).length≤1000000000:=Nat.le_trans (next_len gN.z mq) (by decide)
 repeat refine c_r ?_
 refine zaN (fun _=>false) [(0,true),(1,true),(2,true),(4,true),(5,true),(6,true),(3,false),(7,false),(8,false),(9,true),(10,true),(11,true),(12,true),(14,true),(15,true),(17,true),(13,false),(16,false),(18,false),(19,false),(20,true),(21,true)] NoS mixed (by kernel_rfl) ?_;intro gd K x hgd hx hxe hK;clear hxe
 have hg9:∀n σ b,zas gd n σ (some (9,b))=zal (ev n σ (.tmp 30)) b:=(fun n σ b=>by rw[zad,show gd 9=some 30 from(by rw[hgd];rfl)];rfl)
 have dNx:=zae hx dN5
 have dSx:=zae hx dS5
 have dXx:=zae hx dX5
 have p1x:=zab hx p15
 simp (disch:=first|omega|assumption|rfl) only[go_sem,s2,s3,s4,dNx,dXx,p1x,Nat.zero_add]
 refine Fn.mono (zi8 (hE15.trans hx) hN0 gN.z.rl (hnm5.ext hx)) ?_
 rintro av y1 ⟨hy1,hA1⟩
 refine⟨.inr hy1,?_⟩
 simp (disch:=first|omega|assumption|rfl) only[go_sem]
 refine Fn.mono (zlF (hx.trans hy1) hX5 gN.z.rl (hnm5.ext (hx.trans hy1))) ?_
 rintro bv y2 ⟨hy2,hB2⟩
 refine⟨.inr hy2,?_⟩
 simp (disch:=first|omega|assumption|rfl) only[go_sem]
 refine Fn.mono (zgg y2 (Rows.extC (fun _ _ h=>StC.ext h hy2) hA1 hy2) hB2 (zkh mq) hl1) ?_
 rintro _ y3 ⟨rfl,hy3⟩
 refine⟨.inr hy3,?_⟩
 have hx3:=((hx.trans hy1).trans hy2).trans hy3
 have e1:=(hy1.trans hy2).trans hy3
 have dNy:=zae e1 dNx
 have dSy:=zae e1 dSx
 have dXy:=zae e1 dXx
 simp (disch:=first|omega|assumption|rfl) only[go_sem,s2,s3,s4,dNy,dXy,dSy,Nat.zero_add,zaW,↓hg9]
 refine Fn.mono (zgO (t:=t) (hE15.trans hx3) hN0 gN.z (hs15.ext hx3) bs) ?_
 rintro cv y4 ⟨hy4,hC4⟩
 refine⟨.inr hy4,?_⟩
 simp (disch:=first|omega|assumption|rfl) only[go_sem,zaW,↓hg9]
 refine Fn.mono (zlL y4 (hs15.ext (hx3.trans hy4))) ?_
 rintro _ y5 ⟨hy5,cb,rfl,hS5⟩
 refine⟨.inr hy5,?_⟩
 simp (disch:=first|omega|assumption|rfl) only[go_sem,zaW,↓hg9]
 refine Fn.mono (RNext_ok (t:=t) ((hx3.trans hy4).trans hy5) hX5 gN.z hS5 bs (ask_lead gN.z mq)) ?_
 rintro dv y6 ⟨hy6,hD6⟩
 refine⟨.inr hy6,?_⟩
 rw[next_DS]at hD6
 simp (disch:=first|omega|assumption|rfl) only[go_sem,zaW,↓hg9]
 refine Fn.mono (zgg y6 (Rows.extC (fun _ _ h=>StC.ext h (hy5.trans hy6)) hC4 (hy5.trans hy6)) hD6 (next_nms gN gS) hl2) ?_
 rintro _ y7 ⟨rfl,hy7⟩
 refine⟨.inr hy7,?_⟩
 simp (disch:=first|omega|assumption|rfl) only[go_sem,zaW,↓hg9]
 refine hK _ _ ?_;clear hK hgd;clear K;try clear gd
 repeat refine c_r ?_
 refine rt0 Tryz.ntmps8 ?_
 exact⟨rfl,((((hE15.trans hx3).trans hy4).trans hy5).trans hy6).trans hy7⟩
end Go.Proofs.YtopbbjdembnfdaaGreat
namespace Go.Proofs.YtopbbjdembnfdaaGreat
open Go Go.ChangeShapes Go.WideShapes Go.ChangeAt Go.RowKit Go.WideElems
theorem Ext.below{w x:World}(h:Ext w x):RowKit.Below w.heap.size w x:=⟨h.os,h.tape,h.output,h.size,fun k hk=>h.block k hk (fun h=>h)⟩
theorem Ext.kept{w x:World}(h:Ext w x)(may:MemPlace→Prop):w.keptBut x may:=by
 refine⟨h.os,h.output,fun i hi=>?_⟩
 rw[h.block i hi (fun h=>h)]
 cases hw:w.heap[i]? with
 |none=>trivial
 |some o=>cases o<;>simp
theorem zdM{H:Type}{enc:TypeId×Value→H}{P:Program}(hl:laidOutB P=true){W W':World}{sp:Nat→Bool}(hE:Ext W W'):
  ∀{ts:List TypeId} {vs:List Value} {ds:List (DataW H)} {ps:List MemPlace},(∀t∈ts,P.readableRec t=true∧t<P.types.size)→DataW.TrodAll enc P W 0 (fun _=>true) true ts vs ds ps→(∀x∈ps,x.block<W.heap.size)→(∀x∈ps,sp x.block=true)→
   DataW.TrodAll enc P W' 0 sp true ts vs ds ps
 | [],_,_,_,_,h,_,_=>by
  obtain⟨rfl,rfl,rfl⟩:=trodAll_nil h
  exact trodAll_mk0
 |_::_,_,_,_,ht,h,hlt,hs=>by
  obtain⟨v,vs1,d,ds1,a,b,rfl,rfl,rfl,h1,h2⟩:=trodAll_cons h
  obtain⟨hr,hrow⟩:=ht _ (List.mem_cons_self ..)
  exact trodAll_cons_mk (WideElems.Trod_stays hl hr hrow h1 (fun x hx=>hE.below.same (hlt x (List.mem_append_left _ hx))) (fun x hx=>hs x (List.mem_append_left _ hx)))
   (zdM hl hE (fun t h=>ht t (List.mem_cons_of_mem _ h)) h2 (fun x hx=>hlt x (List.mem_append_right _ hx)) (fun x hx=>hs x (List.mem_append_right _ hx)))
theorem zjv{w x:World}(h:Ext w x){b:Nat}(hb:b<w.heap.size)(o:Nat):x.frozen? ⟨b,o,Option.none⟩=w.frozen? ⟨b,o,Option.none⟩:=by
 unfold World.frozen?
 rw[h.block b hb (fun h=>h)]
theorem law_post{H:Type}{enc:TypeId×Value→H}{P:Program}{f:Func}{s:ChangeSpec}{apart fresh handsOn again:Bool}{W W':World}{args:Array Value}{ds gs:List (DataW H)}{before:List MemPlace}
  (hW:DataW.Whole enc P f.params.toList s.vars apart W args.toList ds gs before) (hvn:s.vars=[]) (hspec:s.fn H ds={results:=[.lit (.bool true)],args:=ds}) {tb:TypeId} (hrt:f.resultTypes=#[tb]) (htb:P.underlying tb=some .bool)
  (hl:laidOutB P=true) (hrd:∀t∈f.params.toList,P.readableRec t=true∧t<P.types.size) (hE:Ext W W'):s.post enc P f apart fresh handsOn again W args (.bool true) W':=by
 have hlt:=hW.lt
 have hW0:=hW
 obtain⟨p,q,hA,hV,hpq,hfz,hnd⟩:=hW
 have hq:gs=[]∧q=[]:=by
  rw[hvn]at hV
  cases gs with
  |nil=>exact⟨rfl,hV⟩
  |cons _ _=>exact hV.elim
 obtain⟨rfl,rfl⟩:=hq
 rw[List.append_nil]at hpq
 subst hpq
 have hres:∀(b:Nat) (sp:Nat→Bool) (hd:Bool),DataW.TrodAll enc P W' b sp hd f.resultTypes.toList ((Value.bool true).resultList f.resultTypes.size) (s.fn H (ds++ [])).results []:=fun b sp hd=>by
  rw[List.append_nil,hspec,hrt]
  exact trodAll_mk1 (shut_bool htb true)
 have hargs:∀sp:Nat→Bool,(∀x∈before,sp x.block=true)→DataW.TrodAll enc P W' 0 sp true f.params.toList args.toList (s.fn H (ds++ [])).args before:=fun sp hs=>by
  rw[List.append_nil,hspec]
  exact zdM hl hE hrd hA hlt hs
 have hvars:∀sp:Nat→Bool,DataW.TrodVars enc P W' sp s.vars (s.fn H (ds++ [])).vars []:=fun sp=>by
  rw[List.append_nil,hspec,hvn];rfl
 have hold:∀x∈before,(fun b=>decide (b<W.heap.size)) x.block=true:=fun x hx=>by simpa using hlt x hx
 refine⟨ds,[],before,[],before,[],hW0,hres _ _ _,hargs _ hold,hvars _,hE.kept _,fun _=>?_⟩
 refine⟨fun j t r h1 h2=>?_,_,_,([]++before)++ [],⟨[]++before,[],trodAll_append (hargs _ (fun _ _=>rfl)) (hres _ _ _),hvars _,rfl,?_,?_⟩,?_⟩
 ·rw[hrt]at h1 h2
  match j with
  |0=>
   simp at h1
   subst h1
   have:r= .bool true:=by simpa [Value.resultList] using h2.symm
   subst this
   exact okWide_bool_mk htb true
  |j+1=>simp at h1
 ·intro b off hp
  have hp':MemPlace.cell b off∈before:=by simpa using hp
  rw[zjv hE (show b<W.heap.size from hlt _ hp')]
  exact hfz b off hp'
 ·intro ha
  simpa using hnd ha
 ·intro x hx _
  simpa using hx
theorem law_lift{C:Checked}{os:Os}{f:FuncId}{fn:Func}{s:ChangeSpec}{conds:List PathCond}{apart fresh handsOn again:Bool}{H:Type}{enc:TypeId×Value→H}
  (own:ownKnob C.prog.godebug=none) (started:os.Started) (noInit:C.prog.inits.idxOf? f=none) (hfn:C.prog.funcs[f]? =some fn)
  (witness:∃(w:World) (tape:Tape) (i:Input),w.os=os∧(w.forCall tape i).Shaped C.prog∧i.vars=[]∧Input.okWide C.prog (w.forCall tape i) .any w.heap.size f i∧
   s.pre6 enc C.prog fn conds apart (w.forCall tape i).memory i.args∧({}:Assume).holds C.prog (lone (Frame.enter C.prog f i.args .normal) [] (w.forCall tape i)))
  (hvn:s.vars=[]) (hspec:∀ds:List (DataW H),ds.length=fn.params.size→s.fn H ds={results:=[.lit (.bool true)],args:=ds}) {tb:TypeId} (hrt:fn.resultTypes=#[tb]) (htb:C.prog.underlying tb=some .bool)
  (hl:laidOutB C.prog=true) (hrd:fn.params.toList.all (fun t=>C.prog.readableRec t && decide (t<C.prog.types.size))=true)
  (walk:∀(W:World) (base:Nat) (args:List Value) (ds:List (DataW H)) (p:List MemPlace),(∀(j:Nat) t v,fn.params[j]? =some t→args[j]? =some v→Value.okWide C.prog W .any base t v)→
   DataW.TrodAll enc C.prog W 0 (fun _=>true) true fn.params.toList args ds p→(∀x∈DataW.weightsEach C.prog fn.params.toList ds,x≤reachBytes)→Fn C.prog f args.toArray W (fun v W'=>v= .bool true∧Ext W W')):
  ReturnsInHanded {} C os f .any (s.pre6 enc C.prog fn conds apart) (s.post enc C.prog fn apart fresh handsOn again):=by
 refine returnsInHanded_of_change_sized own started noInit hfn witness ?_
 intro W base args ds gs before hval hW _ hwt _
 have hW0:=hW
 obtain⟨p,q,hA,hV,_⟩:=hW
 have hgs:gs=[]:=by
  rw[hvn]at hV
  cases gs with
  |nil=>rfl
  |cons _ _=>exact hV.elim
 subst hgs
 have hvt:s.plain.varTypes C.prog=[]:=by
  unfold DataSpec.varTypes
  rw[show s.plain.vars=[] from hvn];rfl
 rw[hvt,List.append_nil,List.append_nil]at hwt
 have hlen:∀{ts:List TypeId} {vs:List Value} {ds:List (DataW H)} {ps:List MemPlace},DataW.TrodAll enc C.prog W 0 (fun _=>true) true ts vs ds ps→ds.length=ts.length:=by
  intro ts
  induction ts with
  |nil=>intro vs ds ps h;obtain⟨rfl,rfl,rfl⟩:=trodAll_nil h;rfl
  |cons t ts ih=>
   intro vs ds ps h
   obtain⟨v,vs1,d,ds1,a,b,rfl,rfl,rfl,h1,h2⟩:=trodAll_cons h
   simp[ih h2]
 have hw:=walk W base args.toList ds p (fun j t v h1 h2=>hval j t v h1 (by simpa using h2)) hA (fun x hx=>by simpa using (List.all_eq_true.1 hwt) x hx)
 rw[Array.toArray_toList]at hw
 refine Calls.mono (callsIn_wide.1 hw) ?_
 rintro e W' ⟨v,rfl,rfl,hE⟩
 refine⟨_,rfl,law_post hW0 hvn (hspec ds (by rw[hlen hA];simp)) hrt htb hl (fun t ht=>?_) hE⟩
 have:=(List.all_eq_true.1 hrd) t ht
 simpa using this
/-! arguments -/
section
variable {H : Type} {enc : TypeId × Value → H} {P : Program} {w : World} {base : Nat} {sp : Nat → Bool} {held : Bool}
def Rd(enc:TypeId×Value→H)(P:Program)(w:World)(base:Nat)(sp:Nat→Bool)(held:Bool)(t:TypeId)(v:Value):Prop:=∃n x,DataW.trod enc P w base sp held n t [v]=some x∧∀k∈x.1.weights P t,k≤reachBytes
theorem zcH{e:TypeId}{d:DataW H}{k:Nat}:∀{l:List (DataW H)},d∈l→k∈d.weights P e→k∈DataW.weightsAll P e l
 |a::l,hd,hk=>by
  simp only[DataW.weightsAll,List.mem_append]
  rcases List.mem_cons.1 hd with rfl|hd
  ·exact .inl hk
  ·exact .inr (zcH hd hk)
theorem zgn{t e:TypeId}{v:Value}(h:Rd enc P w base sp held t v)(ht:P.underlying t=some (.slice e))(hc:P.cellsOf e=1):
  ∃vals,Row w v vals∧(∀u∈vals,Rd enc P w base sp held e u)∧vals.length*P.bytesOf e≤reachBytes:=by
 obtain⟨n,x,h,hw⟩:=h
 rcases Go.Deep.open_slice1 ht hc h with ⟨h1,_⟩| ⟨a,len,cap,m,k,V,D,Pl,h1,_,hl,hm,hmm,rfl,hx⟩
 ·simp only[List.cons.injEq,and_true]at h1
  subst h1
  exact⟨[],⟨Option.none,0,rfl,Nat.le_refl _,fun j h=>by simp at h⟩,fun u h=>(by cases h),by simp⟩
 ·simp only[List.cons.injEq,and_true]at h1
  subst h1
  have hml:len≤m:=by rw[hmm];split<;>omega
  simp only[DataW.weights,ht]at hw
  refine⟨(List.range len).map V,⟨some a,cap,by simp,by simpa using hl,fun j hj=>?_⟩,fun u hu=>?_,?_⟩
  ·simp at hj
   have:=(hx j (by omega)).1
   simpa [zaf,adr] using this
  ·obtain⟨j,hj,rfl⟩:=List.mem_map.1 hu
   simp at hj
   refine⟨_,_,(hx j (by omega)).2,fun q hq=>hw q (List.mem_cons_of_mem _ (List.mem_append_left _ (zcH (d:=D j) ?_ hq)))⟩
   exact List.mem_map.2 ⟨j,by simpa using hj,rfl⟩
  ·have h1:=hw _ (List.mem_cons_self ..)
   have h2:((List.range len).map V).length*P.bytesOf e≤(((List.range len).map D).length+((List.range (m - len)).map fun j=>D (len+j)).length)*P.bytesOf e:=Nat.mul_le_mul (by simp) (Nat.le_refl _)
   omega
theorem zkn{t:TypeId}{v:Value}(h:Rd enc P w base sp held t v)(ht:P.underlying t=some .string):∃s:List UInt8,v=vs s∧s.length≤reachBytes:=by
 obtain⟨n,x,h,hw⟩:=h
 cases n with
 |zero=>cases h
 |succ n=>
  unfold DataW.trod at h
  rw[ht]at h
  cases v<;>simp at h
  rename_i s
  obtain⟨_,rfl⟩:=h
  exact⟨s.data.toList,by simp[vs],by simpa [DataW.weights,ByteArray.toList_eq] using hw⟩
theorem zh8{α β:Type}{f:α→β}{Q:α→Prop}:∀{l:List β},(∀u∈l,∃s,u=f s∧Q s)→∃m:List α,l=m.map f∧∀s∈m,Q s
 | [],_=>⟨[],rfl,fun s h=>by cases h⟩
 |b::l,h=>by
  obtain⟨s,rfl,hq⟩:=h b (List.mem_cons_self ..)
  obtain⟨m,rfl,hm⟩:=zh8 (fun u hu=>h u (List.mem_cons_of_mem _ hu))
  refine⟨s::m,rfl,fun x hx=>?_⟩
  rcases List.mem_cons.1 hx with rfl|hx
  ·exact hq
  ·exact hm x hx
end
end Go.Proofs.YtopbbjdembnfdaaGreat
namespace Go.Proofs.YtopbbjdembnfdaaGreat
open Go
section
variable {H : Type} {enc : TypeId × Value → H} {P : Program} {w : World} {base : Nat} {sp : Nat → Bool} {held : Bool}
structure NmOk(n:Nm):Prop where
 lb:LB n
 len:n.length≤100000000000000
theorem reach_lt:reachBytes<140737488355328:=by decide
theorem zed{t e:TypeId}{v:Value}(h:Rd enc P w base sp held t v)(ht:P.underlying t=some (.slice e))(hc:P.cellsOf e=1)(he:P.underlying e=some .string)(hb:P.bytesOf e=16):∃n:Nm,Row w v (n.map vs)∧NmOk n:=by
 obtain⟨vals,hr,hall,hl⟩:=zgn h ht hc
 obtain⟨m,rfl,hm⟩:=zh8 (f:=vs) (fun u hu=>zkn (hall u hu) he)
 have:=reach_lt
 rw[hb]at hl
 exact⟨m,hr,fun l hl=>by have:=hm l hl;omega,by simp at hl;omega⟩
theorem rd_names{t ts tb:TypeId}{v:Value}(h:Rd enc P w base sp held t v)(ht:P.underlying t=some (.slice ts))(hc:P.cellsOf ts=1)(ht2:P.underlying ts=some (.slice tb))(hc2:P.cellsOf tb=1)(he:P.underlying tb=some .string)(hb:P.bytesOf tb=16):
  ∃L:List Nm,NamesAt w v L∧∀n∈L,NmOk n:=by
 obtain⟨vals,hr,hall,hlen0⟩:=zgn h ht hc
 have:∃L:List Nm,(vals.length=L.length∧∀i (h:i<vals.length) (h':i<L.length),Row w vals[i] (L[i].map vs))∧∀n∈L,NmOk n:=by
  clear hr h hlen0
  induction vals with
  |nil=>exact⟨[],⟨rfl,fun i h=>by simp at h⟩,fun n h=>by cases h⟩
  |cons u vals ih=>
   obtain⟨n,hn,hok⟩:=zed (hall u (List.mem_cons_self ..)) ht2 hc2 he hb
   obtain⟨L,⟨h1,h2⟩,h3⟩:=ih (fun x hx=>hall x (List.mem_cons_of_mem _ hx))
   refine⟨n::L,⟨by simp[h1],fun i a b=>?_⟩,fun x hx=>?_⟩
   ·cases i with
    |zero=>exact hn
    |succ i=>exact h2 i (by simpa using a) (by simpa using b)
   ·rcases List.mem_cons.1 hx with rfl|hx
    ·exact hok
    ·exact h3 x hx
 obtain⟨L,⟨h1,h2⟩,h3⟩:=this
 exact⟨L,⟨vals,hr,h1,h2⟩,h3⟩
end
end Go.Proofs.YtopbbjdembnfdaaGreat
