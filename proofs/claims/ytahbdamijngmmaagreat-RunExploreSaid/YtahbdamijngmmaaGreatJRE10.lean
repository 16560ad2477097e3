/-
  Texts of a proof, joined: U6, U7, U8, U9, OH, O9, OA, TP, H0, A0, M2, L1, M3b, M3, A1, A2, A3, A4, A5, A6, A7, X2, KR, KR2, G8, L3.
  Conditions: none.
-/
import Derived.Test.YtahbdamijngmmaaGreatJRE09
import Derived.Test.YtahbdamijngmmaaGreatJRE08
import Derived.Test.YtahbdamijngmmaaGreatJRE02
import Derived.Test.YtahbdamijngmmaaGreatJRE07
import Derived.Test.YtahbdamijngmmaaGreatProg
import Derived.Ground.SlsfProg
import Derived.Shelf.SlSortCmp.NoneTotal
import Derived.Test.YtahbdamijngmmaaGreatJRE03
import Derived.Test.YtahbdamijngmmaaGreatJRE04
set_option linter.unusedVariables false
set_option linter.unusedSimpArgs false
set_option linter.defProp false
set_option linter.unnecessarySimpa false
set_option maxHeartbeats 8000000
namespace Go.Proofs.YtahbdamijngmmaaGreat
open Go
set_option maxRecDepth 10000
theorem zjb{w0 w:World}(hE0:Ext w0 w){cs:List Value}{N:NetL}(hN:NetAt w0 cs N)(hG:NetZ N){nv tv:Value}{s:zao}{to:Nm}(hr:Row w nv (s.name.map vs))(ht:Row w tv (to.map vs))(mt:NmM to)(b0:0<=s.rw)(b1:s.rw<=1000000):
  Fn Tryz.prog 142 #[.agg cs.toArray,.agg (stV nv s).toArray,tv] w (fun v w'=>Ext w w'/\Rows 6 (StC w') w' v (zdV N s to)/\BlkB w.heap.size w' v):=by
 have hN0:=hN;obtain⟨hv,rv,rfl,hh,hro⟩:=hN.ex;obtain⟨ah,ch,hhv,_⟩:=hh.open;have hro0:=hro;obtain⟨ar,cr,hrv,hcr,hgr⟩:=hro;simp only[ylm]at hcr hgr hrv;obtain⟨an,cn,hnv,_⟩:=id hr;have t1:=ht.isOne;have hrl:=hG.rl;obtain⟨at1,ct,htv,_⟩:=id ht;unfold stV;refine enter Tryz.func142 Tryz.ntmps142 rfl rfl ?_;repeat refine c_r ?_
 rw[hhv,hrv,hnv];refine rg0 ?_;rw[←hhv,←hrv,←hnv];repeat refine c_r ?_
 rw[zak];refine zaI ?_;intro w1 hE1 hs1 hB hA;have p2:zad w1 (some ⟨w.heap.size+1,2,.none⟩)=some (vi s.rw):=zab hA rfl;have q2:zad w1 (some ⟨w.heap.size,2,.none⟩)=some (vi N.rw):=zab hB rfl;have dA:zaq w1 (some ⟨w.heap.size+1,0,.none⟩) 6=some (stV nv s):=zaf hA rfl;repeat refine c_r ?_
 unfold zdV;by_cases hge:s.rw>=N.rw
 ·rw[if_pos hge];refine gz (az4 p2 q2 yn0 (yet hge)) ?_;refine wt trivial ?_;repeat refine c_r ?_
  refine rc dA (zcc w1 (hr.ext hE1) s 7) ?_;rintro v w2 ⟨hE2,hv2,hvb⟩;refine re trivial ?_;repeat refine c_r ?_
  refine rt0 Tryz.ntmps142 ?_;exact⟨hE1.trans hE2,zda hv2 (fun x hx=>by rw[zbN hx];exact hr.ext (hE1.trans hE2)),hvb.mono hE1.size⟩
 rw[if_neg hge];refine gz (az4 p2 q2 yn0 (yef hge)) ?_;refine wf trivial ?_;refine rqz ?_;intro gd K hgd hK;refine sgz (az2 p2 yn0) ?_;refine zaU (P:=Tryz.prog) (t:=3) (j:=2) (u:=vi (s.rw+1)) (l:=stV nv s) hA (by show 2<6;decide) rfl rfl rfl ?_;intro w2 hs2 hA2 hk2;try simp only[go_sem]
 apply hK;refine rqz ?_;intro gd K hgd hK;try simp only[go_sem]
 refine zaU (P:=Tryz.prog) (t:=26) (j:=1) (u:=tv) hA2 (by show 1<6;decide) t1 rfl rfl ?_;intro w3 hs3 hA3 hk3;try simp only[go_sem]
 apply hK;refine rqz ?_;intro gd K hgd hK;try simp only[go_sem]
 refine zaU (P:=Tryz.prog) (t:=4) (j:=4) (u:= .bool false) hA3 (by show 4<6;decide) rfl rfl rfl ?_;intro w4 hs4 hA4 hk4;try simp only[go_sem]
 apply hK;obtain⟨s2,hs2e⟩:∃s2:zao,{s with rw:=s.rw+1,name:=to,ref:=false}=s2:=⟨_,rfl⟩;have hA4':w4.heap[w.heap.size+1]? =some (.cells (stV tv s2).toArray 84 (0,0)):=by rw[←hs2e];exact hA4
 have hE4:Ext w w4:=Keep.to_ext (Keep.to_ext (Keep.to_ext hE1 rfl (fun b hb=>by omega) hk2) rfl (fun b hb=>by omega) hk3) rfl (fun b hb=>by omega) hk4;have hB4:=(hk4.block _ (by omega) (by omega)).trans ((hk3.block _ (by omega) (by omega)).trans ((hk2.block _ (by omega) (by omega)).trans hB));have dN:zaq w4 (some ⟨w.heap.size,0,.none⟩) 4=some [hv,rv,vi N.rw,vi N.rf]:=zaf hB4 rfl;have r0:zad w4 (some ⟨w.heap.size+1,0,.none⟩)=some (vi s.sv):=by rw[←hs2e]at hA4';exact zab hA4' rfl
 have hE04:=hE0.trans hE4;have mn:s2.name=to:=by rw[←hs2e]
 rw[hs2e];repeat refine c_r ?_
 refine rc (an3 dN r0 Nat.add_zero) (zj6 (s:=s.sv) hE04 hN0 hG (ht.ext hE4) mt) ?_;rintro _ w5 ⟨rfl,hE5⟩;refine re trivial ?_;have hE45:=hE4.trans hE5;have dS:zaq w5 (some ⟨w.heap.size+1,0,.none⟩) 6=some (stV tv s2):=zac hE5 (zaf hA4' rfl);have hA5:=Ext.at hE5 hA4';have p1:zad w5 (some ⟨w.heap.size,1,.none⟩)=some (.slice ar N.roots.length cr):=by rw[←hrv];exact zab (Ext.at hE5 hB4) rfl
 have hs5:=hE5.size;refine gz0 ?_;cases hb:(zbU N s.sv to).2 with
 |true=>
  rw[if_pos rfl];refine wt trivial ?_;refine rqz ?_;intro gd K hgd hK;refine sgz dS ?_;refine zaL (C:=StN tv) (zbc tv) (l:=stV tv s2) (a:=s2) (by rfl) (by rfl) (by rfl) (by rfl) ⟨rfl,t1⟩ (by decide) ?_;intro w6 hE6 hs6 ho6;try simp only[go_sem]
  refine en hK ?_;refine rt0 Tryz.ntmps142 ?_;exact⟨hE45.trans hE6,zda ho6.rows (fun x hx=>by rw[List.mem_singleton.1 hx,mn];exact ht.ext (hE45.trans hE6)),ho6.blk.mono hE45.size⟩
 |false=>
  rw[if_neg Bool.false_ne_true];refine wf trivial ?_;refine gz0 ?_;obtain⟨b3,hb3⟩:∃b,w.heap.size+1=b:=⟨_,rfl⟩;rw[hb3]at hA5 dS ⊢;refine zap (fun m σ ds A=>ds=[]/\∃(i:Nat) (ov:Value) (s':zao),i+m=N.roots.length/\σ 10=vi i/\σ 9=ov/\σ 3= .pointer (some ⟨w.heap.size,0,.none⟩)/\σ 4= .pointer (some ⟨b3,0,.none⟩)/\A.heap[b3]? =some (.cells (stV tv s').toArray 84 (0,0))/\(∃k,s'={s2 with sv:=k})/\
   Owns 6 (StN tv) w5.heap.size A 84 ov ((N.roots.take i).map fun r=>{s2 with sv:=r})/\KeepB w5.heap.size (fun b=>b=b3) w5 A) N.roots.length ?_ ?_
  ·exact⟨rfl,0,.slice .none 0 0,s2,by omega,vr0,vr0,vr0,vr0,hA5,⟨s2.sv,rfl⟩,Owns.nil _ _ _ _ _,KeepB.refl _ _ _⟩
  rintro m σ ds A ⟨rfl,i,ov,s',him,s10,s9,s3,s4,hB3,⟨k0,hs'⟩,hown,hKA⟩;have hszA:=hKA.size;have hEA:Ext w A:=Keep.to_ext hE45 rfl (fun b hb=>by omega) hKA.keep;have p1A:zad A (some ⟨w.heap.size,1,.none⟩)=some (.slice ar N.roots.length cr):=by
   rw[←hrv];exact zab ((hKA.keep.block _ (by omega) (by omega)).trans (Ext.at hE5 hB4)) rfl
  refine gz (az4 s10 s3 p1A yn0) ?_;refine wc0 ?_ ?_
  ·intro hlt;simp only[ydT]at hlt;have hi:i<N.roots.length:=by omega
   have hi0:=cj i;have hi1':=ci i;have hg:=zaa (hE0.trans hEA) (hgr i hi);rw[List.getElem_map]at hg;obtain⟨xz,rfl⟩:=yxs (zag (hgr 0 (by omega)));refine rqz ?_;intro gd K hgd hK;refine sgz (az2 (az7 s10 s3 s4 p1A hi0 hlt hg) (az2 Nat.mul_one yn0)) ?_;refine zaU (P:=Tryz.prog) (t:=3) (j:=0) (u:=vi N.roots[i]) (l:=stV tv s') hB3 (by show 0<6;decide) rfl rfl rfl ?_;intro A1 hs6 hB1 hk1;try simp only[go_sem]
   apply hK;have hB1':A1.heap[b3]? =some (.cells (stV tv {s2 with sv:=N.roots[i]}).toArray 84 (0,0)):=by rw[hs']at hB1;exact hB1
   have d:zaq A1 (some ⟨b3,0,.none⟩) 6=some (stV tv {s2 with sv:=N.roots[i]}):=zaf hB1' rfl;have hown1:=hown.keep hk1 (fun b hb hb2=>by have:=(hown.ge hb).1;omega);refine rqz ?_;intro gd K hgd hK;refine sgz (az3 s9 s4 d) ?_;refine zaL (C:=StN tv) (zbc tv) (l:=stV tv {s2 with sv:=N.roots[i]}) (by rfl) (by rfl) (by rfl) (by rfl) ⟨rfl,t1⟩ (by decide) ?_;intro A2 hE7 hs7 ho7;try simp only[go_sem]
   refine zaC (zbc tv) (hown1.ext hE7) ho7.rows (by rfl) (by rfl) (by rfl) (by rfl) (by rfl) (by rfl) (by decide) ((vr1 s9)) vr0 (by simp;omega) (by decide) (by omega) ?_;intro ov' A3 ho8 hE8 hk8 _;try simp only[go_sem]
   apply hK;have hsz3:=hk8.size;refine gz (az2 s10 hi1') ?_;refine⟨m - 1,by omega,rfl,i+1,ov',{s2 with sv:=N.roots[i]},by omega,vq0,vq0,vq1 s3,vq1 s4,?_,⟨_,rfl⟩,?_,?_⟩
   ·refine(hk8.block _ (by omega) (fun hb=>?_)).trans (Ext.at hE7 hB1');have:=(hown1.ge hb).1;omega
   ·rw[zal hi,List.map_append];exact ho8
   ·refine hKA.trans ((hk1.toB hszA fun i _ h=>h).trans ((hE7.toB (by omega) fun i _ h=>h.elim).trans (hk8.toB (by omega) fun i h1 h2=>?_)));have:=(hown1.ge h2).1;omega
  ·intro hge2;simp only[ydF]at hge2;rw[List.take_of_length_le (by omega)]at hown;repeat (first|refine c_r ?_| (refine zcb (by rfl) ?_;intro gd K hgd hK;simp (disch:=first|omega|assumption|rfl) only[go_sem,s9];refine hK _ _ ?_;clear hK hgd;clear K gd))
   refine rt0 Tryz.ntmps142 ?_;exact⟨hEA,zda hown.rows (fun x hx=>by
    obtain⟨k,_,rfl⟩:=List.mem_map.1 hx;show Row _ _ (s2.name.map vs);rw[mn];exact ht.ext hEA),hown.blk.mono hE45.size⟩
def zcR(to:Nm)(l:List (Nm×List DatL)):List DatL:=l.foldl (fun b g=>if zan g.1=zan to then g.2 else b) []
def zfK(N:NetL)(r:ResL)(s:zao)(h:Nm):List zao:=((zeq N h (zcR h r.glue)).map fun k=>{s with sv:=k,ref:=true})++(if ((zeq N h (zcR h r.glue)).length:Int)=0 then endS s 9 else [])
def zhD(N:NetL)(s:zao)(r:ResL):List zao:=if s.rf>=N.rf then endS s 8 else(r.data.filterMap fun d=>d.names.head?).flatMap (zfK N r {s with rf:=s.rf+1})
theorem zks{to:Nm}{l:List (Nm×List DatL)}:zcR to l=[]\/∃g∈l,zcR to l=g.2:=by
 unfold zcR
 suffices h:∀(l:List (Nm×List DatL)) (b:List DatL),l.foldl (fun b g=>if zan g.1=zan to then g.2 else b) b=b\/∃g∈l,l.foldl (fun b g=>if zan g.1=zan to then g.2 else b) b=g.2 from h l []
 intro l
 induction l with
 |nil=>exact fun b=> .inl rfl
 |cons x l ih=>
  intro b;rw[List.foldl_cons]
  split
  ·rcases ih x.2 with h| ⟨g,hg,h⟩
   ·exact .inr ⟨x,List.mem_cons_self ..,h⟩
   ·exact .inr ⟨g,List.mem_cons_of_mem _ hg,h⟩
  ·rcases ih b with h| ⟨g,hg,h⟩
   ·exact .inl h
   ·exact .inr ⟨g,List.mem_cons_of_mem _ hg,h⟩
theorem ziX{to:Nm}{l:List (Nm×List DatL)}{i:Nat}(hi:i<l.length):zcR to (l.take (i+1))=if zan l[i].1=zan to then l[i].2 else zcR to (l.take i):=by
 unfold zcR;rw[zal hi,List.foldl_append]
 rfl
theorem zlR{N:NetL}{r:ResL}{s x:zao}{h:Nm}(hx:x∈zfK N r s h):x.name=s.name:=by
 unfold zfK at hx;rcases List.mem_append.1 hx with h|h
 ·obtain⟨k,_,rfl⟩:=List.mem_map.1 h;rfl
 ·split at h
  ·exact zbN h
  ·cases h
theorem zit{w0 w:World}(hE0:Ext w0 w){cs cr:List Value}{N:NetL}{r:ResL}(hN:NetAt w0 cs N)(hG:NetZ N){nv:Value}{s:zao}(hr:Row w nv (s.name.map vs))(hres:ResAt w0 w cr r)(kr:zkS r)(kl:r.data.length<=1000)(hne:∀d∈r.data,∃n l,d.names=n::l/\NmM n)(b0:0<=s.rf)(b1:s.rf<=1000000):
  Fn Tryz.prog 143 #[.agg cs.toArray,.agg (stV nv s).toArray,.agg cr.toArray] w (fun v w'=>Ext w w'/\Rows 6 (StC w') w' v (zhD N s r)/\BlkB w.heap.size w' v):=by
 have hN0:=hN;obtain⟨hv,rv,rfl,hh,hro⟩:=hN.ex;obtain⟨ah,ch,hhv,_⟩:=hh.open;obtain⟨ar,cr1,hrv,_⟩:=id hro;obtain⟨an,cn,hnv,_⟩:=id hr;have n1:=hr.isOne;obtain⟨dv,qv,gv,rfl,hd,hq,hg⟩:=hres.ex;obtain⟨ad,cd,rfl,hcd,hgd2⟩:=hd.open;obtain⟨aq,cq,hqv,_⟩:=id hq;obtain⟨ag,cg,rfl,hcg,hgg⟩:=hg.open;have gl:=kr.gl;unfold stV;refine enter Tryz.func143 Tryz.ntmps143 rfl rfl ?_;repeat refine c_r ?_
 rw[hhv,hrv,hnv,hqv];refine rg0 ?_;rw[←hhv,←hrv,←hnv,←hqv];repeat refine c_r ?_
 rw[zak,zak,zak];refine zc8 ?_;intro w1 hE1 hs1 hA hB hC;have p3:zad w1 (some ⟨w.heap.size+1,3,.none⟩)=some (vi s.rf):=zab hB rfl;have q3:zad w1 (some ⟨w.heap.size,3,.none⟩)=some (vi N.rf):=zab hA rfl;have dB:zaq w1 (some ⟨w.heap.size+1,0,.none⟩) 6=some (stV nv s):=zaf hB rfl;repeat refine c_r ?_
 unfold zhD;by_cases hge:s.rf>=N.rf
 ·rw[if_pos hge];refine gz (az4 p3 q3 yn0 (yet hge)) ?_;refine wt trivial ?_;repeat refine c_r ?_
  refine rc dB (zcc w1 (hr.ext hE1) s 8) ?_;rintro v w2 ⟨hE2,hv2,hvb⟩;refine re trivial ?_;repeat refine c_r ?_
  refine rt0 Tryz.ntmps143 ?_;exact⟨hE1.trans hE2,zda hv2 (fun x hx=>by rw[zbN hx];exact hr.ext (hE1.trans hE2)),hvb.mono hE1.size⟩
 rw[if_neg hge];refine gz (az4 p3 q3 yn0 (yef hge)) ?_;refine wf trivial ?_;refine rqz ?_;intro gd K hgd hK;refine sgz (az2 p3 yn0) ?_;refine zaU (P:=Tryz.prog) (t:=3) (j:=3) (u:=vi (s.rf+1)) (l:=stV nv s) hB (by show 3<6;decide) rfl rfl rfl ?_;intro w2 hs2 hB2 hk2;try simp only[go_sem]
 apply hK;obtain⟨s2,hs2e⟩:∃s2:zao,{s with rf:=s.rf+1}=s2:=⟨_,rfl⟩;have hB2':w2.heap[w.heap.size+1]? =some (.cells (stV nv s2).toArray 84 (0,0)):=by rw[←hs2e];exact hB2
 have hE2:Ext w w2:=Keep.to_ext hE1 rfl (fun b hb=>by omega) hk2;have hC2:=(hk2.block _ (by omega) (by omega)).trans hC;have hA2:=(hk2.block _ (by omega) (by omega)).trans hA;have mn:s2.name=s.name:=by rw[←hs2e]
 rw[hs2e];have dN:zaq w2 (some ⟨w.heap.size,0,.none⟩) 4=some [hv,rv,vi N.rw,vi N.rf]:=zaf hA2 rfl;have dS:zaq w2 (some ⟨w.heap.size+1,0,.none⟩) 6=some (stV nv s2):=zaf hB2' rfl;have c1:zad w2 (some ⟨w.heap.size+1+1,1,.none⟩)=some (.slice ad r.data.length cd):=zab hC2 rfl;have c4:zad w2 (some ⟨w.heap.size+1+1,4,.none⟩)=some (.slice ag r.glue.length cg):=zab hC2 rfl;clear hA hB hC hA2 hB2 hB2' hC2 hk2 p3 q3 dB;refine gz0 ?_;obtain⟨b4,hb4⟩:∃b,w.heap.size+1=b:=⟨_,rfl⟩;have hs2':=hE2.size;rw[hb4]at dS c1 c4 ⊢;refine zap (fun m σ ds A=>ds=[]/\∃(i:Nat) (ov:Value) (l:List zao),i+m=r.data.length/\σ 8=vi i/\σ 7=ov/\σ 3= .pointer (some ⟨w.heap.size,0,.none⟩)/\σ 4= .pointer (some ⟨b4,0,.none⟩)/\σ 5= .pointer (some ⟨b4+1,0,.none⟩)/\l=((r.data.take i).filterMap fun d=>d.names.head?).flatMap (zfK N r s2)/\l.length<=i*1001/\
  Owns 6 (StN nv) w2.heap.size A 84 ov l/\Ext w2 A) r.data.length ?_ ?_
 ·exact⟨rfl,0,.slice .none 0 0,[],by omega,vr0,vr0,vr0,vr0,vr0,rfl,ynl _,Owns.nil _ _ _ _ _,Keep.refl _ _⟩
 rintro m σ ds A ⟨rfl,i,ov,l,him,s8,s7,s3,s4,s5,hl,hll,hown,hEA⟩;have c1A:=zaa hEA c1;refine gz (az4 s8 s5 c1A yn0) ?_;refine wc0 ?_ ?_
 ·intro hlt;simp only[ydT]at hlt;have hi:i<r.data.length:=by omega
  have hi0:=cj i;have hi1':=ci i;have hz0:=cj 0;obtain⟨c3,hc3,hD⟩:=hgd2 i hi;obtain⟨nm,nu,tx,rw',rfl,hnm,_,_,_⟩:=hD.ex;obtain⟨hn,hnl,hne1,hnm1⟩:=hne _ (List.getElem_mem hi);obtain⟨vals,⟨an2,cn2,rfl,hcn2,hgn2⟩,hvl,hvr⟩:=hnm;rw[hne1]at hvl;simp only[List.length_cons]at hvl;have hv0:0<vals.length:=by omega
  obtain⟨tv,htv⟩:∃v,vals[0]=v:=⟨_,rfl⟩;have hrow:Row w0 tv (hn.map vs):=by
   have:=hvr 0 hv0 (by rw[hne1];simp);simp only[hne1,List.getElem_cons_zero]at this
   rwa [htv]at this
  have hvlt:(0:Int)<(vals.length:Int):=by omega
  obtain⟨xz,rfl⟩:=yxs (zai hc3);obtain⟨xi,hxi⟩:∃xi,adr (some xz) (i*5)=some xi:=⟨_,rfl⟩;obtain⟨x1,hx1⟩:∃x,adr (some xi) 1=some x:=⟨_,rfl⟩;rw[hxi]at hc3;have hwA:=hE2.trans hEA;have k1:zad A (some x1)=some (.slice an2 vals.length cn2):=by
   have:=zah (j:=1) hc3 rfl;rw[hx1]at this;exact zaa hwA this
  have k0:=zaa (hE0.trans hwA) (hgn2 0 hv0);obtain⟨xn,rfl⟩:=yxs (zag k0);rw[htv,zaj]at k0;refine rqz ?_;intro gd K hgd hK;simp (disch:=first|omega|assumption|rfl) only[go_sem,s8,s5,c1A,yn0,hi0,hlt,hxi,hx1,k1,hz0,hvlt,Int.toNat_zero,Nat.zero_mul,zaj,k0];refine hK _ _ ?_;clear hK hgd;clear K gd;refine gz0 ?_;refine zap (fun m σ ds B=>ds=[]/\∃(j:Nat) (kv:Value),j+m=r.glue.length/\σ 11=vi j/\σ 10=kv/\Rows 5 (DatAt w0) w kv (zcR hn (r.glue.take j))/\σ 9=tv/\σ 8=vi i/\σ 7=ov/\σ 3= .pointer (some ⟨w.heap.size,0,.none⟩)/\σ 4= .pointer (some ⟨b4,0,.none⟩)/\σ 5= .pointer (some ⟨b4+1,0,.none⟩)/\Ext A B) r.glue.length ?_ ?_
  ·exact⟨rfl,0,.slice .none 0 0,by omega,vr0,vr0,Rows.nil _ _ _,vr0,vq1 s8,vq1 s7,vq1 s3,vq1 s4,vq1 s5,Keep.refl _ _⟩
  clear s8 s7 s3 s4 s5;rintro m2 σ ds B ⟨rfl,j,kv,hjm,s11,s10,hkv,s9,s8,s7,s3,s4,s5,hAB⟩;have c4B:=zaa (hEA.trans hAB) c4;have hwB:=hwA.trans hAB;refine gz (az4 s11 s5 c4B yn0) ?_;refine wc0 ?_ ?_
  ·intro hlt2;simp only[ydT]at hlt2;have hj:j<r.glue.length:=by omega
   have hj0:=cj j;have hj1':=ci j;obtain⟨c5,hc5,gh,gd2,rfl,hgh1,hgd3⟩:=hgg j hj;have mg:=(kr.g _ (List.getElem_mem hj)).1;obtain⟨yz,rfl⟩:=yxs (zai hc5);obtain⟨yi,hyi⟩:∃xi,adr (some yz) (j*2)=some xi:=⟨_,rfl⟩;obtain⟨y1,hy1⟩:∃x,adr (some yi) 1=some x:=⟨_,rfl⟩;rw[hyi]at hc5;have g0:zad B (some yi)=some gh:=by
    have:=zah (j:=0) (zac hwB hc5) rfl
    rwa [zaj]at this
   have g1:zad B (some y1)=some gd2:=by
    have:=zah (j:=1) (zac hwB hc5) rfl
    rwa [hy1]at this
   have htk:=ziX (to:=hn) hj;have mgl:=mg.len;have hml:=hnm1.len;repeat refine c_r ?_
   refine rc (an9 s5 c4B s11 hj0 hlt2 hyi (an2 zaj g0) s9 yn0) (zbR B gh tv r.glue[j].1 hn (hgh1.ext (hE0.trans hwB)) (hrow.ext (hE0.trans hwB)) mg.lb hnm1.LB (by omega) (by omega)) ?_;rintro _ C ⟨rfl,hBC⟩;refine re trivial ?_;repeat refine c_r ?_
   refine zat (Q:=fun e σ' ds' C'=>e= .normal/\ds'=[]/\C'=C/\σ' 11=vi j/\(∃kv',σ' 10=kv'/\Rows 5 (DatAt w0) w kv' (zcR hn (r.glue.take (j+1))))/\σ' 9=tv/\σ' 8=vi i/\σ' 7=ov/\σ' 3= .pointer (some ⟨w.heap.size,0,.none⟩)/\σ' 4= .pointer (some ⟨b4,0,.none⟩)/\σ' 5= .pointer (some ⟨b4+1,0,.none⟩)) ?_ ?_
   ·have c4C:=zaa hBC c4B;have g1C:=zaa hBC g1;by_cases hsm:zan r.glue[j].1=zan hn
    ·rw[if_pos hsm]at htk;refine wt (yet hsm) ?_;refine gz (az2 (az7 s5 c4C s11 hj0 hlt2 hyi hy1) (az2 g1C yn0)) ?_;exact⟨rfl,rfl,rfl,vq1 s11,⟨gd2,vr0,by rw[htk];exact hgd3⟩,vq1 s9,vq1 s8,vq1 s7,vq1 s3,vq1 s4,vq1 s5⟩
    ·rw[if_neg hsm]at htk;refine wf (yef hsm) ?_;repeat refine c_r ?_
     exact⟨rfl,rfl,rfl,vq1 s11,⟨kv,vq1 s10,by rw[htk];exact hkv⟩,vq1 s9,vq1 s8,vq1 s7,vq1 s3,vq1 s4,vq1 s5⟩
   clear s11 s10 s9 s8 s7 s3 s4 s5;rintro _ σ1 _ _ ⟨rfl,rfl,hCe,s11,⟨kv',s10,hkv'⟩,s9,s8,s7,s3,s4,s5⟩;subst hCe;refine gz (az2 s11 hj1') ?_;exact⟨m2 - 1,by omega,rfl,j+1,kv',by omega,vq0,vq1 s10,hkv',vq1 s9,vq1 s8,vq1 s7,vq1 s3,vq1 s4,vq1 s5,hAB.trans hBC⟩
  intro hge2;simp only[ydF]at hge2;rw[List.take_of_length_le (by omega)]at hkv;clear s11 hge2 hjm;obtain⟨H,hH⟩:∃H,zcR hn r.glue=H:=⟨_,rfl⟩;have hHl:H.length<=1000000000:=by
   rw[←hH];rcases zks (to:=hn) (l:=r.glue) with h| ⟨g,hg',h⟩
   ·rw[h];exact Nat.zero_le _
   ·rw[h];exact(kr.g g hg').2.2
  rw[hH]at hkv;have dNB:=zac (hEA.trans hAB) dN;repeat refine c_r ?_
  refine rc (an4 s3 dNB s9 s10) (zmS (hE0.trans hwB) hN0 hG (hrow.ext (hE0.trans hwB)) hnm1 (hkv.ext hwB) hHl) ?_;rintro mv C ⟨hBC,hmv,hmb⟩;refine re trivial ?_;obtain⟨M,hM⟩:∃M,zeq N hn H=M:=⟨_,rfl⟩;have hMl:M.length<=1000:=by
   rw[←hM];have h1:=zdh (p:=zbF hn H) (l:=N.hosts) (i:=0);have h2:=hG.hl;show(zcN (zbF hn H) 0 N.hosts).length<=1000;omega
  rw[hM]at hmv;have hmv0:=hmv;obtain⟨am,cm,rfl,hcm,hgm⟩:=hmv;simp only[ylm]at hcm hgm s10;have hAC:=hAB.trans hBC;have hown1:=hown.ext hAC;refine gz0 ?_;refine zap (fun m σ ds D=>ds=[]/\∃(j:Nat) (ov':Value),j+m=M.length/\σ 13=vi j/\σ 12= .slice am M.length cm/\σ 8=vi i/\σ 7=ov'/\σ 3= .pointer (some ⟨w.heap.size,0,.none⟩)/\σ 4= .pointer (some ⟨b4,0,.none⟩)/\σ 5= .pointer (some ⟨b4+1,0,.none⟩)/\
   Owns 6 (StN nv) w2.heap.size D 84 ov' (l++(M.take j).map fun k=>{s2 with sv:=k,ref:=true})/\Ext w2 D/\(∀b,some b=ov'.ownBlock->b<B.heap.size\/C.heap.size<=b)/\KeepB C.heap.size (fun b=>b<B.heap.size) C D) M.length ?_ ?_
  ·refine⟨rfl,0,ov,by omega,vr0,by first| (simp only[go_sem,ylm];done)| (simp only[go_sem,ylm];rfl),vq1 s8,vq1 s7,vq1 s3,vq1 s4,vq1 s5,by rw[List.take_zero,List.map_nil,List.append_nil];exact hown1,hEA.trans hAC,fun b hb=>?_,KeepB.refl _ _ _⟩;have:=(hown.ge hb).2;have:=hAB.size;exact .inl (by omega)
  clear s10 s9 s8 s7 s3 s4 s5;rintro m3 σ ds D ⟨rfl,j,ov',hjm,s13,s12,s8,s7,s3,s4,s5,hownD,hED,hobD,hKD⟩;have hwD:=hE2.trans hED;have hszD:=hKD.size;have hBs:=hBC.size;refine gz (az2 s13 s12) ?_;refine wc0 ?_ ?_
  ·intro hlt3;simp only[ydT]at hlt3;have hj:j<M.length:=by omega
   have hj0:=cj j;have hj1':=ci j;have dSD:=zac hED dS;refine rqz ?_;intro gd K hgd hK;refine sgz (az2 s4 dSD) ?_;refine za0 (P:=Tryz.prog) (l:=stV nv s2) rfl (zce n1) rfl rfl ?_;intro D1 hE6 hs6 hB6;try simp only[go_sem]
   apply hK;obtain⟨d0,hd0⟩:∃b,D.heap.size=b:=⟨_,rfl⟩;rw[hd0]at hB6 hs6 ⊢;have hKD1:=hKD.trans (hE6.toB hszD fun i _ h=>h.elim);have hgj:zad D1 (adr am j)=some (vi M[j]):=by
    have hrD:=hmv0.blocks (x:=D1) fun a n c hv=>hKD1.keep.block _ (hmb a n c hv).2 (by have:=(hmb a n c hv).1;omega);obtain⟨a',c',e,_,hg'⟩:=hrD;injection e with e1 e2 e3
    subst e1;have:=hg' j (by simpa using hj)
    rwa [List.getElem_map]at this
   obtain⟨xm,rfl⟩:=yxs (zag hgj);refine rqz ?_;intro gd K hgd hK;refine sgz (az7 s12 s13 hj0 hlt3 hgj Nat.mul_one Nat.add_zero) ?_;refine zaU (P:=Tryz.prog) (t:=3) (j:=0) (u:=vi M[j]) (l:=stV nv s2) hB6 (by show 0<6;decide) rfl rfl rfl ?_;intro D2 hs7 hB7 hk7;try simp only[go_sem]
   apply hK;refine rqz ?_;intro gd K hgd hK;try simp only[go_sem]
   refine zaU (P:=Tryz.prog) (t:=4) (j:=4) (u:= .bool true) hB7 (by show 4<6;decide) rfl rfl rfl ?_;intro D3 hs8 hB8 hk8;try simp only[go_sem]
   apply hK;have hB8':D3.heap[d0]? =some (.cells (stV nv {s2 with sv:=M[j],ref:=true}).toArray 84 (0,0)):=hB8;have d:zaq D3 (some ⟨d0,0,.none⟩) 6=some (stV nv {s2 with sv:=M[j],ref:=true}):=zaf hB8' rfl;have hE3:Ext D D3:=Keep.to_ext (Keep.to_ext hE6 rfl (fun b hb=>by omega) hk7) rfl (fun b hb=>by omega) hk8;have hsD3:=hE3.size;have hsED:=hED.size;refine rqz ?_;intro gd K hgd hK;refine sgz (az2 s7 d) ?_;refine zaL (C:=StN nv) (zbc nv) (l:=stV nv {s2 with sv:=M[j],ref:=true}) (by rfl) (by rfl) (by rfl) (by rfl) ⟨rfl,n1⟩ (by decide) ?_;intro D4 hE9 hs9 ho9;have hsD4:=hE9.size;try simp only[go_sem]
   refine zaC (zbc nv) (hownD.ext (hE3.trans hE9)) ho9.rows (by rfl) (by rfl) (by rfl) (by rfl) (by rfl) (by rfl) (by decide) ((vr1 s7)) vr0 (by simp;omega) (by decide) (by omega) ?_;intro ov2 D5 ho10 hE10 hk10 hob10;try simp only[go_sem]
   apply hK;have hsz4:=(hE3.trans hE9).size;refine gz (az2 s13 hj1') ?_;refine⟨m3 - 1,by omega,rfl,j+1,ov2,by omega,vq0,vq1 s12,vq1 s8,vq0,vq1 s3,vq1 s4,vq1 s5,?_,?_,?_,?_⟩
   ·rw[zal hj,List.map_append,←yla];exact ho10
   ·exact hE10 w2 (hED.trans (hE3.trans hE9)) (ynl _)
   ·intro b hb;rcases hob10 b hb with h|h
    ·exact hobD b h
    ·exact .inr (by omega)
   ·refine hKD.trans (((hE3.trans hE9).toB hszD fun i _ h=>h.elim).trans (hk10.toB (by omega) fun i h1 h2=>?_));rcases hobD i h2 with h|h
    ·exact h
    ·omega
  intro hge3;simp only[ydF]at hge3;rw[List.take_of_length_le (by omega)]at hownD;have hhost:zfK N r s2 hn=(M.map fun k=>{s2 with sv:=k,ref:=true})++(if (M.length:Int)=0 then endS s2 9 else []):=by unfold zfK;rw[hH,hM]
  have hnx:((r.data.take (i+1)).filterMap fun d=>d.names.head?).flatMap (zfK N r s2)=l++zfK N r s2 hn:=by
   rw[zal hi,List.filterMap_append,List.flatMap_append,←hl];simp[hne1]
  have hnl2:(l++zfK N r s2 hn).length<=(i+1)*1001:=by
   rw[List.length_append,hhost,List.length_append,ylm];have:(if (M.length:Int)=0 then endS s2 9 else []).length<=1:=by split<;>simp[endS]
   omega
  clear s13 hge3 hjm;refine gz s12 ?_;by_cases hm0:(M.length:Int)=0
  ·rw[if_pos hm0]at hhost;refine wt (yet hm0) ?_;have dSD:=zac hED dS;refine rqz ?_;intro gd K hgd hK;refine sgz (az2 s4 dSD) ?_;refine za0 (P:=Tryz.prog) (l:=stV nv s2) rfl (zce n1) rfl rfl ?_;intro D1 hE6 hs6 hB6;try simp only[go_sem]
   apply hK;obtain⟨d0,hd0⟩:∃b,D.heap.size=b:=⟨_,rfl⟩;rw[hd0]at hB6 hs6 ⊢;refine rqz ?_;intro gd K hgd hK;try simp only[go_sem]
   refine zaU (P:=Tryz.prog) (t:=3) (j:=5) (u:=vi 9) (l:=stV nv s2) hB6 (by show 5<6;decide) rfl rfl rfl ?_;intro D2 hs7 hB7 hk7;try simp only[go_sem]
   apply hK;have d:zaq D2 (some ⟨d0,0,.none⟩) 6=some (stV nv {s2 with fin:=9}):=zaf hB7 rfl;have hE3:Ext D D2:=Keep.to_ext hE6 rfl (fun b hb=>by omega) hk7;have hsD3:=hE3.size;have hsED:=hED.size;refine rqz ?_;intro gd K hgd hK;refine sgz (az2 s7 d) ?_;refine zaL (C:=StN nv) (zbc nv) (l:=stV nv {s2 with fin:=9}) (by rfl) (by rfl) (by rfl) (by rfl) ⟨rfl,n1⟩ (by decide) ?_;intro D4 hE9 hs9 ho9;have hsD4:=hE9.size;try simp only[go_sem]
   refine zaC (zbc nv) (hownD.ext (hE3.trans hE9)) ho9.rows (by rfl) (by rfl) (by rfl) (by rfl) (by rfl) (by rfl) (by decide) ((vr1 s7)) vr0 (by simp;omega) (by decide) (by omega) ?_;intro ov2 D5 ho10 hE10 hk10 hob10;try simp only[go_sem]
   apply hK;refine gz (az2 s8 hi1') ?_;refine⟨m - 1,by omega,rfl,i+1,ov2,_,by omega,vq0,vq0,vq1 s3,vq1 s4,vq1 s5,hnx.symm,hnl2,?_,hE10 w2 (hED.trans (hE3.trans hE9)) (ynl _)⟩;rw[hhost,←yla];exact ho10
  ·rw[if_neg hm0,List.append_nil]at hhost;refine wf (yef hm0) ?_;refine gz (az2 s8 hi1') ?_;refine⟨m - 1,by omega,rfl,i+1,ov',_,by omega,vq0,vq1 s7,vq1 s3,vq1 s4,vq1 s5,hnx.symm,hnl2,?_,hED⟩;rw[hhost];exact hownD
 ·intro hge2;simp only[ydF]at hge2;rw[List.take_of_length_le (by omega)]at hl;have hE:=hE2.trans hEA;repeat (first|refine c_r ?_| (refine zcb (by rfl) ?_;intro gd K hgd hK;simp (disch:=first|omega|assumption|rfl) only[go_sem,s7];refine hK _ _ ?_;clear hK hgd;clear K gd))
  refine rt0 Tryz.ntmps143 ?_;rw[←hl];refine⟨hE,zda hown.rows (fun x hx=>?_),hown.blk.mono hE2.size⟩;rw[hl]at hx;obtain⟨h,_,hx⟩:=List.mem_flatMap.1 hx;rw[zlR hx,mn];exact hr.ext hE
def zlO(N:NetL)(s:zao)(t:Int):List zao:=
 if s.fin=0 then
  (if (askN N s.sv s.name t).kind=1 then endS s 1 else if (askN N s.sv s.name t).kind=2 then endS s 2 else if (askN N s.sv s.name t).kind=3 then endS s 3 else if (askN N s.sv s.name t).kind=6 then endS s 4
  else if (askN N s.sv s.name t).kind=7 then(if s.ref=true then endS s 6 else endS s 5) else if (askN N s.sv s.name t).kind=5 then zdV N s (askN N s.sv s.name t).name else zhD N s (askN N s.sv s.name t))
 else []
def LeadD(r:ResL):Prop:=r.kind≠1->r.kind≠2->r.kind≠3->r.kind≠6->r.kind≠7->r.kind≠5->∀d∈r.data,∃n l,d.names=n::l/\NmM n
theorem zmR{w0 w:World}(hE0:Ext w0 w){cs sc:List Value}{N:NetL}{s:zao}{t:Int}(hN:NetAt w0 cs N)(hG:NetZ N)(hs:StC w sc s)(bs:StB s)(hLD:LeadD (askN N s.sv s.name t)):
  Fn Tryz.prog 87 #[.agg cs.toArray,.agg sc.toArray,vi t] w (fun v w'=>Ext w w'/\Rows 6 (StC w') w' v (zlO N s t)/\BlkB w.heap.size w' v):=by
 have hN0:=hN;obtain⟨hv,rv,rfl,hh,hro⟩:=hN.ex;obtain⟨nv,rfl,hr⟩:=hs.ex;obtain⟨ah,ch,hhv,_⟩:=hh.open;obtain⟨ar,cr,hrv,_⟩:=id hro;obtain⟨an,cn,hnv,_⟩:=id hr;unfold stV;refine enter Tryz.func87 Tryz.ntmps87 rfl rfl ?_;repeat refine c_r ?_
 rw[hhv,hrv,hnv];refine rg0 ?_;rw[←hhv,←hrv,←hnv];repeat refine c_r ?_
 rw[zak];refine zaI ?_;intro w1 hE1 hs1 hA hB;have p5:zad w1 (some ⟨w.heap.size+1,5,.none⟩)=some (vi s.fin):=zab hB rfl;have p0:zad w1 (some ⟨w.heap.size+1,0,.none⟩)=some (vi s.sv):=zab hB rfl;have p1:zad w1 (some ⟨w.heap.size+1,1,.none⟩)=some nv:=zab hB rfl;have p4:zad w1 (some ⟨w.heap.size+1,4,.none⟩)=some (.bool s.ref):=zab hB rfl;have dN:zaq w1 (some ⟨w.heap.size,0,.none⟩) 4=some [hv,rv,vi N.rw,vi N.rf]:=zaf hA rfl;have dS:zaq w1 (some ⟨w.heap.size+1,0,.none⟩) 6=some (stV nv s):=zaf hB rfl;repeat refine c_r ?_
 unfold zlO;by_cases hf:s.fin=0
 rotate_left
 ·rw[if_neg hf];refine rg3 p5 yn0 (yef hf) ?_;repeat refine c_r ?_
  refine wt Bool.not_false ?_;repeat (first|refine c_r ?_|refine rg0 ?_)
  refine rt0 Tryz.ntmps87 ?_;exact⟨hE1,Rows.nil _ _ _,BlkB.nil⟩
 rw[if_pos hf];refine rg3 p5 yn0 (yet hf) ?_;repeat refine c_r ?_
 refine wf Bool.not_true ?_;repeat refine c_r ?_
 refine rq ?_;intro gd K hgd hK;try simp (disch:=first|omega|assumption|rfl) only[go_sem,dN,p0,p1,Nat.add_zero,yn0]
 refine Fn.mono (RAsk_ok (s:=s.sv) (t:=t) (hE0.trans hE1) hN0 hG (hr.ext hE1) bs.nm) ?_;rintro _ w2 ⟨hE2,cs,rfl,hra⟩;have hF:=zkJ (s:=s.sv) (t:=t) hG bs.nm;have hcl:cs.length=5/\∀v∈cs,one v=true:=by
  obtain⟨dv,mv,gv,rfl,h1,h2,h3⟩:=hra.ex;exact⟨rfl,ones5 h1.isOne h2.isOne h3.isOne⟩
 try simp only[go_sem]
 refine za0 (P:=Tryz.prog) (l:=cs) (by rw[hcl.1];rfl) hcl.2 (by rw[hcl.1];rfl) rfl ?_;intro w3 hE3 hs3 hB3;try simp only[go_sem]
 refine hK _ _ ?_;clear hK hgd;clear K;try clear gd
 obtain⟨r,hre⟩:∃r,askN N s.sv s.name t=r:=⟨_,rfl⟩;rw[hre]at hra hF hLD ⊢;have hra3:=hra.ext hE3;have d3:=zaf (n:=5) hB3 hcl.1.symm;obtain⟨b,hb⟩:∃b,w2.heap.size=b:=⟨_,rfl⟩;rw[hb]at hB3 d3 ⊢;have hE23:=hE2.trans hE3;have hE13:=hE1.trans hE23;have hE03:=hE0.trans hE13;have dN3:=zac hE23 dN;have dS3:=zac hE23 dS;have p43:=zaa hE23 p4;clear hra p5 p0 p1 p4 dN dS;have k0:zad w3 (some ⟨b,0,.none⟩)=some (vi r.kind):=by
  obtain⟨dv,mv,gv,e,_⟩:=hra3.ex;rw[e]at hB3;exact zab hB3 rfl
 have hrn:=hr.ext hE13;repeat refine c_r ?_
 refine rg2 k0 Nat.add_zero ?_;repeat refine c_r ?_
 by_cases k1:r.kind=1
 ·rw[if_pos k1];refine rg1 (yet k1) ?_;repeat refine c_r ?_
  refine wt trivial ?_;repeat refine c_r ?_
  refine rc dS3 (zcc w3 hrn s 1) ?_;rintro v w4 ⟨hE4,hv,hvb⟩;refine re trivial ?_;repeat refine c_r ?_
  refine rt0 Tryz.ntmps87 ?_;exact⟨hE13.trans hE4,zda hv (fun x hx=>by rw[zbN hx];exact hrn.ext hE4),hvb.mono hE13.size⟩
 rw[if_neg k1];refine rg1 (yef k1) ?_;repeat refine c_r ?_
 refine wf trivial ?_;repeat refine c_r ?_
 by_cases k2:r.kind=2
 ·rw[if_pos k2];refine rg1 (yet k2) ?_;repeat refine c_r ?_
  refine wt trivial ?_;repeat refine c_r ?_
  refine rc dS3 (zcc w3 hrn s 2) ?_;rintro v w4 ⟨hE4,hv,hvb⟩;refine re trivial ?_;repeat refine c_r ?_
  refine rt0 Tryz.ntmps87 ?_;exact⟨hE13.trans hE4,zda hv (fun x hx=>by rw[zbN hx];exact hrn.ext hE4),hvb.mono hE13.size⟩
 rw[if_neg k2];refine rg1 (yef k2) ?_;repeat refine c_r ?_
 refine wf trivial ?_;repeat refine c_r ?_
 by_cases k3:r.kind=3
 ·rw[if_pos k3];refine rg1 (yet k3) ?_;repeat refine c_r ?_
  refine wt trivial ?_;repeat refine c_r ?_
  refine rc dS3 (zcc w3 hrn s 3) ?_;rintro v w4 ⟨hE4,hv,hvb⟩;refine re trivial ?_;repeat refine c_r ?_
  refine rt0 Tryz.ntmps87 ?_;exact⟨hE13.trans hE4,zda hv (fun x hx=>by rw[zbN hx];exact hrn.ext hE4),hvb.mono hE13.size⟩
 rw[if_neg k3];refine rg1 (yef k3) ?_;repeat refine c_r ?_
 refine wf trivial ?_;repeat refine c_r ?_
 by_cases k6:r.kind=6
 ·rw[if_pos k6];refine rg1 (yet k6) ?_;repeat refine c_r ?_
  refine wt trivial ?_;repeat refine c_r ?_
  refine rc dS3 (zcc w3 hrn s 4) ?_;rintro v w4 ⟨hE4,hv,hvb⟩;refine re trivial ?_;repeat refine c_r ?_
  refine rt0 Tryz.ntmps87 ?_;exact⟨hE13.trans hE4,zda hv (fun x hx=>by rw[zbN hx];exact hrn.ext hE4),hvb.mono hE13.size⟩
 rw[if_neg k6];refine rg1 (yef k6) ?_;repeat refine c_r ?_
 refine wf trivial ?_;repeat refine c_r ?_
 by_cases k7:r.kind=7
 ·rw[if_pos k7];refine rg1 (yet k7) ?_;repeat refine c_r ?_
  refine wt trivial ?_;repeat refine c_r ?_
  refine rg2 p43 yn0 ?_;repeat refine c_r ?_
  cases hrf:s.ref with
  |true=>
   rw[hrf]at p43;rw[if_pos rfl];refine wt hrf ?_;repeat refine c_r ?_
   refine rc dS3 (zcc w3 hrn s 6) ?_;rintro v w4 ⟨hE4,hv,hvb⟩;refine re trivial ?_;repeat refine c_r ?_
   refine rt0 Tryz.ntmps87 ?_;exact⟨hE13.trans hE4,zda hv (fun x hx=>by rw[zbN hx];exact hrn.ext hE4),hvb.mono hE13.size⟩
  |false=>
   rw[if_neg Bool.false_ne_true];refine wf hrf ?_;repeat refine c_r ?_
   refine rc dS3 (zcc w3 hrn s 5) ?_;rintro v w4 ⟨hE4,hv,hvb⟩;refine re trivial ?_;repeat refine c_r ?_
   refine rt0 Tryz.ntmps87 ?_;exact⟨hE13.trans hE4,zda hv (fun x hx=>by rw[zbN hx];exact hrn.ext hE4),hvb.mono hE13.size⟩
 rw[if_neg k7];refine rg1 (yef k7) ?_;repeat refine c_r ?_
 refine wf trivial ?_;repeat refine c_r ?_
 by_cases k5:r.kind=5
 ·rw[if_pos k5];obtain⟨dv,mv,gv,e,_,hnm,_⟩:=hra3.ex;have q2:zad w3 (some ⟨b,2,.none⟩)=some mv:=by rw[e]at hB3;exact zab hB3 rfl
  refine rg1 (yet k5) ?_;repeat refine c_r ?_
  refine wt trivial ?_;repeat refine c_r ?_
  refine rc (an4 dN3 dS3 q2 yn0) (zjb hE03 hN0 hG hrn hnm (zey (hF.nm k5)).m bs.rw0 bs.rw1) ?_;rintro v w4 ⟨hE4,hv,hvb⟩;refine re trivial ?_;repeat refine c_r ?_
  refine rt0 Tryz.ntmps87 ?_;exact⟨hE13.trans hE4,hv,hvb.mono hE13.size⟩
 rw[if_neg k5];refine rg1 (yef k5) ?_;repeat refine c_r ?_
 refine wf trivial ?_;repeat refine c_r ?_
 refine rc (an3 dN3 dS3 d3) (zit hE03 hN0 hG hrn hra3 hF.ok hF.dl (hLD k1 k2 k3 k6 k7 k5) bs.rf0 bs.rf1) ?_;rintro v w4 ⟨hE4,hv,hvb⟩;refine re trivial ?_;repeat refine c_r ?_
 refine rt0 Tryz.ntmps87 ?_;exact⟨hE13.trans hE4,hv,hvb.mono hE13.size⟩
def zeA(a b:zao):Bool:=decide (a.sv=b.sv) && (decide (a.rw=b.rw) && (decide (a.rf=b.rf) && ((a.ref==b.ref) && (decide (a.fin=b.fin) && decide (zan a.name=zan b.name)))))
theorem zkP{N:NetL}{a b:zao}(ha:GoodSt N a)(hb:GoodSt N b):zeA a b=decide (keyS a=keyS b):=by
 rw[Bool.eq_iff_iff];unfold zeA;simp only[Bool.and_eq_true,ydT,beq_iff_eq];constructor
 ·rintro⟨h1,h2,h3,h4,h5,h6⟩;unfold keyS;rw[h1,h2,h3,h4,h5,h6]
 ·intro h;obtain⟨n,e,hn⟩:=key_al ha hb h;rw[e];exact⟨rfl,rfl,rfl,rfl,rfl,hn⟩
theorem zmQ(w:World){ca cb:List Value}{a b:zao}(ha:StC w ca a)(hb:StC w cb b)(ma:NmM a.name)(mb:NmM b.name):
  Fn Tryz.prog 42 #[.agg ca.toArray,.agg cb.toArray] w (fun v w'=>v= .bool (zeA a b)/\Ext w w'):=by
 obtain⟨na,rfl,h1⟩:=ha.ex;obtain⟨nb,rfl,h2⟩:=hb.ex;obtain⟨a1,c1,hna,_⟩:=id h1;obtain⟨a2,c2,hnb,_⟩:=id h2;have la:=ma.len;have lb:=mb.len;obtain⟨x1,k1⟩:∃x,decide (a.sv=b.sv)=x:=⟨_,rfl⟩;obtain⟨x2,k2⟩:∃x,decide (a.rw=b.rw)=x:=⟨_,rfl⟩;obtain⟨x3,k3⟩:∃x,decide (a.rf=b.rf)=x:=⟨_,rfl⟩;obtain⟨x4,k4⟩:∃x,(a.ref==b.ref)=x:=⟨_,rfl⟩;obtain⟨x5,k5⟩:∃x,decide (a.fin=b.fin)=x:=⟨_,rfl⟩;have hs:zeA a b=(x1 && (x2 && (x3 && (x4 && (x5 && decide (zan a.name=zan b.name)))))):=by unfold zeA;rw[k1,k2,k3,k4,k5]
 rw[hs];unfold stV;rw[hna,hnb];refine enter Tryz.func42 Tryz.ntmps42 rfl rfl ?_;refine go trivial ?_;rw[←hna,←hnb];rw[zak];refine zaI ?_;intro w1 hE1 hs1 hA hB;obtain⟨q,hq⟩:∃q,w.heap.size=q:=⟨_,rfl⟩;rw[hq]at hA hB ⊢;have pa:zad w1 (some ⟨q,1,.none⟩)=some na:=zab hA rfl;have pb:zad w1 (some ⟨q+1,1,.none⟩)=some nb:=zab hB rfl;have a0:zad w1 (some ⟨q,0,.none⟩)=some (vi a.sv):=zab hA rfl;have a2':zad w1 (some ⟨q,2,.none⟩)=some (vi a.rw):=zab hA rfl;have a3:zad w1 (some ⟨q,3,.none⟩)=some (vi a.rf):=zab hA rfl;have a4:zad w1 (some ⟨q,4,.none⟩)=some (.bool a.ref):=zab hA rfl;have a5:zad w1 (some ⟨q,5,.none⟩)=some (vi a.fin):=zab hA rfl;have b0:zad w1 (some ⟨q+1,0,.none⟩)=some (vi b.sv):=zab hB rfl;have b2:zad w1 (some ⟨q+1,2,.none⟩)=some (vi b.rw):=zab hB rfl;have b3:zad w1 (some ⟨q+1,3,.none⟩)=some (vi b.rf):=zab hB rfl;have b4:zad w1 (some ⟨q+1,4,.none⟩)=some (.bool b.ref):=zab hB rfl;have b5:zad w1 (some ⟨q+1,5,.none⟩)=some (vi b.fin):=zab hB rfl;have f1:=an4 a0 b0 k1 Nat.add_zero;have f2:=an4 a2' b2 k2 yn0;have f3:=an3 a3 b3 k3;have f4:=an3 a4 b4 k4;have f5:=an3 a5 b5 k5;refine go trivial ?_;cases x1 with
 |false=>
  refine rgg [(5,10),(12,17),(19,24),(26,31),(33,38)] f1 ?_;refine go trivial ?_;refine rt0 Tryz.ntmps42 ?_;exact⟨rfl,hE1⟩
 |true=>
 cases x2 with
 |false=>
  refine rgg [(5,10),(12,17),(19,24),(26,31),(33,38)] (an2 f1 f2) ?_;refine go trivial ?_;refine rt0 Tryz.ntmps42 ?_;exact⟨rfl,hE1⟩
 |true=>
 cases x3 with
 |false=>
  refine rgg [(5,10),(12,17),(19,24),(26,31),(33,38)] (an3 f1 f2 f3) ?_;refine go trivial ?_;refine rt0 Tryz.ntmps42 ?_;exact⟨rfl,hE1⟩
 |true=>
 cases x4 with
 |false=>
  refine rgg [(5,10),(12,17),(19,24),(26,31),(33,38)] (an4 f1 f2 f3 f4) ?_;refine go trivial ?_;refine rt0 Tryz.ntmps42 ?_;exact⟨rfl,hE1⟩
 |true=>
 cases x5 with
 |false=>
  refine rgg [(5,10),(12,17),(19,24),(26,31),(33,38)] (an5 f1 f2 f3 f4 f5) ?_;refine go trivial ?_;refine rt0 Tryz.ntmps42 ?_;exact⟨rfl,hE1⟩
 |true=>
 refine rcg [(5,10),(12,17),(19,24),(26,31),(33,38)] (an7 f1 f2 f3 f4 f5 pa pb) (zbR w1 na nb a.name b.name (h1.ext hE1) (h2.ext hE1) ma.LB mb.LB (by omega) (by omega)) ?_;rintro _ w2 ⟨rfl,hE2⟩;refine reg [(5,10),(12,17),(19,24),(26,31),(33,38)] trivial ?_;refine go trivial ?_;refine rt0 Tryz.ntmps42 ?_;exact⟨by simp,hE1.trans hE2⟩
theorem zk5{α:Type}{p:α->Bool}{l:List α}{i:Nat}(h:i<l.length):(l.take (i+1)).any p=((l.take i).any p||p l[i]):=by
 rw[List.take_succ_eq_append_getElem h,List.any_append];simp
def ownB(lv:Value):Nat->Prop:=fun i=>some i=lv.ownBlock
structure RowD(w v:World)(lv:Value)(row:List MetL):Prop where
 o:Owns 7 (MetAt (ownB lv) v) w.heap.size v 172 lv row
 t:NoT v lv
 e:Ext w v
theorem RowD.ext{w v x:World}{lv:Value}{row:List MetL}(h:RowD w v lv row)(hE:Ext v x):RowD w x lv row:=
 ⟨(h.o.ext hE).to fun _ _ h=>h.turn (hE.mono fun _ _ h=>h.elim) (fun _ h=> .inl h),h.t.block fun b e=>hE.block b (h.o.ge e).2 (fun h=>h),h.e.trans hE⟩
theorem RowD.off{w v:World}{lv nv:Value}{row:List MetL}{n:Nm}(h:RowD w v lv row)(hr:Row v nv (n.map vs)):RowY (ownB lv) v nv (n.map vs):=by
 refine⟨hr,fun hl a m c e=>?_⟩;obtain⟨a',c',e',_,hg⟩:=hr;have h0:=hg 0 (List.length_pos_iff.2 hl);rw[e',Value.slice.injEq]at e;obtain⟨rfl,_,_⟩:=e;rw[zaj]at h0;have hc:v.cell? a=some ((n.map vs)[0]'(List.length_pos_iff.2 hl)):=h0;have hlt:a.block<v.heap.size:=by
  unfold World.cell? at hc;cases hb:v.heap[a.block]? with
  |none=>rw[hb]at hc;cases hc
  |some o=>exact(Array.getElem?_eq_some_iff.1 hb).1
 refine⟨hlt,fun hb=>?_⟩;obtain⟨L,h1,_⟩:=h.o;rcases h1.own.2 with ⟨rfl,_⟩| ⟨g,cap,cur,rfl,_,hg',_⟩
 ·cases hb
 ·have hbg:a.block=g:=by simpa [ownB,Value.ownBlock] using hb
  obtain⟨b,of,sp⟩:=a
  dsimp only at hbg
  subst hbg;have hsp:sp= .none:=by
   cases sp with
   |none=>rfl
   |some q=>simp[World.cell?,hg']at hc
  subst hsp;have h2:=zbD hg' of;rw[hc]at h2;have h3:(n.map vs)[0]'(List.length_pos_iff.2 hl)∈cur.toList:=List.mem_of_getElem? (i:=of) (by simpa using h2.symm);have h4:=h.t b rfl _ _ _ hg' _ h3;rw[List.getElem_map]at h4;exact h4 _ rfl
theorem met_noT{S:Nat->Prop}{w:World}{cs:List Value}{x:MetL}(h:MetAt S w cs x):∀q∈cs,∀l,q≠vs l:=by
 obtain⟨nv,pv,rfl,h1,h2⟩:=h.ex;obtain⟨a,c,rfl,_⟩:=h1.1;obtain⟨b,d,rfl,_⟩:=h2.1;intro q hq l;unfold stV at hq;simp at hq;rcases hq with rfl|rfl|rfl|rfl|rfl|rfl|rfl<;>intro h<;>cases h
theorem zj5{w v:World}{lv:Value}{row:List MetL}{mc:List Value}{X:MetL}(h:RowD w v lv row)(hX:MetAt (ownB lv) v mc X)(mX:NmM X.1.name)(mr:∀y∈row,NmM y.1.name)
  (hk:∀y∈row,zeA y.1 X.1=decide (keyS y.1=keyS X.1)) (hlen:row.length<=100000000):
  Fn Tryz.prog 86 #[lv,.agg mc.toArray] v (fun u v'=>RowD w v' u (putL row X)/\Keep (ownB lv) v v'/\∀i,ownB u i->ownB lv i\/v.heap.size<=i):=by
 obtain⟨nv,pv,rfl,hn,hp⟩:=id hX.ex;obtain⟨an,cn,hne,_⟩:=id hn.1;obtain⟨ap,cp,hpe,_⟩:=id hp.1;obtain⟨al,cl,hlv,_,hgl⟩:=h.o.rows.open;unfold stV;refine enter Tryz.func86 Tryz.ntmps86 rfl rfl ?_;repeat refine c_r ?_
 rw[hne,hpe];simp only[List.cons_append,List.nil_append];refine go trivial ?_;rw[←hne,←hpe];refine zax ?_;intro v1 hE1 hs1 hA;obtain⟨q,hq⟩:∃q,v.heap.size=q:=⟨_,rfl⟩;rw[hq]at hA ⊢;have dM:zaq v1 (some ⟨q,0,.none⟩) 7=some (stV nv X.1++ [pv]):=zaf (l:=stV nv X.1++ [pv]) hA rfl;have dX:=zbv (m:=6) (k:=1) dM;rw[show (stV nv X.1++ [pv]).take 6=stV nv X.1 from rfl]at dX;have dE:∀a:Addr,adr (some a) 0=some a:=fun a=>zaj _;refine go trivial ?_;refine zdd row.length (fun i σ x=>(σ 5=vi i/\σ 0=lv/\σ 3= .pointer (some ⟨q,0,.none⟩))/\Ext v1 x/\(row.take i).any (fun y=>decide (keyS y.1=keyS X.1))=false) ?_ ?_ ?_
 ·exact⟨⟨vr0,vq0,vq0⟩,Keep.refl _ _,rfl⟩
 ·rintro i σ z hi p ⟨s,hEz,hno⟩;rw[hlv]at s;obtain⟨cs7,hcs,hMt⟩:=hgl i hi;have hm:=List.getElem_mem hi;obtain⟨Y,hY⟩:∃Y,row[i]=Y:=⟨_,rfl⟩;rw[hY]at hMt hm;obtain⟨ny,py,rfl,hny,_⟩:=hMt.ex;obtain⟨xa,rfl⟩:=yxs (zai hcs);obtain⟨xi,hxi⟩:∃xi,adr (some xa) (i*7)=some xi:=⟨_,rfl⟩;rw[hxi]at hcs;have gS:=zbv (m:=6) (k:=1) hcs;rw[show (stV ny Y.1++ [py]).take 6=stV ny Y.1 from rfl]at gS;refine go (an2 s p) ?_;refine zat (Q:=fun e σ' ds' z'=>e= .normal/\ds'=[]/\(σ' 5=vi i/\σ' 0= .slice (some xa) row.length cl/\σ' 3= .pointer (some ⟨q,0,.none⟩))/\Ext z z'/\σ' 19= .bool (zeA Y.1 X.1)) ?_ ?_
  ·refine zaH (fun _=>false) [(0,true),(1,true),(2,true),(3,true),(4,true),(5,true),(6,true),(7,false)] NoS mixed (by kernel_rfl) ?_;intro gd K x hgd hx hxe hK;clear hxe;have gSx:=zac (hE1.trans (hEz.trans hx)) gS;have dXx:=zac (hEz.trans hx) dX;unfold stV at gSx dXx;refine sgz (az6 s p hxi dE gSx dXx) ?_;refine Fn.mono (zmQ x (ca:=stV ny Y.1) (cb:=stV nv X.1) ⟨ny,rfl,hny.1.ext (hE1.trans (hEz.trans hx))⟩ ⟨nv,rfl,hn.1.ext (hE1.trans (hEz.trans hx))⟩ (mr Y hm) mX) ?_;rintro _ y ⟨rfl,hy⟩;refine⟨.inr hy,?_⟩;refine sg0 ?_;apply hK;exact⟨rfl,rfl,sc s,hx.trans hy,vr0⟩
  clear s;rintro _ σ1 _ z1 ⟨rfl,rfl,s,hz1,s19⟩;have hkY:=hk Y hm;have hta:=zk5 (p:=fun y=>decide (keyS y.1=keyS X.1)) hi;rw[hno,hY,←hkY]at hta;have hEv:=hE1.trans (hEz.trans hz1);cases hsd:zeA Y.1 X.1 with
  |true=>
   rw[hsd]at s19 hkY;refine go (an2 s s19) ?_;have hput:putL row X=row:=by
    unfold putL;rw[if_pos (List.any_eq_true.2 ⟨Y,hm,hkY.symm⟩)]
   refine rt0 Tryz.ntmps86 ?_;rw[hput,←hlv];exact⟨h.ext hEv,hEv.mono fun _ _ h=>h.elim,fun i hi=> .inl hi⟩
  |false=>
   rw[hsd]at s19 hta;refine go (an3 s p s19) ?_;exact⟨rfl,by rw[hlv];exact sc (an2 s p),hEz.trans hz1,hta⟩
 ·rintro σ z p ⟨s,hEz,hno⟩;rw[hlv]at s;rw[List.take_length]at hno;have hput:putL row X=row++ [X]:=by unfold putL;rw[hno];rfl
  have dMz:=zac hEz dM;have hvz:=hE1.trans hEz;have hz:=h.ext hvz;have hXz:MetAt (ownB lv) z (stV nv X.1++ [pv]) X:=hX.turn (hvz.mono fun _ _ h=>h.elim) fun _ h=> .inl h;refine go (an2 s p) ?_;unfold stV at dMz;rw[←hlv]at s;refine rq ?_;intro gd K hgd hK;refine sgz (az2 s dMz) ?_;refine zaL (zeo (ownB lv) z) rfl rfl rfl rfl hXz (by decide) ?_;intro w5 hE5 hs5 ho5;have hz5:=hz.ext hE5;have hk5:Keep (ownB lv) z w5:=hE5.mono fun _ _ h=>h.elim;refine sgz s ?_;refine op_appT (zeo (ownB lv) w5) hz5.o (ho5.rows.to fun _ _ h=>h.turn hk5 fun _ h=> .inl h) rfl rfl rfl rfl rfl rfl (by decide) ((vq1 s)) vr0 (by omega) (by decide) hz5.e.size hz5.t (fun cs hc=>met_noT hc) rfl ?_;intro u w6 ho6 hT6 hE6 hk6 hb6;try simp only[go_sem]
  apply hK;refine go trivial ?_;refine rt0 Tryz.ntmps86 ?_;have hkv:Keep (ownB lv) v w6:=(hvz.trans hE5).mono (fun _ _ h=>h.elim)|>.trans hk6
  have hown:∀i,ownB u i->ownB lv i\/w5.heap.size<=i:=hb6;have hs5v:=(hvz.trans hE5).size;rw[hput];exact⟨⟨ho6.to fun _ _ h=>h.turn hk6 fun i hi=>hown i hi,hT6,hE6 w hz5.e (ynl _)⟩,hkv,fun i hi=>(hown i hi).imp id fun h=>by omega⟩
theorem zkO(w:World)(A B C D:Obj):Ext w ((((w.alloc A).alloc B).alloc C).alloc D)/\((((w.alloc A).alloc B).alloc C).alloc D).heap.size=w.heap.size+4/\((((w.alloc A).alloc B).alloc C).alloc D).heap[w.heap.size]? =some A/\
  ((((w.alloc A).alloc B).alloc C).alloc D).heap[w.heap.size+1]? =some B/\((((w.alloc A).alloc B).alloc C).alloc D).heap[w.heap.size+2]? =some C/\((((w.alloc A).alloc B).alloc C).alloc D).heap[w.heap.size+3]? =some D:=by
 obtain⟨h1,h2,h3,h4,h5⟩:=zd7 w A B C;have hE:=Ext.alloc (((w.alloc A).alloc B).alloc C) D;have hD:=zaw (((w.alloc A).alloc B).alloc C) D;rw[h2]at hD;exact⟨h1.trans hE,by rw[zak,h2],Ext.at hE h3,Ext.at hE h4,Ext.at hE h5,hD⟩
theorem Plays_ok(w:World){nv qv tv cv:Value}:Fn Tryz.prog 91 #[nv,qv,tv,cv] w (fun v w'=>v= .func (.func 146) #[] #[.pointer (some ⟨w.heap.size,0,.none⟩),.pointer (some ⟨w.heap.size+1,0,.none⟩),.pointer (some ⟨w.heap.size+3,0,.none⟩),.pointer (some ⟨w.heap.size+2,0,.none⟩)]/\Ext w w'/\w'.heap.size=w.heap.size+4/\
  w'.heap[w.heap.size]? =some (.cells nv.cells 25 (0,0))/\w'.heap[w.heap.size+1]? =some (.cells qv.cells 27 (0,0))/\w'.heap[w.heap.size+2]? =some (.cells tv.cells 3 (0,0))/\w'.heap[w.heap.size+3]? =some (.cells cv.cells 23 (0,0))):=by
 refine enter Tryz.func91 Tryz.ntmps91 rfl rfl ?_;refine go trivial ?_;obtain⟨hE,hs,hA,hB,hC,hD⟩:=zkO w (.cells nv.cells 25 (0,0)) (.cells qv.cells 27 (0,0)) (.cells tv.cells 3 (0,0)) (.cells cv.cells 23 (0,0));refine rt0 Tryz.ntmps91 ?_;exact⟨by simp only[zak],hE,hs,hA,hB,hC,hD⟩
theorem zjg{w0 w:World}(hE0:Ext w0 w){cs:List Value}{N:NetL}{qv cv:Value}{q:Nm}{ch:List Int}{t:Int}(hN:NetAt w0 cs N)(hG:zbi N)(hq:Row w qv (q.map vs))(hgq:zcf q=true)(hcv:Row w cv (ch.map vi))(hchl:ch.length<=1000000000):
  Fn Tryz.prog 40 #[.agg cs.toArray,qv,vi t,cv] w (fun v w'=>Ext w w'/\∃nv,v= .tuple #[.agg (stV nv (zgT N q t ch).1).toArray,.bool (zgT N q t ch).2]/\Row w' nv ((zgT N q t ch).1.name.map vs)):=by
 obtain⟨hsv,rv,rfl,hh,hr⟩:=id hN.ex;obtain⟨ah,ch0,hhv,_⟩:=hh.open;obtain⟨ar0,cr0,hrv,_⟩:=id hr;obtain⟨aq,cq,hqe,_⟩:=id hq;obtain⟨ac,cc,hce,_⟩:=id hcv;refine enter Tryz.func40 Tryz.ntmps40 rfl rfl ?_;rw[hhv,hrv];refine go trivial ?_;rw[zak,zak,zak];refine zc8 ?_;rw[←hhv,←hrv];intro w1 hE1 hs1 hA hB hC;obtain⟨b,hb⟩:∃b,w.heap.size=b:=⟨_,rfl⟩;rw[hb]at hA hB hC hs1 ⊢;rw[show b+1+1=b+2 from rfl]at hC ⊢;refine rq ?_;intro gd K hgd hK;try simp only[go_sem]
 rw[hs1];refine st_al1 ?_;intro z hEz hsz hD;rw[hs1]at hD;refine zef rfl rfl rfl hD (by simp) (by simp) ?_;intro w2 hs2 hD2 hk2;try simp only[go_sem]
 apply hK;have hE2:Ext w1 w2:=Keep.to_ext hEz rfl (fun i hi=>by omega) hk2;have hA2:=Ext.at hE2 hA;have hB2:=Ext.at hE2 hB;have hC2:=Ext.at hE2 hC;have hz2:=(Array.getElem?_eq_some_iff.1 hD2).1;have dn:zaq w2 (some ⟨b,0,.none⟩) 4=some [hsv,rv,vi N.rw,vi N.rf]:=zaf hA2 rfl;have hEw2:=hE1.trans hE2;clear hEz hsz hD hs2 hk2 hA hB hC;refine go trivial ?_;refine rc dn (Plays_ok w2) ?_;rintro _ w3 ⟨rfl,hE3,hs3,k1,k2,k3,k4⟩;refine rgo trivial ?_;have k2':w3.heap[w2.heap.size+1]? =some (.cells #[qv] 27 (0,0)):=by rw[k2,hqe];rfl
 have k4':w3.heap[w2.heap.size+3]? =some (.cells #[cv] 23 (0,0)):=by rw[k4,hce];rfl
 have hB3:=Ext.at hE3 hB2;have hC3:=Ext.at hE3 hC2;have hD3:=Ext.at hE3 hD2;have hEw3:=hEw2.trans hE3;obtain⟨S,hS⟩:∃S:Nat->Prop,S=fun i=>(i=b+1\/i=b+2\/i=b+3)\/(w3.heap.size<=i/\i<w3.heap.size+2):=⟨_,rfl⟩;refine zfs (own:=0) (n0:=w3.heap.size) (C:=fun i=>i=b+1\/i=b+2\/i=b+3) (W0:=w3) vq0 (by rfl)
  (playsIt (w0:=w0) (w1:=w) (t:=t) (ch:=ch) (q:=q) hE0 hEw3 k1 k2' k4' k3 (fun i hi=>by omega) (by omega) hN hG hq hgq hcv hchl) (Keep.refl _ _) (ynl _) (fun i hi=>by omega)
  (fun x U A args h=>by obtain⟨nv,rfl,_⟩:=h;rfl)
  (fun pre U v=>(∀i,¬U i)/\∃nv,v.heap[b+1]? =some (.cells (stV (.slice .none 0 0) stZ).toArray 80 (0,0))/\v.heap[b+2]? =some (.cells (stV nv (pre.getLastD (stZ,false)).1).toArray 80 (0,0))/\v.heap[b+3]? =some (.cells #[.bool (pre.getLastD (stZ,false)).2] 4 (0,0))/\RowY S v nv ((pre.getLastD (stZ,false)).1.name.map vs)/\Ext w v)
  (fun _ _ _=>False) ?_ ?_ ?_ ?_ ?_ ?_
 ·rintro pre U A B ⟨hU,nv,h1,h2,h3,h4,h5⟩ _ hk;have l1:=(Array.getElem?_eq_some_iff.1 h3).1;have hno:∀i,i<w3.heap.size->¬span w3.heap.size (2+0) i:=fun i h1 h2=>by unfold span at h2;omega
  refine⟨hU,nv,(hk.block _ (by omega) (hno _ (by omega))).trans h1,(hk.block _ (by omega) (hno _ (by omega))).trans h2,(hk.block _ (by omega) (hno _ (by omega))).trans h3,h4.turn (hk.mono fun i _ h=>by rw[hS];unfold span at h;exact .inr (by omega)) fun _ h=> .inl h,Keep.to_ext h5 rfl (fun i hi=>by unfold span at hi;omega) hk⟩
 ·rintro c pre A B h _;exact h
 ·exact⟨fun _ h=>h,.slice .none 0 0,hB3,hC3,hD3,⟨⟨.none,0,rfl,ynl _,fun j h=>by simp[stZ]at h⟩,fun h=>absurd rfl h⟩,hEw3⟩
 ·rintro lp pre U x A args ⟨suf,hsp⟩ hszA ⟨hU,nv,h1,h2,h3,h4,h5⟩ _ ⟨xv,rfl,hx⟩;have hxS:RowY S A xv (x.1.name.map vs):=hx.turn (Keep.refl _ _) fun i h=>by rw[hS]at h;exact .inl (.inl h)
  have hl:(pre++ [x]).getLastD (stZ,false)=x:=by rw[List.getLastD_eq_getLast?];simp
  have l3:=(Array.getElem?_eq_some_iff.1 h3).1;refine go trivial ?_;refine rq ?_;intro gd K hgd hK;try simp only[go_sem]
  refine zaD (P:=Tryz.prog) (l:=stV xv x.1) h2 rfl (zce hx.1.isOne) rfl rfl ?_;intro A1 hs1 hA1 hk1;try simp only[go_sem]
  apply hK;refine go trivial ?_;refine rq ?_;intro gd K hgd hK;try simp only[go_sem]
  refine zef rfl rfl rfl ((hk1.block _ (by omega) (by omega)).trans h3) (by simp) (by simp) ?_;intro A2 hs2 hA2 hk2;try simp only[go_sem]
  apply hK;have hk12:Keep (fun i=>i=b+2\/i=b+3) A A2:=(hk1.mono fun i _ h=> .inl h).trans (hk2.mono fun i _ h=> .inr h);refine⟨rfl,hk12.mono fun i _ h=> .inl (.inr h),fun A3 hk3=>?_⟩;have hno:∀i,i<w3.heap.size->¬two w3.heap.size i:=fun i h1 h2=>by unfold two at h2;omega
  refine go trivial ?_;have hz2:=hk12.size;refine⟨U,⟨hU,xv,?_,?_,?_,?_,?_⟩,fun i h=> .inl h,Keep.refl _ _⟩
  ·exact(hk3.block _ (by omega) (hno _ (by omega))).trans ((hk12.block _ (by omega) (by omega)).trans h1)
  ·rw[hl];exact(hk3.block _ (by omega) (hno _ (by omega))).trans ((hk2.block _ (by omega) (by omega)).trans hA1)
  ·rw[hl];exact(hk3.block _ (by omega) (hno _ (by omega))).trans hA2
  ·rw[hl];exact(hxS.turn (hk12.mono fun i _ h=>by rw[hS];exact .inl (.inr h)) fun _ h=> .inl h).turn (hk3.mono fun i _ h=>by rw[hS];unfold two at h;exact .inr (by omega)) fun _ h=> .inl h
  ·exact Keep.to_ext (Keep.to_ext h5 rfl (fun i hi=>by omega) hk12) rfl (fun i hi=>by unfold two at hi;omega) hk3
 ·rintro xs U v rfl hsz _ ⟨hU,nv,h1,h2,h3,h4,h5⟩ hDv;have hp:(zcA N t ch (zbf N q)).getLastD (stZ,false)=zgT N q t ch:=rfl;rw[hp]at h2 h3 h4;obtain⟨L,hL⟩:∃L,zgT N q t ch=L:=⟨_,rfl⟩;rw[hL]at h2 h3 h4 ⊢;have d2:zaq v (some ⟨b+2,0,.none⟩) 6=some [vi L.1.sv,nv,vi L.1.rw,vi L.1.rf,.bool L.1.ref,vi L.1.fin]:=zaf (l:=stV nv L.1) h2 rfl;have d3:zad v (some ⟨b+3,0,.none⟩)=some (.bool L.2):=zab (i:=0) h3 rfl;have l3:=(Array.getElem?_eq_some_iff.1 h3).1;refine go trivial ?_;refine zaH (fun _=>false) [(0,true),(1,true),(2,false),(3,true)] ((fun i=>i=b+1)) mixed (by kernel_rfl) ?_;intro gd K x hgd hx hxe hK;have hx0:=zd4 hxe;clear hxe;have d2x:=zac hx0 d2;have d3x:=zaa hx0 d3;refine sgz (az2 d2x d3x) ?_;refine⟨fun a ha hb=>by cases ha;dsimp only at hb;omega,fun a ha hb=>by cases ha;dsimp only at hb;omega,?_⟩;refine zaD (P:=Tryz.prog) (l:=stV nv L.1) (Ext.at hx0 h1) rfl (zce h4.1.isOne) rfl rfl ?_;intro y hsy hB8 hky;refine⟨.inr (hky.mono fun i _ h=>h),?_⟩;refine sg0 ?_;apply hK;refine go trivial ?_;have hxs:=hx0.size;have hys:=hky.size;refine zbK (.inr rfl) Tryz.ntmps40 rfl ((hky.block _ (by omega) (by omega)).trans (Ext.at hx0 hDv)) ?_;intro y2 hk2 hs2;have hB9:=(hk2.block _ (by omega) (by omega)).trans hB8;have hkxy:Keep (fun i=>i=b+1\/i=w3.heap.size) x y2:=(hky.mono fun i _ h=> .inl h).trans (hk2.mono fun i _ h=> .inr h);have hrow:Row y2 nv (L.1.name.map vs):=by
   by_cases hl:L.1.name=[]
   ·have h6:=h4.1;rw[hl]at h6 ⊢;obtain⟨a1,c1,e1,e2,_⟩:=h6;exact⟨a1,c1,e1,e2,fun j hj=>absurd hj (by simp)⟩
   ·refine h4.1.blocks fun a n c e=>?_;obtain⟨k1,k2⟩:=h4.2 (fun h=>hl (by simpa using h)) a n c e;exact(hk2.block _ (by omega) (fun h=>k2 (by rw[hS];exact .inr (by omega)))).trans ((hky.block _ (by omega) (fun h=>k2 (by rw[hS];exact .inl (.inl h)))).trans (hx0.block _ k1 (fun h=>h)))
  exact⟨_,zaJ (x:=⟨b+1,0,.none⟩) (k:=6) vr0 rfl rfl (zaf (l:=stV nv L.1) hB9 rfl) (zam (v:= .bool L.2) vr0 zar),Keep.to_ext (h5.trans hx0) rfl (fun i hi=>by have:=hEw3.size;omega) hkxy,nv,rfl,hrow⟩
 ·rintro c pre x v _ _ h;exact h.elim
theorem zkW(w:World){cs:List Value}{N:NetL}(hN:NetAt w cs N)(hv:NumN N):
  Fn Tryz.prog 34 #[.agg cs.toArray] w (fun v w'=>Ext w w'/\∃t,v= .bool t/\(t=true->zbi N)):=by
 have hN0:=hN;obtain⟨hsv,rv,rfl,hh,hr⟩:=hN.ex;obtain⟨ah,ch,hhv,_⟩:=hh.open;obtain⟨ar0,cr0,hrv,_⟩:=id hr;refine enter Tryz.func34 Tryz.ntmps34 rfl rfl ?_;rw[hhv,hrv];refine go trivial ?_;rw[←hhv,←hrv];refine zax ?_;intro w1 hE1 hs1 hA;have dA:=zaf (n:=4) (l:=[hsv,rv,vi N.rw,vi N.rf]) hA rfl;have n0:zad w1 (some ⟨w.heap.size,0,.none⟩)=some (.slice ah N.hosts.length ch):=by rw[←hhv];exact zab hA rfl
 have n2:zad w1 (some ⟨w.heap.size,2,.none⟩)=some (vi N.rw):=zab hA rfl;have n3:zad w1 (some ⟨w.heap.size,3,.none⟩)=some (vi N.rf):=zab hA rfl;obtain⟨x1,k1⟩:∃x,decide ((N.hosts.length:Int)<=5)=x:=⟨_,rfl⟩;obtain⟨x2,k2⟩:∃x,decide (N.rw<=3)=x:=⟨_,rfl⟩;obtain⟨x3,k3⟩:∃x,decide (N.rf<=4)=x:=⟨_,rfl⟩;refine rcg [(2,5),(8,11),(13,16)] dA (zm4 w1 (hN0.ext hE1) hv) ?_;rintro _ w2 ⟨hE2,t,rfl,hg⟩;have m0:=zaa hE2 n0;have m2:=zaa hE2 n2;have m3:=zaa hE2 n3;cases t
 ·refine reg [(2,5),(8,11),(13,16)] trivial ?_;refine go trivial ?_;refine rt0 Tryz.ntmps34 ?_;exact⟨hE1.trans hE2,false,rfl,hg⟩
 cases x1
 ·refine reg [(2,5),(8,11),(13,16)] (an3 m0 k1 Nat.add_zero) ?_;refine go trivial ?_;refine rt0 Tryz.ntmps34 ?_;exact⟨hE1.trans hE2,false,rfl,fun h=>by cases h⟩
 cases x2
 ·refine reg [(2,5),(8,11),(13,16)] (an6 m0 k1 Nat.add_zero m2 k2 yn0) ?_;refine go trivial ?_;refine rt0 Tryz.ntmps34 ?_;exact⟨hE1.trans hE2,false,rfl,fun h=>by cases h⟩
 cases x3
 ·refine reg [(2,5),(8,11),(13,16)] (an8 m0 k1 Nat.add_zero m2 k2 yn0 m3 k3) ?_;refine go trivial ?_;refine rt0 Tryz.ntmps34 ?_;exact⟨hE1.trans hE2,false,rfl,fun h=>by cases h⟩
 ·refine reg [(2,5),(8,11),(13,16)] (an8 m0 k1 Nat.add_zero m2 k2 yn0 m3 k3) ?_;refine go trivial ?_;refine rt0 Tryz.ntmps34 ?_;exact⟨hE1.trans hE2,true,rfl,hg⟩
section
variable {names : List Nm} (hcl : ∀ l f, l :: f ∈ names -> f ∈ names) (hnd : names.Nodup)
include hcl
include hnd
end
structure FLab where
 val:Lab
 fold:zbe val=val
 len:val.length<=9000000000000000000
instance:Inhabited FLab:=⟨⟨[],rfl,by decide⟩⟩
section
variable {H : Type} {enc : TypeId × Value -> H} {P : Program} {w : World} {base : Nat} {sp : Nat -> Bool} {held : Bool}
def RdC(enc:TypeId×Value->H)(P:Program)(w:World)(base:Nat)(sp:Nat->Bool)(held:Bool)(t:TypeId)(cs:List Value):Prop:=∃n x,DataW.trod enc P w base sp held n t cs=some x/\∀k∈x.1.weights P t,k<=reachBytes
theorem RdC.one{t:TypeId}{v:Value}(h:RdC enc P w base sp held t [v]):Rd enc P w base sp held t v:=h
theorem Rd.c{t:TypeId}{v:Value}(h:Rd enc P w base sp held t v):RdC enc P w base sp held t [v]:=h
theorem zih{a:Addr}:∀(k i:Nat) {l:List Value},l.length=k->(∀j (h:j<l.length),w.cell? (a.add (i+j))=some l[j])->zaR w a i k=some l
 |0,_,l,hl,_=>by
  have:l=[]:=List.length_eq_zero_iff.1 hl;subst this;rfl
 |k+1,i,l,hl,h=>by
  cases l with
  |nil=>cases hl
  |cons v l=>
   have h0:=h 0 (by simp);have ih:=zih (l:=l) k (i+1) (by simpa using hl) (fun j hj=>by
    have:=h (j+1) (by simpa using hj);rw[show i+(j+1)=i+1+j from by omega]at this;simpa using this)
   unfold zaR;rw[Nat.add_zero]at h0;rw[h0,ih];rfl
theorem zfE{t e:TypeId}{k:Nat}{v:Value}(h:Rd enc P w base sp held t v)(ht:P.underlying t=some (.slice e))(hc:P.cellsOf e=k):
  ∃L,RowK k w v L/\(∀cs∈L,RdC enc P w base sp held e cs)/\L.length*P.bytesOf e<=reachBytes:=by
 obtain⟨n,x,h,hw⟩:=h;rcases Go.Deep.open_slice ht h with ⟨h1,_⟩| ⟨a,len,cap,m,q,D,Pl,h1,_,hl,hm,hmm,rfl,hx⟩
 ·simp only[List.cons.injEq,and_true]at h1;subst h1;exact⟨[],⟨.none,0,rfl,ynl _,fun j h=>by simp at h⟩,fun u h=>(by cases h),by simp⟩
 ·simp only[List.cons.injEq,and_true]at h1;subst h1;have hml:len<=m:=by rw[hmm];split<;>omega
  simp only[DataW.weights,ht]at hw;rw[hc]at hx;obtain⟨V,hV⟩:=Go.Deep.choose_lt (α:=List Value) (p:=fun i cs=>w.cells? base (a.add (i*k)) k=some cs/\DataW.trod enc P w base sp held q e cs=some (D i,Pl i)) hx;refine⟨(List.range len).map V,⟨some a,cap,by simp,by simpa using hl,fun j hj=>?_⟩,fun u hu=>?_,?_⟩
  ·simp at hj;obtain⟨_,h2,h3⟩:=World.cells?_some (hV j (by omega)).1;have e1:((List.range len).map V)[j]'(by simpa using hj)=V j:=by simp
   rw[e1];show zaR w (a.add (j*k)) 0 k=_;refine zih k 0 h2 (fun i hi=>?_);rw[yn0,h3 i (by omega)];exact List.getElem?_eq_getElem hi
  ·obtain⟨j,hj,rfl⟩:=List.mem_map.1 hu;simp at hj;refine⟨_,_,(hV j (by omega)).2,fun q hq=>hw q (List.mem_cons_of_mem _ (List.mem_append_left _ (zcX (d:=D j) ?_ hq)))⟩;exact List.mem_map.2 ⟨j,by simpa using hj,rfl⟩
  ·have h1:=hw _ (List.mem_cons_self ..);have h2:((List.range len).map V).length*P.bytesOf e<=(((List.range len).map D).length+((List.range (m - len)).map fun j=>D (len+j)).length)*P.bytesOf e:=Nat.mul_le_mul (by simp) (ynl _);omega
theorem zej{e:TypeId}{fs:Array Field}{cs:List Value}(h:RdC enc P w base sp held e cs)(he:P.underlying e=some (.struct fs)):cs.length=P.cellsOf e/\∀(i:Nat) (f:Field),fs[i]? =some f->RdC enc P w base sp held f.type ((cs.drop f.offset).take (P.cellsOf f.type)):=by
 obtain⟨n,x,h,hw⟩:=h;obtain⟨xs,m,_,rfl,hl,hxl,hf⟩:=DataW.trod_struct he h;refine⟨hl,fun i f hfi=>?_⟩;have hi:i<fs.size:=(Array.getElem?_eq_some_iff.1 hfi).1;have h1:=hf i f hfi;rw[List.getElem?_eq_getElem (by omega)]at h1;refine⟨m,_,h1,fun k hk=>hw k ?_⟩;simp only[DataW.weights,he];refine DataW.weights_mem_each (ts:=fs.toList.map (·.type)) (ds:=xs.map (·.1)) (j:=i) (t:=f.type) (d:=xs[i].1) ?_ ?_ k hk
 ·rw[List.getElem?_map];rw[show fs.toList[i]? =some f from by simpa using hfi];rfl
 ·rw[List.getElem?_map,List.getElem?_eq_getElem (by omega)];rfl
theorem zhE{t:TypeId}{k:IntKind}{cs:List Value}(h:RdC enc P w base sp held t cs)(ht:P.underlying t=some (.int k)):∃n,cs=[.int k n]/\(Lit.int k n).wf=true:=by
 obtain⟨n,x,h,_⟩:=h;obtain⟨m,h1,_,h2⟩:=DataW.trod_int ht h;exact⟨m,h1,h2⟩
end
set_option maxRecDepth 100000
section
variable {H : Type} {enc : TypeId × Value -> H} {P : Program} {w : World} {base : Nat} {sp : Nat -> Bool} {held : Bool}
theorem ziP{t e:TypeId}{k:IntKind}{v:Value}(h:Rd enc P w base sp held t v)(ht:P.underlying t=some (.slice e))(hc:P.cellsOf e=1)(he:P.underlying e=some (.int k)):∃l:List Int,Row w v (l.map (.int k))/\∀n∈l,(Lit.int k n).wf=true:=by
 obtain⟨vals,hr,hall,_⟩:=zgR h ht hc;obtain⟨m,rfl,hm⟩:=ziV (f:=fun n=>Value.int k n) (Q:=fun n=>(Lit.int k n).wf=true) (fun u hu=>by
  obtain⟨n,h1,h2⟩:=zhE (hall u hu).c he;exact⟨n,by simpa using h1,h2⟩)
 exact⟨m,hr,hm⟩
theorem wf_u32{n:Int}(h:(Lit.int .u32 n).wf=true):0<=n/\n<=4294967295:=by
 simp[Lit.wf,IntKind.min,IntKind.max,IntKind.signed,IntKind.bits]at h;omega
theorem wf_u8{n:Int}(h:(Lit.int .u8 n).wf=true):0<=n/\n<=255:=by
 simp[Lit.wf,IntKind.min,IntKind.max,IntKind.signed,IntKind.bits]at h;omega
theorem bytes_of{l:List Int}(h:∀n∈l,(Lit.int .u8 n).wf=true):∃m:List UInt8,l.map (Value.int .u8)=m.map zae:=by
 induction l with
 |nil=>exact⟨[],rfl⟩
 |cons n l ih=>
  obtain⟨m,hm⟩:=ih (fun x hx=>h x (List.mem_cons_of_mem _ hx));have hb:=wf_u8 (h n (List.mem_cons_self ..));obtain⟨k,rfl⟩:∃k:Nat,n=(k:Int):=⟨n.toNat,by omega⟩;exact⟨UInt8.ofNat k::m,by rw[List.map_cons,List.map_cons,hm,zcD (by omega)]⟩
theorem rd_data{cs:List Value}(h:RdC enc Tryz.prog w base sp held 197 cs):∃d:DatL,DatAt w cs d/\∀n∈d.nums,0<=n/\n<=4294967295:=by
 obtain⟨hl,hf⟩:=zej h rfl;have hl5:cs.length=5:=hl
 match cs,hl5 with
 | [c0,c1,c2,c3,c4],_=>
  obtain⟨ty,e0,_⟩:=zhE (hf 0 _ rfl) rfl;obtain⟨names,n1,_⟩:=rd_names (P:=Tryz.prog) (ts:=27) (tb:=9) (RdC.one (hf 1 _ rfl)) rfl rfl rfl rfl rfl rfl;obtain⟨nums,n2,n3⟩:=ziP (RdC.one (hf 2 _ rfl)) rfl rfl rfl;obtain⟨texts,n4,_⟩:=zeH (P:=Tryz.prog) (RdC.one (hf 3 _ rfl)) (e:=9) rfl rfl rfl rfl;obtain⟨raw,n5,n6⟩:=ziP (RdC.one (hf 4 _ rfl)) rfl rfl rfl;obtain⟨rb,hrb⟩:=bytes_of n6;rw[hrb]at n5;have e0':c0=vi ty:=List.head_eq_of_cons_eq (show [c0]=[vi ty] from e0);exact⟨⟨ty,names,nums,texts,rb⟩,⟨c1,c2,c3,c4,by rw[e0'],n1,n2,n4,n5⟩,fun n hn=>wf_u32 (n3 n hn)⟩
theorem rd_rec{cs:List Value}(h:RdC enc Tryz.prog w base sp held 201 cs):∃r:RecL,RecAt w cs r/\∀n∈r.dat.nums,0<=n/\n<=4294967295:=by
 obtain⟨hl,hf⟩:=zej h rfl;have hl7:cs.length=7:=hl
 match cs,hl7 with
 | [c0,c1,c2,c3,c4,c5,c6],_=>
  obtain⟨owner,n0,_⟩:=zeH (P:=Tryz.prog) (RdC.one (hf 0 _ rfl)) (e:=9) rfl rfl rfl rfl;obtain⟨ttl,e1,_⟩:=zhE (hf 1 _ rfl) rfl;obtain⟨d,hd,hn⟩:=rd_data (hf 2 _ rfl);have e1':c1=v32 ttl:=List.head_eq_of_cons_eq (show [c1]=[v32 ttl] from e1);have hd':DatAt w [c2,c3,c4,c5,c6] d:=hd;exact⟨⟨owner,ttl,d⟩,⟨c0,[c2,c3,c4,c5,c6],by rw[e1'],n0,hd'⟩,hn⟩
theorem rd_recs{v:Value}(h:Rd enc Tryz.prog w base sp held 120 v):∃R:List RecL,Rows 7 (RecAt w) w v R/\NumR R:=by
 obtain⟨L,hL,hall,_⟩:=zfE h (e:=201) (k:=7) rfl rfl;have:∀L:List (List Value),(∀cs∈L,RdC enc Tryz.prog w base sp held 201 cs)->∃R:List RecL,L.length=R.length/\(∀i (h:i<L.length) (h':i<R.length),RecAt w L[i] R[i])/\NumR R:=fun L=>by
  induction L with
  |nil=>intro _;exact⟨[],rfl,fun i h=>by simp at h,fun r h=>by cases h⟩
  |cons cs L ih=>
   intro h;obtain⟨r,h1,h2⟩:=rd_rec (h cs (List.mem_cons_self ..));obtain⟨R,a1,a2,a3⟩:=ih (fun x hx=>h x (List.mem_cons_of_mem _ hx));refine⟨r::R,by simp[a1],fun i a b=>?_,fun x hx=>?_⟩
   ·cases i with
    |zero=>exact h1
    |succ i=>exact a2 i (by simpa using a) (by simpa using b)
   ·rcases List.mem_cons.1 hx with rfl|hx
    ·exact h2
    ·exact a3 x hx
 obtain⟨R,a1,a2,a3⟩:=this L hall;exact⟨R,⟨L,hL,a1,a2⟩,a3⟩
end
end Go.Proofs.YtahbdamijngmmaaGreat
