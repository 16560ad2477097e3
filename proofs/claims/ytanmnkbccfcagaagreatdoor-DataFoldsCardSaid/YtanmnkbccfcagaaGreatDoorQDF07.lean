/-
  Texts of a proof, joined: JV, JW.
  Conditions: none.
-/
import Derived.Test.YtanmnkbccfcagaaGreatDoorQDF06
import Derived.Test.YtanmnkbccfcagaaGreatDoorQDF04
import Derived.Test.YtanmnkbccfcagaaGreatDoorQDF03
set_option linter.unusedVariables false
set_option linter.unusedSimpArgs false
set_option linter.defProp false
set_option linter.unnecessarySimpa false
set_option maxHeartbeats 8000000
namespace Go.Proofs.YtanmnkbccfcagaaGreatDoor
open Go
set_option maxRecDepth 100000
theorem dA_T:DatT dA:=⟨⟨by decide,by decide,by decide,by decide,by decide,by decide,by decide⟩,by decide⟩
theorem dM_T:DatT dM:=⟨⟨by decide,by decide,by decide,by decide,by decide,by decide,by decide⟩,by decide⟩
theorem dU_T:DatT dU:=⟨⟨by decide,by decide,by decide,by decide,by decide,by decide,by decide⟩,by decide⟩
theorem dT_T:DatT dT:=⟨⟨by decide,by decide,by decide,by decide,by decide,by decide,by decide⟩,by decide⟩
theorem dA_ok:zdr dA:=⟨by unfold LB;decide,by decide,by decide,by decide,by decide,by decide⟩
theorem dM_ok:zdr dM:=⟨by unfold LB;decide,by decide,by decide,by decide,by decide,by decide⟩
theorem tA:zfx hexU dA=[49,48,46,48,46,48,46,55]:=by decide+kernel
theorem tM:zfx hexU dM=[53,32,120,46,111,46]:=by decide+kernel
theorem tU:zfx hexU dU=[92,35,32,50,32,48,97,102,102]:=by decide+kernel
theorem tT:zfx hexU dT=[34,97,92,34,98,34]:=by decide+kernel
theorem zbx{w:World}{cs:List Value}{d:DatL}(h:DatAt w cs d):cs.length=5∧∀x∈cs,one x=true:=by
 obtain⟨nm,nu,tx,rw',rfl,⟨vals,h1,_,_⟩,h2,h3,h4⟩:=h.ex
 exact⟨rfl,zcs _ _ _ _ _ h1.isOne h2.isOne h3.isOne h4.isOne⟩
theorem zhh{w0:World}(hW:WX w0)(hY:WY w0):Fn Tryz.prog 28 #[] w0 (fun v w'=>v= .bool true∧Ext w0 w'):=by
 refine enter Tryz.func28 Tryz.ntmps28 rfl rfl ?_
 refine go trivial ?_
 refine rq ?_;intro gd K hgd hK
 try simp only[go_sem]
 refine⟨by kernel_rfl,?_⟩
 rw[show bdV Tryz.prog 141 [(0,vs [49,48,46,48,46,48,46,55])]=some (.agg #[vs [49,48,46,48,46,48,46,55],.bool false]) from by kernel_rfl]
 try simp only[go_sem]
 refine zet (e:=141) (arr:=#[vs [49,48,46,48,46,48,46,55],.bool false]) (by kernel_rfl) ?_
 intro a1 ea1 sa1 ba1
 obtain⟨ca1,hca1⟩:∃c,w0.heap.size=c:=⟨_,rfl⟩
 rw[hca1]at ba1 ⊢
 have rr1:Rows 2 WdC a1 (.slice (some ⟨ca1,0,Option.none⟩) 1 1) ([([49,48,46,48,46,48,46,55],false)]:List (Lab×Bool)):=by
  refine Rows.close (xs:=([([49,48,46,48,46,48,46,55],false)]:List (Lab×Bool))) (by decide) (fun i hi=>?_)
  have hi2:i<1:=hi
  have hi3:i=0:=by omega
  subst hi3
  exact⟨_,by rw[zaU];exact zao ba1 (Nat.le_of_ble_eq_true rfl),rfl⟩
 try simp only[go_sem]
 have hF1:Ext w0 a1:=ea1
 refine Fn.mono (pk1 (hW.ext hF1) rr1) ?_
 rintro _ p1 ⟨ep1,cs1,rfl,hd1⟩
 obtain⟨hl1,ho1⟩:=zbx hd1
 try simp only[go_sem]
 refine zbg (P:=Tryz.prog) (l:=cs1) (by rw[hl1];rfl) ho1 (by rw[hl1];rfl) rfl ?_
 intro b1 eb1 sb1 hB1
 obtain⟨cb1,hcb1⟩:∃c,p1.heap.size=c:=⟨_,rfl⟩
 rw[hcb1]at hB1 ⊢
 try simp only[go_sem]
 refine hK _ _ ?_;clear hK hgd;clear K;try clear gd
 have hE1:Ext w0 b1:=(hF1.trans ep1).trans eb1
 have hX1:Ext b1 b1:=Keep.refl _ _
 refine go trivial ?_
 refine rq ?_;intro gd K hgd hK
 try simp only[go_sem]
 refine⟨by kernel_rfl,?_⟩
 rw[show bdV Tryz.prog 141 [(0,vs [53])]=some (.agg #[vs [53],.bool false]) from by kernel_rfl]
 try simp only[go_sem]
 refine⟨by kernel_rfl,?_⟩
 rw[show bdV Tryz.prog 141 [(0,vs [120])]=some (.agg #[vs [120],.bool false]) from by kernel_rfl]
 try simp only[go_sem]
 refine zet (e:=141) (arr:=#[vs [53],.bool false,vs [120],.bool false]) (by kernel_rfl) ?_
 intro a2 ea2 sa2 ba2
 obtain⟨ca2,hca2⟩:∃c,b1.heap.size=c:=⟨_,rfl⟩
 rw[hca2]at ba2 ⊢
 have rr2:Rows 2 WdC a2 (.slice (some ⟨ca2,0,Option.none⟩) 2 2) ([([53],false),([120],false)]:List (Lab×Bool)):=by
  refine Rows.close (xs:=([([53],false),([120],false)]:List (Lab×Bool))) (by decide) (fun i hi=>?_)
  have hi2:i<2:=hi
  have hi3:i=0∨i=1:=by omega
  rcases hi3 with rfl|rfl
  all_goals exact⟨_,by rw[zaU];exact zao ba2 (Nat.le_of_ble_eq_true rfl),rfl⟩
 try simp only[go_sem]
 refine zdY (z:=vs []) (l:=[vs [111]]) rfl rfl rfl rfl rfl rfl (fun v hv=>by simp at hv;rcases hv with rfl;rfl) (by simp) ?_
 intro o2 eo2 so2 oo2
 obtain⟨co2,hco2⟩:∃c,a2.heap.size=c:=⟨_,rfl⟩
 rw[hco2]at oo2 ⊢
 have rr2o:=rr2.ext eo2
 try simp only[go_sem]
 have hF2:Ext w0 o2:=(hE1.trans ea2).trans eo2
 refine Fn.mono (pk2 (hW.ext hF2) (oa:=⟨co2,0,Option.none⟩) (oc:=1) oo2.row rr2o) ?_
 rintro _ p2 ⟨ep2,cs2,rfl,hd2⟩
 obtain⟨hl2,ho2⟩:=zbx hd2
 try simp only[go_sem]
 refine zbg (P:=Tryz.prog) (l:=cs2) (by rw[hl2];rfl) ho2 (by rw[hl2];rfl) rfl ?_
 intro b2 eb2 sb2 hB2
 obtain⟨cb2,hcb2⟩:∃c,p2.heap.size=c:=⟨_,rfl⟩
 rw[hcb2]at hB2 ⊢
 try simp only[go_sem]
 refine hK _ _ ?_;clear hK hgd;clear K;try clear gd
 have hE2:Ext w0 b2:=(hF2.trans ep2).trans eb2
 have hX2:Ext b2 b2:=Keep.refl _ _
 refine go trivial ?_
 refine rq ?_;intro gd K hgd hK
 try simp only[go_sem]
 refine⟨by kernel_rfl,?_⟩
 rw[show bdV Tryz.prog 141 [(0,vs [92,35])]=some (.agg #[vs [92,35],.bool false]) from by kernel_rfl]
 try simp only[go_sem]
 refine⟨by kernel_rfl,?_⟩
 rw[show bdV Tryz.prog 141 [(0,vs [50])]=some (.agg #[vs [50],.bool false]) from by kernel_rfl]
 try simp only[go_sem]
 refine⟨by kernel_rfl,?_⟩
 rw[show bdV Tryz.prog 141 [(0,vs [48,65])]=some (.agg #[vs [48,65],.bool false]) from by kernel_rfl]
 try simp only[go_sem]
 refine⟨by kernel_rfl,?_⟩
 rw[show bdV Tryz.prog 141 [(0,vs [102,102])]=some (.agg #[vs [102,102],.bool false]) from by kernel_rfl]
 try simp only[go_sem]
 refine zet (e:=141) (arr:=#[vs [92,35],.bool false,vs [50],.bool false,vs [48,65],.bool false,vs [102,102],.bool false]) (by kernel_rfl) ?_
 intro a3 ea3 sa3 ba3
 obtain⟨ca3,hca3⟩:∃c,b2.heap.size=c:=⟨_,rfl⟩
 rw[hca3]at ba3 ⊢
 have rr3:Rows 2 WdC a3 (.slice (some ⟨ca3,0,Option.none⟩) 4 4) ([([92,35],false),([50],false),([48,65],false),([102,102],false)]:List (Lab×Bool)):=by
  refine Rows.close (xs:=([([92,35],false),([50],false),([48,65],false),([102,102],false)]:List (Lab×Bool))) (by decide) (fun i hi=>?_)
  have hi2:i<4:=hi
  have hi3:i=0∨i=1∨i=2∨i=3:=by omega
  rcases hi3 with rfl|rfl|rfl|rfl
  all_goals exact⟨_,by rw[zaU];exact zao ba3 (Nat.le_of_ble_eq_true rfl),rfl⟩
 try simp only[go_sem]
 have hF3:Ext w0 a3:=hE2.trans ea3
 refine Fn.mono (pk3 (hW.ext hF3) rr3) ?_
 rintro _ p3 ⟨ep3,cs3,rfl,hd3⟩
 obtain⟨hl3,ho3⟩:=zbx hd3
 try simp only[go_sem]
 refine zbg (P:=Tryz.prog) (l:=cs3) (by rw[hl3];rfl) ho3 (by rw[hl3];rfl) rfl ?_
 intro b3 eb3 sb3 hB3
 obtain⟨cb3,hcb3⟩:∃c,p3.heap.size=c:=⟨_,rfl⟩
 rw[hcb3]at hB3 ⊢
 try simp only[go_sem]
 refine hK _ _ ?_;clear hK hgd;clear K;try clear gd
 have hE3:Ext w0 b3:=(hF3.trans ep3).trans eb3
 have hX3:Ext b3 b3:=Keep.refl _ _
 refine go trivial ?_
 refine rq ?_;intro gd K hgd hK
 try simp only[go_sem]
 refine⟨by kernel_rfl,?_⟩
 rw[show bdV Tryz.prog 141 [(0,vs [50,53,54,46,48,46,48,46,49])]=some (.agg #[vs [50,53,54,46,48,46,48,46,49],.bool false]) from by kernel_rfl]
 try simp only[go_sem]
 refine zet (e:=141) (arr:=#[vs [50,53,54,46,48,46,48,46,49],.bool false]) (by kernel_rfl) ?_
 intro a4 ea4 sa4 ba4
 obtain⟨ca4,hca4⟩:∃c,b3.heap.size=c:=⟨_,rfl⟩
 rw[hca4]at ba4 ⊢
 have rr4:Rows 2 WdC a4 (.slice (some ⟨ca4,0,Option.none⟩) 1 1) ([([50,53,54,46,48,46,48,46,49],false)]:List (Lab×Bool)):=by
  refine Rows.close (xs:=([([50,53,54,46,48,46,48,46,49],false)]:List (Lab×Bool))) (by decide) (fun i hi=>?_)
  have hi2:i<1:=hi
  have hi3:i=0:=by omega
  subst hi3
  exact⟨_,by rw[zaU];exact zao ba4 (Nat.le_of_ble_eq_true rfl),rfl⟩
 try simp only[go_sem]
 have hF4:Ext w0 a4:=hE3.trans ea4
 refine Fn.mono (pk4 (hW.ext hF4) rr4) ?_
 rintro _ p4 ⟨ep4,rfl⟩
 obtain⟨cs4,hcs4⟩:∃l,([vi 0,.slice Option.none 0 0,.slice Option.none 0 0,.slice Option.none 0 0,.slice Option.none 0 0]:List Value)=l:=⟨_,rfl⟩
 rw[hcs4]
 obtain⟨hl4,ho4⟩:cs4.length=5∧∀x∈cs4,one x=true:=by subst hcs4;exact⟨rfl,zcs _ _ _ _ _ rfl rfl rfl rfl⟩
 try simp only[go_sem]
 refine zbg (P:=Tryz.prog) (l:=cs4) (by rw[hl4];rfl) ho4 (by rw[hl4];rfl) rfl ?_
 intro b4 eb4 sb4 hB4
 obtain⟨cb4,hcb4⟩:∃c,p4.heap.size=c:=⟨_,rfl⟩
 rw[hcb4]at hB4 ⊢
 try simp only[go_sem]
 refine hK _ _ ?_;clear hK hgd;clear K;try clear gd
 have hE4:Ext w0 b4:=(hF4.trans ep4).trans eb4
 have hX4:Ext b4 b4:=Keep.refl _ _
 refine go trivial ?_
 refine rq ?_;intro gd K hgd hK
 try simp only[go_sem]
 refine⟨by kernel_rfl,?_⟩
 rw[show bdV Tryz.prog 141 [(0,vs [97,92,34,98]),(1,.bool true)]=some (.agg #[vs [97,92,34,98],.bool true]) from by kernel_rfl]
 try simp only[go_sem]
 refine zet (e:=141) (arr:=#[vs [97,92,34,98],.bool true]) (by kernel_rfl) ?_
 intro a5 ea5 sa5 ba5
 obtain⟨ca5,hca5⟩:∃c,b4.heap.size=c:=⟨_,rfl⟩
 rw[hca5]at ba5 ⊢
 have rr5:Rows 2 WdC a5 (.slice (some ⟨ca5,0,Option.none⟩) 1 1) ([([97,92,34,98],true)]:List (Lab×Bool)):=by
  refine Rows.close (xs:=([([97,92,34,98],true)]:List (Lab×Bool))) (by decide) (fun i hi=>?_)
  have hi2:i<1:=hi
  have hi3:i=0:=by omega
  subst hi3
  exact⟨_,by rw[zaU];exact zao ba5 (Nat.le_of_ble_eq_true rfl),rfl⟩
 try simp only[go_sem]
 have hF5:Ext w0 a5:=hE4.trans ea5
 refine Fn.mono (pk5 rr5) ?_
 rintro _ p5 ⟨ep5,cs5,rfl,hd5⟩
 obtain⟨hl5,ho5⟩:=zbx hd5
 try simp only[go_sem]
 refine zbg (P:=Tryz.prog) (l:=cs5) (by rw[hl5];rfl) ho5 (by rw[hl5];rfl) rfl ?_
 intro b5 eb5 sb5 hB5
 obtain⟨cb5,hcb5⟩:∃c,p5.heap.size=c:=⟨_,rfl⟩
 rw[hcb5]at hB5 ⊢
 try simp only[go_sem]
 refine hK _ _ ?_;clear hK hgd;clear K;try clear gd
 have hE5:Ext w0 b5:=(hF5.trans ep5).trans eb5
 have hX5:Ext b5 b5:=Keep.refl _ _
 refine go trivial ?_
 have hZ1:Ext b1 b5:=(((((((((((((hX1).trans ea2).trans eo2).trans ep2).trans eb2).trans ea3).trans ep3).trans eb3).trans ea4).trans ep4).trans eb4).trans ea5).trans ep5).trans eb5
 have hq1:DatAt b5 cs1 dA:=(hd1.ext eb1).ext hZ1
 have pc1:zaC b5 (some ⟨cb1,0,Option.none⟩) 5=some cs1:=zam (n:=5) (Ext.at hZ1 hB1) (by simp[hl1])
 have hZ2:Ext b2 b5:=(((((((((hX2).trans ea3).trans ep3).trans eb3).trans ea4).trans ep4).trans eb4).trans ea5).trans ep5).trans eb5
 have hq2:DatAt b5 cs2 dM:=(hd2.ext eb2).ext hZ2
 have pc2:zaC b5 (some ⟨cb2,0,Option.none⟩) 5=some cs2:=zam (n:=5) (Ext.at hZ2 hB2) (by simp[hl2])
 have hZ3:Ext b3 b5:=((((((hX3).trans ea4).trans ep4).trans eb4).trans ea5).trans ep5).trans eb5
 have hq3:DatAt b5 cs3 dU:=(hd3.ext eb3).ext hZ3
 have pc3:zaC b5 (some ⟨cb3,0,Option.none⟩) 5=some cs3:=zam (n:=5) (Ext.at hZ3 hB3) (by simp[hl3])
 have hZ5:Ext b5 b5:=hX5
 have hq5:DatAt b5 cs5 dT:=(hd5.ext eb5).ext hZ5
 have pc5:zaC b5 (some ⟨cb5,0,Option.none⟩) 5=some cs5:=zam (n:=5) (Ext.at hZ5 hB5) (by simp[hl5])
 obtain⟨nm,nu,tx,rv,hcs1,_,_,_,a4⟩:=hq1.ex
 obtain⟨ar,cr,hrv,_,hgr⟩:=a4
 have g3:=hgr 3 (by decide)
 obtain⟨ax,rfl⟩:=Option.isSome_iff_exists.1 (zah g3)
 rw[show (dA.raw.map zak).length=4 from rfl]at hrv
 have p4:zag b5 (some ⟨cb1,4,Option.none⟩)=some (.slice (some ax) 4 cr):=by
  have:=zaG (j:=4) (u:=rv) (Ext.at hZ1 hB1) (by rw[hcs1];rfl)
  rwa [hrv]at this
 have g3':zag b5 (adr (some ax) (Int.toNat 3))=some (zak 7):=g3
 have hW5:=hY.ext hE5
 have z0:decide ((0:Int)=0)=true:=rfl
 have z4:decide (((4:Nat):Int)=4)=true:=rfl
 have i0:(0:Int)≤3:=by decide
 have i3:(3:Int)<((4:Nat):Int):=by decide
 have z7:decide (((7:UInt8).toNat:Int)=7)=true:=rfl
 have z7':decide ((7:Int)=7)=true:=rfl
 have b7:binV Tryz.prog BinOp.eql 5 (zak 7) (Value.int IntKind.u8 7)=some (.bool true):=by kernel_rfl
 refine rq ?_;intro gd K hgd hK
 have hg8:∀n σ b,zas gd n σ (some (8,b))=zan (ev n σ (.tmp 54)) b:=(fun n σ b=>by rw[zad,show gd 8=some 54 from(by rw[hgd];rfl)];rfl);have hg14:∀n σ b,zas gd n σ (some (14,b))=zan (ev n σ (.tmp 60)) b:=(fun n σ b=>by rw[zad,show gd 14=some 60 from(by rw[hgd];rfl)];rfl);have hg21:∀n σ b,zas gd n σ (some (21,b))=zan (ev n σ (.tmp 67)) b:=(fun n σ b=>by rw[zad,show gd 21=some 67 from(by rw[hgd];rfl)];rfl);have hg26:∀n σ b,zas gd n σ (some (26,b))=zan (ev n σ (.tmp 72)) b:=(fun n σ b=>by rw[zad,show gd 26=some 72 from(by rw[hgd];rfl)];rfl);have hg31:∀n σ b,zas gd n σ (some (31,b))=zan (ev n σ (.tmp 77)) b:=(fun n σ b=>by rw[zad,show gd 31=some 77 from(by rw[hgd];rfl)];rfl);have hg36:∀n σ b,zas gd n σ (some (36,b))=zan (ev n σ (.tmp 82)) b:=(fun n σ b=>by rw[zad,show gd 36=some 82 from(by rw[hgd];rfl)];rfl);have hg40:∀n σ b,zas gd n σ (some (40,b))=zan (ev n σ (.tmp 86)) b:=(fun n σ b=>by rw[zad,show gd 40=some 86 from(by rw[hgd];rfl)];rfl);have hg45:∀n σ b,zas gd n σ (some (45,b))=zan (ev n σ (.tmp 91)) b:=(fun n σ b=>by rw[zad,show gd 45=some 91 from(by rw[hgd];rfl)];rfl);have hg50:∀n σ b,zas gd n σ (some (50,b))=zan (ev n σ (.tmp 96)) b:=(fun n σ b=>by rw[zad,show gd 50=some 96 from(by rw[hgd];rfl)];rfl);have hg55:∀n σ b,zas gd n σ (some (55,b))=zan (ev n σ (.tmp 101)) b:=(fun n σ b=>by rw[zad,show gd 55=some 101 from(by rw[hgd];rfl)];rfl);have hg61:∀n σ b,zas gd n σ (some (61,b))=zan (ev n σ (.tmp 107)) b:=(fun n σ b=>by rw[zad,show gd 61=some 107 from(by rw[hgd];rfl)];rfl)
 simp only[List.append_eq,List.cons_append,List.nil_append]
 try simp (disch:=first|omega|assumption|rfl) only[go_sem,Int.add_zero,z0,p4,z4,i0,i3,g3',z7,z7',b7,pc1,pc2,pc3,pc5,Nat.zero_add,↓hg8,↓hg14,↓hg21,↓hg26,↓hg31,↓hg36,↓hg40,↓hg45,↓hg50,↓hg55,↓hg61]
 have dd1:decide (([49,48,46,48,46,48,46,55]:Lab)=[49,48,46,48,46,48,46,55])=true:=decide_eq_true rfl
 refine Fn.mono (zbq hW5 hq1 dA_T) ?_
 rintro _ y1 ⟨rfl,f1⟩
 have x1:Ext b5 y1:=f1
 rw[tA]
 have pc1_1:=zaf x1 pc1
 have pc2_1:=zaf x1 pc2
 have pc3_1:=zaf x1 pc3
 have pc5_1:=zaf x1 pc5
 try simp (disch:=first|omega|assumption|rfl) only[go_sem,dd1,z0,z7,z7',Nat.zero_add,pc1_1,pc2_1,pc3_1,pc5_1,↓hg8,↓hg14,↓hg21,↓hg26,↓hg31,↓hg36,↓hg40,↓hg45,↓hg50,↓hg55,↓hg61]
 have dd2:decide (([53,32,120,46,111,46]:Lab)=[53,32,120,46,111,46])=true:=decide_eq_true rfl
 refine Fn.mono (zbq (hW5.ext x1) (hq2.ext x1) dM_T) ?_
 rintro _ y2 ⟨rfl,f2⟩
 have x2:Ext b5 y2:=x1.trans f2
 rw[tM]
 have pc1_2:=zaf x2 pc1
 have pc2_2:=zaf x2 pc2
 have pc3_2:=zaf x2 pc3
 have pc5_2:=zaf x2 pc5
 try simp (disch:=first|omega|assumption|rfl) only[go_sem,dd2,z0,z7,z7',Nat.zero_add,pc1_2,pc2_2,pc3_2,pc5_2,↓hg8,↓hg14,↓hg21,↓hg26,↓hg31,↓hg36,↓hg40,↓hg45,↓hg50,↓hg55,↓hg61]
 have dd3:decide (([92,35,32,50,32,48,97,102,102]:Lab)=[92,35,32,50,32,48,97,102,102])=true:=decide_eq_true rfl
 refine Fn.mono (zbq (hW5.ext x2) (hq3.ext x2) dU_T) ?_
 rintro _ y3 ⟨rfl,f3⟩
 have x3:Ext b5 y3:=x2.trans f3
 rw[tU]
 have pc1_3:=zaf x3 pc1
 have pc2_3:=zaf x3 pc2
 have pc3_3:=zaf x3 pc3
 have pc5_3:=zaf x3 pc5
 try simp (disch:=first|omega|assumption|rfl) only[go_sem,dd3,z0,z7,z7',Nat.zero_add,pc1_3,pc2_3,pc3_3,pc5_3,↓hg8,↓hg14,↓hg21,↓hg26,↓hg31,↓hg36,↓hg40,↓hg45,↓hg50,↓hg55,↓hg61]
 have dd5:decide (([34,97,92,34,98,34]:Lab)=[34,97,92,34,98,34])=true:=decide_eq_true rfl
 refine Fn.mono (zbq (hW5.ext x3) (hq5.ext x3) dT_T) ?_
 rintro _ y4 ⟨rfl,f4⟩
 have x4:Ext b5 y4:=x3.trans f4
 rw[tT]
 have pc1_4:=zaf x4 pc1
 have pc2_4:=zaf x4 pc2
 have pc3_4:=zaf x4 pc3
 have pc5_4:=zaf x4 pc5
 try simp (disch:=first|omega|assumption|rfl) only[go_sem,dd5,z0,z7,z7',Nat.zero_add,pc1_4,pc2_4,pc3_4,pc5_4,↓hg8,↓hg14,↓hg21,↓hg26,↓hg31,↓hg36,↓hg40,↓hg45,↓hg50,↓hg55,↓hg61]
 refine Fn.mono (zeE (hq1.ext x4) dA_T) ?_
 rintro _ y5 ⟨rfl,f5⟩
 have x5:Ext b5 y5:=x4.trans f5
 rw[show zcI dA=0 from by decide+kernel]
 have pc1_5:=zaf x5 pc1
 have pc2_5:=zaf x5 pc2
 have pc3_5:=zaf x5 pc3
 have pc5_5:=zaf x5 pc5
 try simp (disch:=first|omega|assumption|rfl) only[go_sem,z0,z7,z7',Nat.zero_add,pc1_5,pc2_5,pc3_5,pc5_5,↓hg8,↓hg14,↓hg21,↓hg26,↓hg31,↓hg36,↓hg40,↓hg45,↓hg50,↓hg55,↓hg61]
 have e1:decide (cmpD dM dM=0)=true:=by decide+kernel
 have e2:decide (cmpD dA dM=0)=false:=by decide+kernel
 refine Fn.mono (zcU _ _ _ dM dM (hq2.ext x5) (hq2.ext x5) dM_ok dM_ok) ?_
 rintro _ y6 ⟨rfl,f6⟩
 have x6:Ext b5 y6:=x5.trans f6
 rw[e1]
 have pc1_6:=zaf x6 pc1
 have pc2_6:=zaf x6 pc2
 have pc3_6:=zaf x6 pc3
 have pc5_6:=zaf x6 pc5
 try simp (disch:=first|omega|assumption|rfl) only[go_sem,z0,z7,z7',Nat.zero_add,pc1_6,pc2_6,pc3_6,pc5_6,↓hg8,↓hg14,↓hg21,↓hg26,↓hg31,↓hg36,↓hg40,↓hg45,↓hg50,↓hg55,↓hg61]
 refine Fn.mono (zcU _ _ _ dA dM (hq1.ext x6) (hq2.ext x6) dA_ok dM_ok) ?_
 rintro _ y7 ⟨rfl,f7⟩
 have x7:Ext b5 y7:=x6.trans f7
 rw[e2]
 have pc1_7:=zaf x7 pc1
 have pc2_7:=zaf x7 pc2
 have pc3_7:=zaf x7 pc3
 have pc5_7:=zaf x7 pc5
 try simp (disch:=first|omega|assumption|rfl) only[go_sem,Bool.not_false,z0,z7,z7',Nat.zero_add,pc1_7,pc2_7,pc3_7,pc5_7,↓hg8,↓hg14,↓hg21,↓hg26,↓hg31,↓hg36,↓hg40,↓hg45,↓hg50,↓hg55,↓hg61]
 refine Fn.mono (zbr _ _ _ dA dM (hq1.ext x7) (hq2.ext x7) dA_ok dM_ok) ?_
 rintro _ y8 ⟨rfl,f8⟩
 have x8:Ext b5 y8:=x7.trans f8
 rw[show cmpD dA dM= -1 from by decide+kernel]
 have pc1_8:=zaf x8 pc1
 have pc2_8:=zaf x8 pc2
 have pc3_8:=zaf x8 pc3
 have pc5_8:=zaf x8 pc5
 try simp (disch:=first|omega|assumption|rfl) only[go_sem,decide_true,z0,z7,z7',Nat.zero_add,pc1_8,pc2_8,pc3_8,pc5_8,↓hg8,↓hg14,↓hg21,↓hg26,↓hg31,↓hg36,↓hg40,↓hg45,↓hg50,↓hg55,↓hg61]
 refine hK _ _ ?_;clear hK hgd;clear K;try clear gd
 refine go trivial ?_
 refine rt0 Tryz.ntmps28 ?_
 exact⟨rfl,hE5.trans x8⟩
def zc9(d:DatL):DatL:=⟨d.ty,d.names.map zaz,d.nums,d.texts,d.raw⟩
def zdR(d:DatL):DatL:=⟨d.ty,d.names,d.nums,d.texts++ [[120]],d.raw⟩
theorem zfh:∀l:List Nm,lexC zdW (l.map zaz) l=0
 | []=>rfl
 |x::l=>by
  have h1:zdW (zaz x) x=0:=by unfold zdW;rw[zfP];exact cpr_N.self _
  rw[List.map_cons,lexC,if_pos h1,zfh l]
theorem zdy(d:DatL):cmpD (zc9 d) d=0:=by
 unfold cmpD zc9
 simp only[cpr_I.self,zfh,cpr_I.lex.self,cpr_L.lex.self,cpr_L.self]
 rfl
theorem zfg:∀l:List Lab,lexC cmpL l (l++ [[120]])= -1
 | []=>rfl
 |x::l=>by rw[List.cons_append,lexC,if_pos (cpr_L.self x),zfg l]
theorem zdu(d:DatL):cmpD d (zdR d)= -1:=by
 unfold cmpD zdR
 simp only[cpr_I.self,cpr_F2.lex.self,cpr_I.lex.self,zfg]
 rfl
theorem zfF(d:DatL):cmpD (zdR d) d=1:=by
 have:=cpr_D.neg d (zdR d)
 rw[zdu]at this
 omega
theorem few_D{d:DatL}(hf:DatF d)(hn:NumsD d):DatT d∧zdr d∧zdr (zc9 d)∧zdr (zdR d):=by
 obtain⟨n1,n2,n3⟩:=hn
 obtain⟨f1,f2,f3,f4,f5⟩:=hf.f4
 have h8:=hf.n8
 have hnm:∀n∈d.names,NmT n:=fun n hn=>few_T (f5 n hn)
 have hok:zdr d:=⟨fun n hn=>⟨(hnm n hn).lb,by have:=(hnm n hn).2;omega⟩,by omega,by omega,by omega,n1,by omega⟩
 refine⟨⟨⟨hnm,by omega,by omega,n1,by omega,fun t ht=>by have:=f3 t ht;omega,by omega⟩,by omega⟩,hok,⟨fun n hn=>?_,?_,hok.nu,hok.nt,n1,hok.nr⟩,⟨hok.names,hok.nn,hok.nu,?_,n1,hok.nr⟩⟩
 ·obtain⟨x,hx,rfl⟩:=List.mem_map.1 hn
  have:=fold_T (hnm x hx)
  exact⟨this.lb,by have:=this.2;omega⟩
 ·show(d.names.map zaz).length≤_
  rw[List.length_map];omega
 ·show(d.texts++ [[120]]).length≤_
  rw[List.length_append,List.length_singleton];omega
theorem zeD{W:World}(hX:WX W)(hY:WY W){cs:List Value}{d:DatL}(hd:DatAt W cs d)(hN:NumsD d):Fn Tryz.prog 11 #[.agg cs.toArray] W (fun v w'=>v= .bool true∧Ext W w'):=by
 obtain⟨nm,nu,tx,rw',rfl,⟨vals,⟨an,cn,rfl,hcn,hgn⟩,hvl,hvr⟩,hnu,htx,hrw⟩:=id hd.ex
 obtain⟨hl5,h1⟩:=zbx hd
 obtain⟨au,cu,rfl,_⟩:=id hnu
 obtain⟨at1,ct,rfl,_⟩:=id htx
 obtain⟨ar,cr,rfl,_⟩:=id hrw
 simp only[List.length_map]at hnu htx hrw hd h1 hl5 ⊢
 refine enter Tryz.func11 Tryz.ntmps11 rfl rfl ?_
 refine go trivial ?_
 refine zar ?_
 intro w1 hE1 hs1 hA
 refine go trivial ?_
 refine rc trivial (zhh (hX.ext hE1) (hY.ext hE1)) ?_
 rintro _ w2 ⟨rfl,hE2⟩
 refine rgo trivial ?_
 have hE02:=hE1.trans hE2
 have q2:=zam (n:=5) (Ext.at hE2 hA) rfl
 refine rc q2 (DFew_ok hE02 hd) ?_
 rintro _ w3 ⟨hE3,b,rfl,hb⟩
 cases b with
 |false=>
  refine rgo trivial ?_
  refine rt0 Tryz.ntmps11 ?_
  exact⟨rfl,hE02.trans hE3⟩
 |true=>
 have hF:=hb rfl
 obtain⟨hT,hO,hOf,hOm⟩:=few_D hF hN
 obtain⟨f1,f2,f3,f4,f5⟩:=hF.f4
 have hE03:=hE02.trans hE3
 have hA3:=Ext.at (hE2.trans hE3) hA
 obtain⟨p1,hp1⟩:∃p,W.heap.size=p:=⟨_,rfl⟩
 rw[hp1]at hA3 ⊢
 have hlt1:p1<w3.heap.size:=(Array.getElem?_eq_some_iff.1 hA3).1
 have q3:=zam (n:=5) hA3 rfl
 refine rgo trivial ?_
 refine rq ?_;intro gd K hgd hK
 try simp (disch:=first|omega|assumption|rfl) only[go_sem,q3]
 refine zbg (P:=Tryz.prog) (l:=[vi d.ty,.slice an vals.length cn,.slice au d.nums.length cu,.slice at1 d.texts.length ct,.slice ar d.raw.length cr]) rfl h1 rfl rfl ?_
 intro w4 hE4 hs4 hB4
 obtain⟨p,hp⟩:∃p,w3.heap.size=p:=⟨_,rfl⟩
 rw[hp]at hB4 hs4 ⊢
 try simp only[go_sem]
 refine hK _ _ ?_;clear hK hgd;clear K;try clear gd
 refine go trivial ?_
 refine rq ?_;intro gd K hgd hK
 try simp only[go_sem]
 refine zbR (P:=Tryz.prog) (j:=1) (u:= .slice Option.none 0 0) hB4 (by simp) rfl rfl rfl ?_
 intro w5 hs5 hB5 hk5
 try simp only[go_sem]
 refine hK _ _ ?_;clear hK hgd;clear K;try clear gd
 simp only[List.set_cons_zero,List.set_cons_succ]at hB5
 have hE5:Ext w3 w5:=Keep.to_ext hE4 rfl (fun i hi=>by omega) hk5
 refine go trivial ?_
 refine zax (Q:=fun e σ' ds' v'=>e= .exit 0∧ds'=[]∧(σ' 1= .pointer (some ⟨p1,0,Option.none⟩)∧σ' 3= .pointer (some ⟨p,0,Option.none⟩))∧Ext w3 v'∧∃nv nvals,v'.heap[p]? =some (.cells [vi d.ty,nv,.slice au d.nums.length cu,.slice at1 d.texts.length ct,.slice ar d.raw.length cr].toArray 33 (0,0))∧Own (p+1) v' 24 nv nvals∧nvals.length=vals.length∧
   (∀j (h:j<nvals.length) (h':j<d.names.length),Row v' nvals[j] ((zaz d.names[j]).map vs))) ?_ ?_
 ·refine zaJ (fun m σ ds Z=>ds=[]∧∃k,k+m=vals.length∧(σ 1= .pointer (some ⟨p1,0,Option.none⟩)∧σ 3= .pointer (some ⟨p,0,Option.none⟩)∧σ 4=vi k)∧Ext w3 Z∧∃nv nvals,Z.heap[p]? =some (.cells [vi d.ty,nv,.slice au d.nums.length cu,.slice at1 d.texts.length ct,.slice ar d.raw.length cr].toArray 33 (0,0))∧Own (p+1) Z 24 nv nvals∧nvals.length=k∧
    (∀j (h:j<nvals.length) (h':j<d.names.length),Hz (zgi p p nv) Z (fun X=>Row X nvals[j] ((zaz d.names[j]).map vs)))) vals.length ?_ ?_
  ·exact⟨rfl,0,by omega,⟨vr0,vr0,vr0⟩,hE5,_,[],hB5,Own.nil _ _ _,rfl,fun j h=>absurd h (by simp)⟩
  clear hB5 hB4
  rintro m' σ ds Z ⟨rfl,k,hkm,⟨s1,s3,s4⟩,hEZ,nv,nvals,hBZ,hownZ,hnl,hnr⟩
  have hEWZ:=hE03.trans hEZ
  have hAZ:=Ext.at hEZ hA3
  have c1:zag Z (some ⟨p1,1,Option.none⟩)=some (.slice an vals.length cn):=zaG (j:=1) hAZ rfl
  by_cases hk:k<vals.length
  rotate_left
  ·have d2:decide ((k:Int)<(vals.length:Int))=false:=decide_eq_false (by omega)
   refine go (an6 s1 s3 s4 c1 d2 (Nat.zero_add 1)) ?_
   exact⟨rfl,rfl,⟨(vq1 s1),(vq1 s3)⟩,hEZ,nv,nvals,hBZ,hownZ,by omega,fun j h h'=>(hnr j h h').now⟩
  have d2:decide ((k:Int)<(vals.length:Int))=true:=decide_eq_true (by omega)
  refine go (an6 s1 s3 s4 c1 d2 (Nat.zero_add 1)) ?_
  have hgk:=hgn k hk
  obtain⟨xN,rfl⟩:=Option.isSome_iff_exists.1 (zah hgk)
  obtain⟨xk,hxk⟩:∃xk,adr (some xN) k=some xk:=⟨_,rfl⟩
  rw[hxk]at hgk
  have hxkb:xk.block<W.heap.size:=zdX hgk
  have hkn:k<d.names.length:=by omega
  have hrow:=hvr k hk hkn
  obtain⟨nvk,hnvk⟩:∃v,vals[k]=v:=⟨_,rfl⟩
  obtain⟨n,hn⟩:∃n,d.names[k]=n:=⟨_,rfl⟩
  rw[hnvk,hn]at hrow
  rw[hnvk]at hgk
  have hnT:=few_T (f5 n (hn▸List.getElem_mem hkn))
  have hnT2:=hnT.2
  have hk0:(0:Int)≤(k:Int):=by omega
  have hk1:(k:Int)<(vals.length:Int):=by omega
  have hk2:(k:Int)+1=((k+1:Nat):Int):=by push_cast;rfl
  have hpZ:p<Z.heap.size:=(Array.getElem?_eq_some_iff.1 hBZ).1
  have qn:zag Z (some ⟨p,1,Option.none⟩)=some nv:=zaG (j:=1) hBZ rfl
  have hn8:=hF.n8
  have hsE3:=hE03.size
  refine za7 (fun i=>i==11) [(0,true),(1,true),(2,true),(3,true),(4,true),(5,true),(6,true),(7,false),(8,false),(9,false),(10,true),(11,false)] (zbS (p+1)) mixed (by kernel_rfl) ?_;intro gd K x hgd hx hxe hK;have hx0:=zbc hxe;clear hxe
  have qnx:=zab hx0 qn
  have c1x:=zab hx0 c1
  have hgx:=zab (hEWZ.trans hx0) hgk
  have hxs:=hx0.size
  simp (disch:=first|omega|assumption|rfl) only[go_sem,s1,s3,s4,qnx,c1x,hgx,hk0,hk1,hxk,Nat.zero_add,Nat.mul_one]
  refine⟨za1 (by omega),za1 (by omega),off_of (by omega),?_⟩
  refine Fn.mono (FoldB_ok x nvk n (hrow.ext (hEWZ.trans hx0)) hnT.lb (by omega)) ?_
  rintro fv y1 ⟨hfv,hy1⟩
  refine⟨.inr hy1.keep,?_⟩
  obtain⟨fva,fvc,hfve,_⟩:=id hfv.1
  simp (disch:=first|omega|assumption|rfl) only[go_sem]
  refine zba (z:= .slice Option.none 0 0) (v:=fv) rfl rfl rfl rfl (by rw[hfve];rfl) ?_
  intro y2 hy2 hys2 hyo
  refine⟨.inr hy2.keep,?_⟩
  simp (disch:=first|omega|assumption|rfl) only[go_sem]
  have hxy:=(hx0.trans hy1).trans hy2
  have hsy1:=hy1.size
  have hsxy:=hxy.size
  refine zaN (hownZ.ext hxy) hyo.row rfl rfl rfl rfl rfl rfl (vr0) (vr0) (fun q hq=>by rw[List.mem_singleton.1 hq,hfve];rfl) (by rw[List.length_singleton];omega) (by decide) (by omega) ?_
  intro nv' y3 hown3 hX3 hK3 hb3
  refine⟨.inr (hK3.mono fun b _ hb=>by have:=(hownZ.ge hb).1;show _≤_;omega),?_⟩
  simp (disch:=first|omega|assumption|rfl) only[go_sem,s3,Nat.zero_add]
  have hK3s:=hK3.size
  obtain⟨a7,c7,hnv7⟩:=hown3.slice
  have hp3:y3.heap[p]? =some (.cells [vi d.ty,nv,.slice au d.nums.length cu,.slice at1 d.texts.length ct,.slice ar d.raw.length cr].toArray 33 (0,0)):=(hK3.block p (by omega) (fun h=>by have:=(hownZ.ge h).1;omega)).trans (Ext.at hxy hBZ)
  refine zbR (P:=Tryz.prog) (t:=29) (j:=1) (u:=nv') hp3 (by simp) (by rw[hnv7];rfl) rfl rfl ?_
  intro z hzs hBz hkz
  refine⟨.inl rfl,?_⟩
  simp (disch:=first|omega|assumption|rfl) only[go_sem]
  refine hK _ _ ?_;clear hK hgd;clear K;try clear gd
  simp only[List.set_cons_zero,List.set_cons_succ]at hBz
  have hob:∀b,b<y2.heap.size→zgi p p nv' b→zgi p p nv b:=fun b hb h=>by
   rcases h with h|h
   ·rcases hb3 b h with h|h
    ·exact .inl h
    ·omega
   ·exact .inr h
  have mv:∀{P:World→Prop},Hz (zgi p p nv) Z P→Hz (zgi p p nv') z P:=fun h=>
   ((h.ext hxy).app hK3 (fun b _ hb=> .inl hb) hob).app hkz (fun b _ hb=> .inr (by omega)) (fun b _ hb=>hb)
  refine go (an4 s1 s3 s4 hk2) ?_
  refine⟨m' - 1,by omega,rfl,k+1,by omega,⟨(vq1 s1),(vq1 s3),(vq1 hk2)⟩,Keep.to_ext (hX3 w3 (hEZ.trans hxy) (by omega)) rfl (fun b hb=>by omega) hkz,nv',nvals++ [fv],hBz,hown3.keep hkz (fun b hb h=>by have:=(hown3.ge hb).1;omega),by simp;omega,fun j h h'=>?_⟩
  by_cases hj:j<nvals.length
  ·rw[List.getElem_append_left hj]
   exact mv (hnr j hj h')
  ·have hjk:j=k:=by simp at h;omega
   subst hjk
   rw[List.getElem_append_right (by omega)]
   simp only[hnl,Nat.sub_self,List.getElem_cons_zero,hn]
   have hrz:Row z fv ((zaz n).map vs):=by
    refine Row.blocks (w:=y3) (Row.blocks (w:=y2) (hfv.1.ext hy2) fun a n' c hv=>?_) fun a n' c hv=>?_
    ·have h2:=hfv.2 a n' c hv
     exact hK3.block _ (by omega) (fun hh=>by have:=(hownZ.ge hh).2;omega)
    ·have h2:=hfv.2 a n' c hv
     exact hkz.block _ (by omega) (by omega)
   refine row_hz hrz fun a n' c hv=>?_
   have h2:=hfv.2 a n' c hv
   refine⟨by omega,?_⟩
   rintro(h3|h3)
   ·rcases hb3 _ h3 with h3|h3
    ·have:=(hownZ.ge h3).2;omega
    ·omega
   ·omega
 clear hB5 hB4
 rintro _ σ1 _ Z ⟨rfl,rfl,⟨s1,s3⟩,hEZ,nv,nvals,hBZ,hownZ,hnl,hnr⟩
 have hEWZ:=hE03.trans hEZ
 have hAZ:=Ext.at hEZ hA3
 have qA:=zam (n:=5) hAZ rfl
 have hdZ:DatAt Z [vi d.ty,nv,.slice au d.nums.length cu,.slice at1 d.texts.length ct,.slice ar d.raw.length cr] (zc9 d):=⟨nv,_,_,_,rfl,⟨nvals,hownZ.row,by rw[hnl,hvl];unfold zc9;simp,fun j h h'=>by
  have h2:j<d.names.length:=by simpa [zc9] using h'
  have h3:=hnr j h h2
  have h4:(zc9 d).names[j]=zaz d.names[j]:=by simp[zc9]
  rw[h4];exact h3⟩,hnu.ext hEWZ,htx.ext hEWZ,hrw.ext hEWZ⟩
 refine go (an2 s1 s3) ?_
 refine rq ?_;intro gd K hgd hK
 try simp (disch:=first|omega|assumption|rfl) only[go_sem,s1,qA]
 refine zbg (P:=Tryz.prog) (l:=[vi d.ty,.slice an vals.length cn,.slice au d.nums.length cu,.slice at1 d.texts.length ct,.slice ar d.raw.length cr]) rfl h1 rfl rfl ?_
 intro y1 hE1' hs1' hB1
 obtain⟨p5,hp5⟩:∃p,Z.heap.size=p:=⟨_,rfl⟩
 rw[hp5]at hB1 hs1' ⊢
 try simp only[go_sem]
 refine hK _ _ ?_;clear hK hgd;clear K;try clear gd
 refine go (an2 s1 s3) ?_
 have c3:zag y1 (some ⟨p1,3,Option.none⟩)=some (.slice at1 d.texts.length ct):=zaG (j:=3) (Ext.at hE1' hAZ) rfl
 refine rq ?_;intro gd K hgd hK
 try simp (disch:=first|omega|assumption|rfl) only[go_sem,s1]
 refine zes (z:=vs []) rfl rfl rfl rfl ?_
 intro y2 hE2' hs2' ho2
 obtain⟨B,hB⟩:∃B,y1.heap.size=B:=⟨_,rfl⟩
 rw[hB]at ho2 hs2' ⊢
 have c3':=zab hE2' c3
 try simp (disch:=first|omega|assumption|rfl) only[go_sem,s1,c3',Nat.zero_add]
 have hE2'':=(hEWZ.trans hE1').trans hE2'
 refine zaN ho2 (htx.ext hE2'') rfl rfl rfl rfl rfl rfl (vr0) (vr0) (fun q hq=>by obtain⟨t,_,rfl⟩:=List.mem_map.1 hq;rfl) (by simp;omega) (by decide) (by omega) ?_
 intro v3 y3 ho3 hX3 hk3 hb3
 try simp only[go_sem]
 refine zdY (z:=vs []) (l:=[vs [120]]) rfl rfl rfl rfl rfl rfl (fun v hv=>by simp at hv;rcases hv with rfl;rfl) (by simp) ?_
 intro y4 hE4' hs4' ho4
 try simp only[go_sem]
 have hk3s:=hk3.size
 have hs4s:=hE4'.size
 refine zaN (ho3.ext hE4') ho4.row rfl rfl rfl rfl rfl rfl (vr0) (vr0) (fun q hq=>by rw[List.mem_singleton.1 hq];rfl) (by simp;omega) (by decide) (by omega) ?_
 intro v5 y5 ho5 hX5 hk5' hb5
 try simp (disch:=first|omega|assumption|rfl) only[go_sem,s1,Nat.zero_add]
 have hk5s:=hk5'.size
 have hE5':Ext y1 y5:=hX5 y1 ((hX3 y1 hE2' (by omega)).trans hE4') (by omega)
 have hB5:=Ext.at hE5' hB1
 obtain⟨a5,c5,hv5⟩:=ho5.slice
 refine zbR (P:=Tryz.prog) (t:=23) (j:=3) (u:=v5) hB5 (by simp) (by rw[hv5];rfl) rfl rfl ?_
 intro y6 hs6 hB6 hk6
 try simp only[go_sem]
 refine hK _ _ ?_;clear hK hgd;clear K;try clear gd
 simp only[List.set_cons_zero,List.set_cons_succ]at hB6
 have hEZ6:Ext Z y6:=Keep.to_ext (hE1'.trans hE5') rfl (fun i hi=>by omega) hk6
 have ho6:=ho5.keep hk6 fun i hi hs=>by have:=(ho5.ge hi).1;omega
 have hE6:=hEWZ.trans hEZ6
 have hdM:DatAt y6 [vi d.ty,.slice an vals.length cn,.slice au d.nums.length cu,v5,.slice ar d.raw.length cr] (zdR d):=by
  have h6:=ho6.row
  rw[List.nil_append]at h6
  obtain⟨_,_,_,_,h7,h8,_,_,_⟩:=(hd.ext hE6).ex
  have e8:=(List.cons.inj (List.cons.inj h7).2).1
  rw[←e8]at h8
  refine⟨_,_,_,_,rfl,h8,hnu.ext hE6,?_,hrw.ext hE6⟩
  show Row y6 v5 ((d.texts++ [[120]]).map vs)
  rw[List.map_append]
  exact h6
 refine go (an2 s1 s3) ?_
 have r1:=zam (n:=5) (Ext.at hEZ6 hAZ) rfl
 have r3:=zam (n:=5) (Ext.at hEZ6 hBZ) rfl
 have r5:=zam (n:=5) hB6 rfl
 have hdZ6:=hdZ.ext hEZ6
 have hd6:=hd.ext hE6
 have g1:decide (cmpD (zc9 d) d=0)=true:=decide_eq_true (zdy d)
 have g2:decide (cmpD (zdR d) d=0)=false:=decide_eq_false (by rw[zfF];decide)
 refine rq ?_;intro gd K hgd hK
 have hg3:∀n σ b,zas gd n σ (some (3,b))=zan (ev n σ (.tmp 42)) b:=(fun n σ b=>by rw[zad,show gd 3=some 42 from(by rw[hgd];rfl)];rfl);have hg9:∀n σ b,zas gd n σ (some (9,b))=zan (ev n σ (.tmp 48)) b:=(fun n σ b=>by rw[zad,show gd 9=some 48 from(by rw[hgd];rfl)];rfl);have hg15:∀n σ b,zas gd n σ (some (15,b))=zan (ev n σ (.tmp 54)) b:=(fun n σ b=>by rw[zad,show gd 15=some 54 from(by rw[hgd];rfl)];rfl)
 try simp (disch:=first|omega|assumption|rfl) only[go_sem,s1,s3,r1,r3,↓hg3,↓hg9,↓hg15]
 refine Fn.mono (zcU _ _ _ (zc9 d) d hdZ6 hd6 hOf hO) ?_
 rintro _ z1 ⟨rfl,k1⟩
 rw[g1]
 have r1a:=zaf k1 r1
 have r3a:=zaf k1 r3
 try simp (disch:=first|omega|assumption|rfl) only[go_sem,s1,s3,r1a,r3a,↓hg3,↓hg9,↓hg15]
 refine Fn.mono (zbr _ _ _ (zc9 d) d (hdZ6.ext k1) (hd6.ext k1) hOf hO) ?_
 rintro _ z2 ⟨rfl,k2⟩
 rw[zdy]
 have k12:=k1.trans k2
 have r1b:=zaf k12 r1
 have r5b:=zaf k12 r5
 have e0:decide ((0:Int)=0)=true:=rfl
 try simp (disch:=first|omega|assumption|rfl) only[go_sem,s1,e0,r1b,r5b,↓hg3,↓hg9,↓hg15]
 refine Fn.mono (zcU _ _ _ (zdR d) d (hdM.ext k12) (hd6.ext k12) hOm hO) ?_
 rintro _ z3 ⟨rfl,k3⟩
 rw[g2]
 have k13:=k12.trans k3
 have r1c:=zaf k13 r1
 have r5c:=zaf k13 r5
 try simp (disch:=first|omega|assumption|rfl) only[go_sem,s1,Bool.not_false,r1c,r5c,↓hg3,↓hg9,↓hg15]
 refine Fn.mono (zbr _ _ _ d (zdR d) (hd6.ext k13) (hdM.ext k13) hO hOm) ?_
 rintro _ z4 ⟨rfl,k4⟩
 rw[zdu]
 have e1:decide ((-1:Int)<0)=true:=rfl
 try simp (disch:=first|omega|assumption|rfl) only[go_sem,e1,↓hg3,↓hg9,↓hg15]
 refine hK _ _ ?_;clear hK hgd;clear K;try clear gd
 refine go trivial ?_
 refine rt0 Tryz.ntmps11 ?_
 exact⟨rfl,(hE6.trans k13).trans k4⟩
end Go.Proofs.YtanmnkbccfcagaaGreatDoor
