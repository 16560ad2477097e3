/-
  Texts of a proof, joined: JV, JW, JX, NB, NC, NE, NK.
  Conditions: none.
-/
import Derived.Test.YtanmnkbccfcagaaGreatDoorQDB07
import Derived.Test.YtanmnkbccfcagaaGreatDoorQDB04
import Derived.Test.YtanmnkbccfcagaaGreatDoorQDB03
import Derived.Test.YtanmnkbccfcagaaGreatDoorQDB06
import Derived.Test.YtanmnkbccfcagaaGreatDoorQDB05
set_option linter.unusedVariables false
set_option linter.unusedSimpArgs false
set_option linter.defProp false
set_option linter.unnecessarySimpa false
set_option maxHeartbeats 8000000
namespace Go.Proofs.YtanmnkbccfcagaaGreatDoor
open Go
set_option maxRecDepth 100000
theorem dA_T:DatT dA:=⟨⟨by decide,by decide,by decide,by decide,by decide,by decide,by decide⟩,by decide⟩
theorem dM_T:DatT dM:=⟨⟨by decide,by decide,by decide,by decide,by decide,by decide,by decide⟩,by decide⟩
theorem dU_T:DatT dU:=⟨⟨by decide,by decide,by decide,by decide,by decide,by decide,by decide⟩,by decide⟩
theorem dT_T:DatT dT:=⟨⟨by decide,by decide,by decide,by decide,by decide,by decide,by decide⟩,by decide⟩
theorem dA_ok:zdX dA:=⟨by unfold LB;decide,by decide,by decide,by decide,by decide,by decide⟩
theorem dM_ok:zdX dM:=⟨by unfold LB;decide,by decide,by decide,by decide,by decide,by decide⟩
theorem tA:za1 hexU dA=[49,48,46,48,46,48,46,55]:=by decide+kernel
theorem tM:za1 hexU dM=[53,32,120,46,111,46]:=by decide+kernel
theorem tU:za1 hexU dU=[92,35,32,50,32,48,97,102,102]:=by decide+kernel
theorem tT:za1 hexU dT=[34,97,92,34,98,34]:=by decide+kernel
theorem zbC{w:World}{cs:List Value}{d:DatL}(h:DatAt w cs d):cs.length=5∧∀x∈cs,one x=true:=by
 obtain⟨nm,nu,tx,rw',rfl,⟨vals,h1,_,_⟩,h2,h3,h4⟩:=h.ex
 exact⟨rfl,zbS _ _ _ _ _ h1.isOne h2.isOne h3.isOne h4.isOne⟩
theorem zir{w0:World}(hW:WX w0)(hY:WY w0):Fn Tryz.prog 28 #[] w0 (fun v w'=>v= .bool true∧Ext w0 w'):=by
 refine enter Tryz.func28 Tryz.ntmps28 rfl rfl ?_
 refine go trivial ?_
 refine rq ?_;intro gd K hgd hK
 try simp only[go_sem]
 refine⟨by kernel_rfl,?_⟩
 rw[show bdV Tryz.prog 141 [(0,vs [49,48,46,48,46,48,46,55])]=some (.agg #[vs [49,48,46,48,46,48,46,55],.bool false]) from by kernel_rfl]
 try simp only[go_sem]
 refine zfh (e:=141) (arr:=#[vs [49,48,46,48,46,48,46,55],.bool false]) (by kernel_rfl) ?_
 intro a1 ea1 sa1 ba1
 obtain⟨ca1,hca1⟩:∃c,w0.heap.size=c:=⟨_,rfl⟩
 rw[hca1]at ba1 ⊢
 have rr1:Rows 2 WdC a1 (.slice (some ⟨ca1,0,Option.none⟩) 1 1) ([([49,48,46,48,46,48,46,55],false)]:List (Lab×Bool)):=by
  refine Rows.close (xs:=([([49,48,46,48,46,48,46,55],false)]:List (Lab×Bool))) (by decide) (fun i hi=>?_)
  have hi2:i<1:=hi
  have hi3:i=0:=by omega
  subst hi3
  exact⟨_,by rw[zbd];exact zap ba1 (Nat.le_of_ble_eq_true rfl),rfl⟩
 try simp only[go_sem]
 have hF1:Ext w0 a1:=ea1
 refine Fn.mono (pk1 (hW.ext hF1) rr1) ?_
 rintro _ p1 ⟨ep1,cs1,rfl,hd1⟩
 obtain⟨hl1,ho1⟩:=zbC hd1
 try simp only[go_sem]
 refine zbp (P:=Tryz.prog) (l:=cs1) (by rw[hl1];rfl) ho1 (by rw[hl1];rfl) rfl ?_
 intro b1 eb1 sb1 hB1
 obtain⟨cb1,hcb1⟩:∃c,p1.heap.size=c:=⟨_,rfl⟩
 rw[hcb1]at hB1 ⊢
 try simp only[go_sem]
 refine hK _ _ ?_;clear hK hgd;clear K;try clear gd
 have hE1:Ext w0 b1:=(hF1.trans ep1).trans eb1
 have hX1:Ext b1 b1:=Keep.refl _ _
 refine go trivial ?_
 refine rq ?_;intro gd K hgd hK
 try simp only[go_sem]
 refine⟨by kernel_rfl,?_⟩
 rw[show bdV Tryz.prog 141 [(0,vs [53])]=some (.agg #[vs [53],.bool false]) from by kernel_rfl]
 try simp only[go_sem]
 refine⟨by kernel_rfl,?_⟩
 rw[show bdV Tryz.prog 141 [(0,vs [120])]=some (.agg #[vs [120],.bool false]) from by kernel_rfl]
 try simp only[go_sem]
 refine zfh (e:=141) (arr:=#[vs [53],.bool false,vs [120],.bool false]) (by kernel_rfl) ?_
 intro a2 ea2 sa2 ba2
 obtain⟨ca2,hca2⟩:∃c,b1.heap.size=c:=⟨_,rfl⟩
 rw[hca2]at ba2 ⊢
 have rr2:Rows 2 WdC a2 (.slice (some ⟨ca2,0,Option.none⟩) 2 2) ([([53],false),([120],false)]:List (Lab×Bool)):=by
  refine Rows.close (xs:=([([53],false),([120],false)]:List (Lab×Bool))) (by decide) (fun i hi=>?_)
  have hi2:i<2:=hi
  have hi3:i=0∨i=1:=by omega
  rcases hi3 with rfl|rfl
  all_goals exact⟨_,by rw[zbd];exact zap ba2 (Nat.le_of_ble_eq_true rfl),rfl⟩
 try simp only[go_sem]
 refine zfR (z:=vs []) (l:=[vs [111]]) rfl rfl rfl rfl rfl rfl (fun v hv=>by simp at hv;rcases hv with rfl;rfl) (by simp) ?_
 intro o2 eo2 so2 oo2
 obtain⟨co2,hco2⟩:∃c,a2.heap.size=c:=⟨_,rfl⟩
 rw[hco2]at oo2 ⊢
 have rr2o:=rr2.ext eo2
 try simp only[go_sem]
 have hF2:Ext w0 o2:=(hE1.trans ea2).trans eo2
 refine Fn.mono (pk2 (hW.ext hF2) (oa:=⟨co2,0,Option.none⟩) (oc:=1) oo2.row rr2o) ?_
 rintro _ p2 ⟨ep2,cs2,rfl,hd2⟩
 obtain⟨hl2,ho2⟩:=zbC hd2
 try simp only[go_sem]
 refine zbp (P:=Tryz.prog) (l:=cs2) (by rw[hl2];rfl) ho2 (by rw[hl2];rfl) rfl ?_
 intro b2 eb2 sb2 hB2
 obtain⟨cb2,hcb2⟩:∃c,p2.heap.size=c:=⟨_,rfl⟩
 rw[hcb2]at hB2 ⊢
 try simp only[go_sem]
 refine hK _ _ ?_;clear hK hgd;clear K;try clear gd
 have hE2:Ext w0 b2:=(hF2.trans ep2).trans eb2
 have hX2:Ext b2 b2:=Keep.refl _ _
 refine go trivial ?_
 refine rq ?_;intro gd K hgd hK
 try simp only[go_sem]
 refine⟨by kernel_rfl,?_⟩
 rw[show bdV Tryz.prog 141 [(0,vs [92,35])]=some (.agg #[vs [92,35],.bool false]) from by kernel_rfl]
 try simp only[go_sem]
 refine⟨by kernel_rfl,?_⟩
 rw[show bdV Tryz.prog 141 [(0,vs [50])]=some (.agg #[vs [50],.bool false]) from by kernel_rfl]
 try simp only[go_sem]
 refine⟨by kernel_rfl,?_⟩
 rw[show bdV Tryz.prog 141 [(0,vs [48,65])]=some (.agg #[vs [48,65],.bool false]) from by kernel_rfl]
 try simp only[go_sem]
 refine⟨by kernel_rfl,?_⟩
 rw[show bdV Tryz.prog 141 [(0,vs [102,102])]=some (.agg #[vs [102,102],.bool false]) from by kernel_rfl]
 try simp only[go_sem]
 refine zfh (e:=141) (arr:=#[vs [92,35],.bool false,vs [50],.bool false,vs [48,65],.bool false,vs [102,102],.bool false]) (by kernel_rfl) ?_
 intro a3 ea3 sa3 ba3
 obtain⟨ca3,hca3⟩:∃c,b2.heap.size=c:=⟨_,rfl⟩
 rw[hca3]at ba3 ⊢
 have rr3:Rows 2 WdC a3 (.slice (some ⟨ca3,0,Option.none⟩) 4 4) ([([92,35],false),([50],false),([48,65],false),([102,102],false)]:List (Lab×Bool)):=by
  refine Rows.close (xs:=([([92,35],false),([50],false),([48,65],false),([102,102],false)]:List (Lab×Bool))) (by decide) (fun i hi=>?_)
  have hi2:i<4:=hi
  have hi3:i=0∨i=1∨i=2∨i=3:=by omega
  rcases hi3 with rfl|rfl|rfl|rfl
  all_goals exact⟨_,by rw[zbd];exact zap ba3 (Nat.le_of_ble_eq_true rfl),rfl⟩
 try simp only[go_sem]
 have hF3:Ext w0 a3:=hE2.trans ea3
 refine Fn.mono (pk3 (hW.ext hF3) rr3) ?_
 rintro _ p3 ⟨ep3,cs3,rfl,hd3⟩
 obtain⟨hl3,ho3⟩:=zbC hd3
 try simp only[go_sem]
 refine zbp (P:=Tryz.prog) (l:=cs3) (by rw[hl3];rfl) ho3 (by rw[hl3];rfl) rfl ?_
 intro b3 eb3 sb3 hB3
 obtain⟨cb3,hcb3⟩:∃c,p3.heap.size=c:=⟨_,rfl⟩
 rw[hcb3]at hB3 ⊢
 try simp only[go_sem]
 refine hK _ _ ?_;clear hK hgd;clear K;try clear gd
 have hE3:Ext w0 b3:=(hF3.trans ep3).trans eb3
 have hX3:Ext b3 b3:=Keep.refl _ _
 refine go trivial ?_
 refine rq ?_;intro gd K hgd hK
 try simp only[go_sem]
 refine⟨by kernel_rfl,?_⟩
 rw[show bdV Tryz.prog 141 [(0,vs [50,53,54,46,48,46,48,46,49])]=some (.agg #[vs [50,53,54,46,48,46,48,46,49],.bool false]) from by kernel_rfl]
 try simp only[go_sem]
 refine zfh (e:=141) (arr:=#[vs [50,53,54,46,48,46,48,46,49],.bool false]) (by kernel_rfl) ?_
 intro a4 ea4 sa4 ba4
 obtain⟨ca4,hca4⟩:∃c,b3.heap.size=c:=⟨_,rfl⟩
 rw[hca4]at ba4 ⊢
 have rr4:Rows 2 WdC a4 (.slice (some ⟨ca4,0,Option.none⟩) 1 1) ([([50,53,54,46,48,46,48,46,49],false)]:List (Lab×Bool)):=by
  refine Rows.close (xs:=([([50,53,54,46,48,46,48,46,49],false)]:List (Lab×Bool))) (by decide) (fun i hi=>?_)
  have hi2:i<1:=hi
  have hi3:i=0:=by omega
  subst hi3
  exact⟨_,by rw[zbd];exact zap ba4 (Nat.le_of_ble_eq_true rfl),rfl⟩
 try simp only[go_sem]
 have hF4:Ext w0 a4:=hE3.trans ea4
 refine Fn.mono (pk4 (hW.ext hF4) rr4) ?_
 rintro _ p4 ⟨ep4,rfl⟩
 obtain⟨cs4,hcs4⟩:∃l,([vi 0,.slice Option.none 0 0,.slice Option.none 0 0,.slice Option.none 0 0,.slice Option.none 0 0]:List Value)=l:=⟨_,rfl⟩
 rw[hcs4]
 obtain⟨hl4,ho4⟩:cs4.length=5∧∀x∈cs4,one x=true:=by subst hcs4;exact⟨rfl,zbS _ _ _ _ _ rfl rfl rfl rfl⟩
 try simp only[go_sem]
 refine zbp (P:=Tryz.prog) (l:=cs4) (by rw[hl4];rfl) ho4 (by rw[hl4];rfl) rfl ?_
 intro b4 eb4 sb4 hB4
 obtain⟨cb4,hcb4⟩:∃c,p4.heap.size=c:=⟨_,rfl⟩
 rw[hcb4]at hB4 ⊢
 try simp only[go_sem]
 refine hK _ _ ?_;clear hK hgd;clear K;try clear gd
 have hE4:Ext w0 b4:=(hF4.trans ep4).trans eb4
 have hX4:Ext b4 b4:=Keep.refl _ _
 refine go trivial ?_
 refine rq ?_;intro gd K hgd hK
 try simp only[go_sem]
 refine⟨by kernel_rfl,?_⟩
 rw[show bdV Tryz.prog 141 [(0,vs [97,92,34,98]),(1,.bool true)]=some (.agg #[vs [97,92,34,98],.bool true]) from by kernel_rfl]
 try simp only[go_sem]
 refine zfh (e:=141) (arr:=#[vs [97,92,34,98],.bool true]) (by kernel_rfl) ?_
 intro a5 ea5 sa5 ba5
 obtain⟨ca5,hca5⟩:∃c,b4.heap.size=c:=⟨_,rfl⟩
 rw[hca5]at ba5 ⊢
 have rr5:Rows 2 WdC a5 (.slice (some ⟨ca5,0,Option.none⟩) 1 1) ([([97,92,34,98],true)]:List (Lab×Bool)):=by
  refine Rows.close (xs:=([([97,92,34,98],true)]:List (Lab×Bool))) (by decide) (fun i hi=>?_)
  have hi2:i<1:=hi
  have hi3:i=0:=by omega
  subst hi3
  exact⟨_,by rw[zbd];exact zap ba5 (Nat.le_of_ble_eq_true rfl),rfl⟩
 try simp only[go_sem]
 have hF5:Ext w0 a5:=hE4.trans ea5
 refine Fn.mono (pk5 rr5) ?_
 rintro _ p5 ⟨ep5,cs5,rfl,hd5⟩
 obtain⟨hl5,ho5⟩:=zbC hd5
 try simp only[go_sem]
 refine zbp (P:=Tryz.prog) (l:=cs5) (by rw[hl5];rfl) ho5 (by rw[hl5];rfl) rfl ?_
 intro b5 eb5 sb5 hB5
 obtain⟨cb5,hcb5⟩:∃c,p5.heap.size=c:=⟨_,rfl⟩
 rw[hcb5]at hB5 ⊢
 try simp only[go_sem]
 refine hK _ _ ?_;clear hK hgd;clear K;try clear gd
 have hE5:Ext w0 b5:=(hF5.trans ep5).trans eb5
 have hX5:Ext b5 b5:=Keep.refl _ _
 refine go trivial ?_
 have hZ1:Ext b1 b5:=(((((((((((((hX1).trans ea2).trans eo2).trans ep2).trans eb2).trans ea3).trans ep3).trans eb3).trans ea4).trans ep4).trans eb4).trans ea5).trans ep5).trans eb5
 have hq1:DatAt b5 cs1 dA:=(hd1.ext eb1).ext hZ1
 have pc1:zaA b5 (some ⟨cb1,0,Option.none⟩) 5=some cs1:=zam (n:=5) (Ext.at hZ1 hB1) (by simp[hl1])
 have hZ2:Ext b2 b5:=(((((((((hX2).trans ea3).trans ep3).trans eb3).trans ea4).trans ep4).trans eb4).trans ea5).trans ep5).trans eb5
 have hq2:DatAt b5 cs2 dM:=(hd2.ext eb2).ext hZ2
 have pc2:zaA b5 (some ⟨cb2,0,Option.none⟩) 5=some cs2:=zam (n:=5) (Ext.at hZ2 hB2) (by simp[hl2])
 have hZ3:Ext b3 b5:=((((((hX3).trans ea4).trans ep4).trans eb4).trans ea5).trans ep5).trans eb5
 have hq3:DatAt b5 cs3 dU:=(hd3.ext eb3).ext hZ3
 have pc3:zaA b5 (some ⟨cb3,0,Option.none⟩) 5=some cs3:=zam (n:=5) (Ext.at hZ3 hB3) (by simp[hl3])
 have hZ5:Ext b5 b5:=hX5
 have hq5:DatAt b5 cs5 dT:=(hd5.ext eb5).ext hZ5
 have pc5:zaA b5 (some ⟨cb5,0,Option.none⟩) 5=some cs5:=zam (n:=5) (Ext.at hZ5 hB5) (by simp[hl5])
 obtain⟨nm,nu,tx,rv,hcs1,_,_,_,a4⟩:=hq1.ex
 obtain⟨ar,cr,hrv,_,hgr⟩:=a4
 have g3:=hgr 3 (by decide)
 obtain⟨ax,rfl⟩:=Option.isSome_iff_exists.1 (zaj g3)
 rw[show (dA.raw.map zak).length=4 from rfl]at hrv
 have p4:zag b5 (some ⟨cb1,4,Option.none⟩)=some (.slice (some ax) 4 cr):=by
  have:=zaG (j:=4) (u:=rv) (Ext.at hZ1 hB1) (by rw[hcs1];rfl)
  rwa [hrv]at this
 have g3':zag b5 (adr (some ax) (Int.toNat 3))=some (zak 7):=g3
 have hW5:=hY.ext hE5
 have z0:decide ((0:Int)=0)=true:=rfl
 have z4:decide (((4:Nat):Int)=4)=true:=rfl
 have i0:(0:Int)≤3:=by decide
 have i3:(3:Int)<((4:Nat):Int):=by decide
 have z7:decide (((7:UInt8).toNat:Int)=7)=true:=rfl
 have z7':decide ((7:Int)=7)=true:=rfl
 have b7:binV Tryz.prog BinOp.eql 5 (zak 7) (Value.int IntKind.u8 7)=some (.bool true):=by kernel_rfl
 refine rq ?_;intro gd K hgd hK
 have hg8:∀n σ b,zaw gd n σ (some (8,b))=zan (ev n σ (.tmp 54)) b:=(fun n σ b=>by rw[zaf,show gd 8=some 54 from(by rw[hgd];rfl)];rfl);have hg14:∀n σ b,zaw gd n σ (some (14,b))=zan (ev n σ (.tmp 60)) b:=(fun n σ b=>by rw[zaf,show gd 14=some 60 from(by rw[hgd];rfl)];rfl);have hg21:∀n σ b,zaw gd n σ (some (21,b))=zan (ev n σ (.tmp 67)) b:=(fun n σ b=>by rw[zaf,show gd 21=some 67 from(by rw[hgd];rfl)];rfl);have hg26:∀n σ b,zaw gd n σ (some (26,b))=zan (ev n σ (.tmp 72)) b:=(fun n σ b=>by rw[zaf,show gd 26=some 72 from(by rw[hgd];rfl)];rfl);have hg31:∀n σ b,zaw gd n σ (some (31,b))=zan (ev n σ (.tmp 77)) b:=(fun n σ b=>by rw[zaf,show gd 31=some 77 from(by rw[hgd];rfl)];rfl);have hg36:∀n σ b,zaw gd n σ (some (36,b))=zan (ev n σ (.tmp 82)) b:=(fun n σ b=>by rw[zaf,show gd 36=some 82 from(by rw[hgd];rfl)];rfl);have hg40:∀n σ b,zaw gd n σ (some (40,b))=zan (ev n σ (.tmp 86)) b:=(fun n σ b=>by rw[zaf,show gd 40=some 86 from(by rw[hgd];rfl)];rfl);have hg45:∀n σ b,zaw gd n σ (some (45,b))=zan (ev n σ (.tmp 91)) b:=(fun n σ b=>by rw[zaf,show gd 45=some 91 from(by rw[hgd];rfl)];rfl);have hg50:∀n σ b,zaw gd n σ (some (50,b))=zan (ev n σ (.tmp 96)) b:=(fun n σ b=>by rw[zaf,show gd 50=some 96 from(by rw[hgd];rfl)];rfl);have hg55:∀n σ b,zaw gd n σ (some (55,b))=zan (ev n σ (.tmp 101)) b:=(fun n σ b=>by rw[zaf,show gd 55=some 101 from(by rw[hgd];rfl)];rfl);have hg61:∀n σ b,zaw gd n σ (some (61,b))=zan (ev n σ (.tmp 107)) b:=(fun n σ b=>by rw[zaf,show gd 61=some 107 from(by rw[hgd];rfl)];rfl)
 simp only[List.append_eq,List.cons_append,List.nil_append]
 try simp (disch:=first|omega|assumption|rfl) only[go_sem,Int.add_zero,z0,p4,z4,i0,i3,g3',z7,z7',b7,pc1,pc2,pc3,pc5,Nat.zero_add,↓hg8,↓hg14,↓hg21,↓hg26,↓hg31,↓hg36,↓hg40,↓hg45,↓hg50,↓hg55,↓hg61]
 have dd1:decide (([49,48,46,48,46,48,46,55]:Lab)=[49,48,46,48,46,48,46,55])=true:=decide_eq_true rfl
 refine Fn.mono (zbf hW5 hq1 dA_T) ?_
 rintro _ y1 ⟨rfl,f1⟩
 have x1:Ext b5 y1:=f1
 rw[tA]
 have pc1_1:=zah x1 pc1
 have pc2_1:=zah x1 pc2
 have pc3_1:=zah x1 pc3
 have pc5_1:=zah x1 pc5
 try simp (disch:=first|omega|assumption|rfl) only[go_sem,dd1,z0,z7,z7',Nat.zero_add,pc1_1,pc2_1,pc3_1,pc5_1,↓hg8,↓hg14,↓hg21,↓hg26,↓hg31,↓hg36,↓hg40,↓hg45,↓hg50,↓hg55,↓hg61]
 have dd2:decide (([53,32,120,46,111,46]:Lab)=[53,32,120,46,111,46])=true:=decide_eq_true rfl
 refine Fn.mono (zbf (hW5.ext x1) (hq2.ext x1) dM_T) ?_
 rintro _ y2 ⟨rfl,f2⟩
 have x2:Ext b5 y2:=x1.trans f2
 rw[tM]
 have pc1_2:=zah x2 pc1
 have pc2_2:=zah x2 pc2
 have pc3_2:=zah x2 pc3
 have pc5_2:=zah x2 pc5
 try simp (disch:=first|omega|assumption|rfl) only[go_sem,dd2,z0,z7,z7',Nat.zero_add,pc1_2,pc2_2,pc3_2,pc5_2,↓hg8,↓hg14,↓hg21,↓hg26,↓hg31,↓hg36,↓hg40,↓hg45,↓hg50,↓hg55,↓hg61]
 have dd3:decide (([92,35,32,50,32,48,97,102,102]:Lab)=[92,35,32,50,32,48,97,102,102])=true:=decide_eq_true rfl
 refine Fn.mono (zbf (hW5.ext x2) (hq3.ext x2) dU_T) ?_
 rintro _ y3 ⟨rfl,f3⟩
 have x3:Ext b5 y3:=x2.trans f3
 rw[tU]
 have pc1_3:=zah x3 pc1
 have pc2_3:=zah x3 pc2
 have pc3_3:=zah x3 pc3
 have pc5_3:=zah x3 pc5
 try simp (disch:=first|omega|assumption|rfl) only[go_sem,dd3,z0,z7,z7',Nat.zero_add,pc1_3,pc2_3,pc3_3,pc5_3,↓hg8,↓hg14,↓hg21,↓hg26,↓hg31,↓hg36,↓hg40,↓hg45,↓hg50,↓hg55,↓hg61]
 have dd5:decide (([34,97,92,34,98,34]:Lab)=[34,97,92,34,98,34])=true:=decide_eq_true rfl
 refine Fn.mono (zbf (hW5.ext x3) (hq5.ext x3) dT_T) ?_
 rintro _ y4 ⟨rfl,f4⟩
 have x4:Ext b5 y4:=x3.trans f4
 rw[tT]
 have pc1_4:=zah x4 pc1
 have pc2_4:=zah x4 pc2
 have pc3_4:=zah x4 pc3
 have pc5_4:=zah x4 pc5
 try simp (disch:=first|omega|assumption|rfl) only[go_sem,dd5,z0,z7,z7',Nat.zero_add,pc1_4,pc2_4,pc3_4,pc5_4,↓hg8,↓hg14,↓hg21,↓hg26,↓hg31,↓hg36,↓hg40,↓hg45,↓hg50,↓hg55,↓hg61]
 refine Fn.mono (zfq (hq1.ext x4) dA_T) ?_
 rintro _ y5 ⟨rfl,f5⟩
 have x5:Ext b5 y5:=x4.trans f5
 rw[show zaX dA=0 from by decide+kernel]
 have pc1_5:=zah x5 pc1
 have pc2_5:=zah x5 pc2
 have pc3_5:=zah x5 pc3
 have pc5_5:=zah x5 pc5
 try simp (disch:=first|omega|assumption|rfl) only[go_sem,z0,z7,z7',Nat.zero_add,pc1_5,pc2_5,pc3_5,pc5_5,↓hg8,↓hg14,↓hg21,↓hg26,↓hg31,↓hg36,↓hg40,↓hg45,↓hg50,↓hg55,↓hg61]
 have e1:decide (cmpD dM dM=0)=true:=by decide+kernel
 have e2:decide (cmpD dA dM=0)=false:=by decide+kernel
 refine Fn.mono (zeK _ _ _ dM dM (hq2.ext x5) (hq2.ext x5) dM_ok dM_ok) ?_
 rintro _ y6 ⟨rfl,f6⟩
 have x6:Ext b5 y6:=x5.trans f6
 rw[e1]
 have pc1_6:=zah x6 pc1
 have pc2_6:=zah x6 pc2
 have pc3_6:=zah x6 pc3
 have pc5_6:=zah x6 pc5
 try simp (disch:=first|omega|assumption|rfl) only[go_sem,z0,z7,z7',Nat.zero_add,pc1_6,pc2_6,pc3_6,pc5_6,↓hg8,↓hg14,↓hg21,↓hg26,↓hg31,↓hg36,↓hg40,↓hg45,↓hg50,↓hg55,↓hg61]
 refine Fn.mono (zeK _ _ _ dA dM (hq1.ext x6) (hq2.ext x6) dA_ok dM_ok) ?_
 rintro _ y7 ⟨rfl,f7⟩
 have x7:Ext b5 y7:=x6.trans f7
 rw[e2]
 have pc1_7:=zah x7 pc1
 have pc2_7:=zah x7 pc2
 have pc3_7:=zah x7 pc3
 have pc5_7:=zah x7 pc5
 try simp (disch:=first|omega|assumption|rfl) only[go_sem,Bool.not_false,z0,z7,z7',Nat.zero_add,pc1_7,pc2_7,pc3_7,pc5_7,↓hg8,↓hg14,↓hg21,↓hg26,↓hg31,↓hg36,↓hg40,↓hg45,↓hg50,↓hg55,↓hg61]
 refine Fn.mono (zdU _ _ _ dA dM (hq1.ext x7) (hq2.ext x7) dA_ok dM_ok) ?_
 rintro _ y8 ⟨rfl,f8⟩
 have x8:Ext b5 y8:=x7.trans f8
 rw[show cmpD dA dM= -1 from by decide+kernel]
 have pc1_8:=zah x8 pc1
 have pc2_8:=zah x8 pc2
 have pc3_8:=zah x8 pc3
 have pc5_8:=zah x8 pc5
 try simp (disch:=first|omega|assumption|rfl) only[go_sem,decide_true,z0,z7,z7',Nat.zero_add,pc1_8,pc2_8,pc3_8,pc5_8,↓hg8,↓hg14,↓hg21,↓hg26,↓hg31,↓hg36,↓hg40,↓hg45,↓hg50,↓hg55,↓hg61]
 refine hK _ _ ?_;clear hK hgd;clear K;try clear gd
 refine go trivial ?_
 refine rt0 Tryz.ntmps28 ?_
 exact⟨rfl,hE5.trans x8⟩
def foldD(d:DatL):DatL:=⟨d.ty,d.names.map zbn,d.nums,d.texts,d.raw⟩
def moreD(d:DatL):DatL:=⟨d.ty,d.names,d.nums,d.texts++ [[120]],d.raw⟩
theorem few_D{d:DatL}(hf:DatF d)(hn:NumsD d):DatT d∧zdX d∧zdX (foldD d)∧zdX (moreD d):=by
 obtain⟨n1,n2,n3⟩:=hn
 obtain⟨f1,f2,f3,f4,f5⟩:=hf.f4
 have h8:=hf.n8
 have hnm:∀n∈d.names,NmT n:=fun n hn=>few_T (f5 n hn)
 have hok:zdX d:=⟨fun n hn=>⟨(hnm n hn).lb,by have:=(hnm n hn).2;omega⟩,by omega,by omega,by omega,n1,by omega⟩
 refine⟨⟨⟨hnm,by omega,by omega,n1,by omega,fun t ht=>by have:=f3 t ht;omega,by omega⟩,by omega⟩,hok,⟨fun n hn=>?_,?_,hok.nu,hok.nt,n1,hok.nr⟩,⟨hok.names,hok.nn,hok.nu,?_,n1,hok.nr⟩⟩
 ·obtain⟨x,hx,rfl⟩:=List.mem_map.1 hn
  have:=fold_T (hnm x hx)
  exact⟨this.lb,by have:=this.2;omega⟩
 ·show(d.names.map zbn).length≤_
  rw[List.length_map];omega
 ·show(d.texts++ [[120]]).length≤_
  rw[List.length_append,List.length_singleton];omega
set_option maxRecDepth 10000
theorem Is2_ok{w:World}{av bv:Value}{n:Nm}(ha:Row w av (n.map vs))(hb:Row w bv (n.map vs))(hl:n.length≤1000000000):Fn Tryz.prog 107 #[av,bv] w (fun v w'=>v= .bool true∧Ext w w'):=by
 obtain⟨a,ca,rfl,hga⟩:=zcj ha
 obtain⟨b,cb,rfl,hgb⟩:=zcj hb
 refine enter Tryz.func107 Tryz.ntmps107 rfl rfl ?_
 have d0:decide ((n.length:Int)=(n.length:Int))=true:=decide_eq_true rfl
 refine go d0 ?_
 refine zbs n.length (fun i σ v=>(σ 0= .slice a n.length ca∧σ 1= .slice b n.length cb∧σ 5=vi i)∧Ext w v) ?_ ?_ ?_
 ·exact⟨⟨vr0,vr0,vr0⟩,Keep.refl _ _⟩
 ·rintro i σ v hi ⟨r1,r2,r3,r4⟩ ⟨⟨s0,s1,s5⟩,hE⟩
  obtain⟨xa,rfl,g0⟩:=hga i hi
  obtain⟨xb,rfl,g1⟩:=hgb i hi
  obtain⟨t,ht⟩:∃t,n[i]=t:=⟨_,rfl⟩
  rw[ht]at g0 g1
  refine go (an4 s0 s1 s5 r1) ?_
  refine zav (Q:=fun e' σ' ds' v'=>e'= .normal∧ds'=[]∧(σ' 0= .slice (some xa) n.length ca∧σ' 1= .slice (some xb) n.length cb∧σ' 5=vi i)∧Ext v v'∧σ' 25= .bool false) ?_ ?_
  ·refine zaY (fun _=>false) [(0,true),(1,true),(2,true),(3,true),(4,true),(5,true),(6,true),(7,true),(8,true)] NoS mixed (by kernel_rfl) ?_;intro gd K x hgd hx hxe hK;have hx0:=zaW hxe;clear hxe
   have u0:=zaa (hE.trans hx0) g0
   have u1:=zaa (hE.trans hx0) g1
   have ht:decide (t=t)=true:=decide_eq_true rfl
   simp (disch:=first|omega|assumption|rfl) only[go_sem,s0,s1,s5,r2,r3,u0,u1,ht,Nat.mul_one,Int.toNat_natCast,Bool.not_true]
   refine hK _ _ ?_;clear hK hgd;clear K;try clear gd
   exact⟨rfl,rfl,⟨(vq1 s0),(vq1 s1),(vq1 s5)⟩,hx0,vr0⟩
  clear s0 s1 s5
  rintro _ σ1 _ v1 ⟨rfl,rfl,⟨s0,s1,s5⟩,hE1,s25⟩
  refine go (an5 s0 s1 s5 s25 r4) ?_
  exact⟨rfl,⟨(vq1 s0),(vq1 s1),(vq1 r4)⟩,hE.trans hE1⟩
 ·rintro σ v r ⟨⟨s0,s1,s5⟩,hE⟩
  refine go (an4 s0 s1 s5 r) ?_
  refine rt0 Tryz.ntmps107 ?_
  exact⟨rfl,hE⟩
theorem zho{w:World}{v:Value}{l:List UInt8}(h:Row w v (l.map zak)):∃a c,v= .slice a l.length c∧∀i (hi:i<l.length),zag w (adr a i)=some (zak l[i]):=by
 obtain⟨a,c,rfl,_,hg⟩:=h
 refine⟨a,c,by rw[List.length_map],fun i hi=>?_⟩
 have g:=hg i (by rw[List.length_map];exact hi)
 rwa [List.getElem_map]at g
theorem IsD_ok{w:World}{ca cb:List Value}{d:DatL}(ha:DatAt w ca d)(hb:DatAt w cb d)(hT:DatT d):Fn Tryz.prog 40 #[.agg ca.toArray,.agg cb.toArray] w (fun v w'=>v= .bool true∧Ext w w'):=by
 have hS:=hT.s
 have hnl:=hT.nn
 have hul:=hS.nu
 have htl:=hS.nt
 have hrl:=hS.nr
 obtain⟨nm,nu,tx,rw',rfl,⟨vals,⟨an,cn,rfl,hcn,hgn⟩,hvl,hvr⟩,hnu,htx,hrw⟩:=ha.ex
 obtain⟨nm2,nu2,tx2,rw2,rfl,⟨vals2,⟨an2,cn2,rfl,hcn2,hgn2⟩,hvl2,hvr2⟩,hnu2,htx2,hrw2⟩:=hb.ex
 obtain⟨au,cu,hau,hcu,hgu⟩:=id hnu
 obtain⟨au2,cu2,hau2,hcu2,hgu2⟩:=id hnu2
 obtain⟨at1,ct,hat,hgt⟩:=zcj htx
 obtain⟨at2,ct2,hat2,hgt2⟩:=zcj htx2
 obtain⟨ar,cr,har,hgr⟩:=zho hrw
 obtain⟨ar2,cr2,har2,hgr2⟩:=zho hrw2
 rw[List.length_map]at hau hau2 hcu hcu2
 subst hau hat har hau2 hat2 har2
 rw[hvl]at hcn ⊢
 rw[hvl2]at hcn2 ⊢
 refine enter Tryz.func40 Tryz.ntmps40 rfl rfl ?_
 refine go trivial ?_
 refine zcN ?_
 intro w1 hE1 hs1 hA hB
 simp only[zaq]
 obtain⟨p,hp⟩:∃p,w.heap.size=p:=⟨_,rfl⟩
 rw[hp]at hA hB ⊢
 have p0:zag w1 (some ⟨p,0,Option.none⟩)=some (vi d.ty):=zab hA rfl
 have p1:zag w1 (some ⟨p,1,Option.none⟩)=some (.slice an d.names.length cn):=zab hA rfl
 have p2:zag w1 (some ⟨p,2,Option.none⟩)=some (.slice au d.nums.length cu):=zab hA rfl
 have p3:zag w1 (some ⟨p,3,Option.none⟩)=some (.slice at1 d.texts.length ct):=zab hA rfl
 have p4:zag w1 (some ⟨p,4,Option.none⟩)=some (.slice ar d.raw.length cr):=zab hA rfl
 have q0:zag w1 (some ⟨p+1,0,Option.none⟩)=some (vi d.ty):=zab hB rfl
 have q1:zag w1 (some ⟨p+1,1,Option.none⟩)=some (.slice an2 d.names.length cn2):=zab hB rfl
 have q2:zag w1 (some ⟨p+1,2,Option.none⟩)=some (.slice au2 d.nums.length cu2):=zab hB rfl
 have q3:zag w1 (some ⟨p+1,3,Option.none⟩)=some (.slice at2 d.texts.length ct2):=zab hB rfl
 have q4:zag w1 (some ⟨p+1,4,Option.none⟩)=some (.slice ar2 d.raw.length cr2):=zab hB rfl
 have dt:decide (d.ty=d.ty)=true:=decide_eq_true rfl
 have dn:decide ((d.names.length:Int)=(d.names.length:Int))=true:=decide_eq_true rfl
 have du:decide ((d.nums.length:Int)=(d.nums.length:Int))=true:=decide_eq_true rfl
 have dx:decide ((d.texts.length:Int)=(d.texts.length:Int))=true:=decide_eq_true rfl
 have dr:decide (d.raw=d.raw)=true:=decide_eq_true rfl
 refine zav (Q:=fun e' σ' ds' v'=>e'= .normal∧ds'=[]∧v'=w1∧(σ' 2= .pointer (some ⟨p,0,Option.none⟩)∧σ' 3= .pointer (some ⟨p+1,0,Option.none⟩))∧σ' 47= .bool false) ?_ ?_
 ·refine go trivial ?_
  refine rq ?_;intro gd K hgd hK
  have hg5:∀n σ b,zaw gd n σ (some (5,b))=zan (ev n σ (.tmp 12)) b:=(fun n σ b=>by rw[zaf,show gd 5=some 12 from(by rw[hgd];rfl)];rfl);have hg14:∀n σ b,zaw gd n σ (some (14,b))=zan (ev n σ (.tmp 21)) b:=(fun n σ b=>by rw[zaf,show gd 14=some 21 from(by rw[hgd];rfl)];rfl);have hg23:∀n σ b,zaw gd n σ (some (23,b))=zan (ev n σ (.tmp 30)) b:=(fun n σ b=>by rw[zaf,show gd 23=some 30 from(by rw[hgd];rfl)];rfl);have hg32:∀n σ b,zaw gd n σ (some (32,b))=zan (ev n σ (.tmp 39)) b:=(fun n σ b=>by rw[zaf,show gd 32=some 39 from(by rw[hgd];rfl)];rfl)
  simp only[List.append_eq,List.cons_append,List.nil_append]
  try simp (disch:=first|omega|assumption|rfl) only[go_sem,p0,p1,p2,p3,p4,q0,q1,q2,q3,q4,dt,dn,du,dx,Bool.not_true,Nat.add_zero,Nat.add_right_cancel_iff,↓hg5,↓hg14,↓hg23,↓hg32]
  refine zbK (l:=d.raw) (a:=ar) (c:=cr) rfl rfl rfl (vr0) (fun j hj=>zaa hE1 (hgr j hj)) ?_
  try simp (disch:=first|omega|assumption|rfl) only[go_sem,p0,p1,p2,p3,p4,q0,q1,q2,q3,q4,dt,dn,du,dx,Bool.not_true,Nat.add_zero,↓hg5,↓hg14,↓hg23,↓hg32]
  refine zbK (l:=d.raw) (a:=ar2) (c:=cr2) rfl rfl rfl (vr0) (fun j hj=>zaa hE1 (hgr2 j hj)) ?_
  try simp (disch:=first|omega|assumption|rfl) only[go_sem,dr,Bool.not_true,↓hg5,↓hg14,↓hg23,↓hg32]
  refine hK _ _ ?_;clear hK hgd;clear K;try clear gd
  exact⟨rfl,rfl,rfl,⟨vr0,vr0⟩,vr0⟩
 rintro _ σ1 _ v1 ⟨rfl,rfl,rfl,⟨s2,s3⟩,s47⟩
 refine go (an3 s2 s3 s47) ?_
 refine zbs d.names.length (fun i σ v=>(σ 2= .pointer (some ⟨p,0,Option.none⟩)∧σ 3= .pointer (some ⟨p+1,0,Option.none⟩)∧σ 5=vi i)∧Ext v1 v) ?_ ?_ ?_
 ·exact⟨⟨(vr1 s2),(vr1 s3),vr0⟩,Keep.refl _ _⟩
 ·clear s2 s3 s47
  rintro i σ v hi ⟨r1,r2,r3,r4⟩ ⟨⟨s2,s3,s5⟩,hE⟩
  have hEv:=hE1.trans hE
  have g0:=hgn i (by omega)
  have g1:=hgn2 i (by omega)
  obtain⟨xa,rfl⟩:=Option.isSome_iff_exists.1 (zaj g0)
  obtain⟨xb,rfl⟩:=Option.isSome_iff_exists.1 (zaj g1)
  have h0:=hvr i (by omega) hi
  have h1:=hvr2 i (by omega) hi
  obtain⟨nv,hnv⟩:∃v,vals[i]'(by omega)=v:=⟨_,rfl⟩
  obtain⟨nv2,hnv2⟩:∃v,vals2[i]'(by omega)=v:=⟨_,rfl⟩
  obtain⟨n,hn⟩:∃n,d.names[i]=n:=⟨_,rfl⟩
  rw[hnv]at g0 h0
  rw[hnv2]at g1 h1
  rw[hn]at h0 h1
  have hnS:=hS.names n (hn▸List.getElem_mem hi)
  have c1:=zaa hE p1
  have e1:=zaa hE q1
  refine go (an6 s2 s3 s5 c1 r1 (Nat.zero_add 1)) ?_
  refine zav (Q:=fun e' σ' ds' v'=>e'= .normal∧ds'=[]∧(σ' 2= .pointer (some ⟨p,0,Option.none⟩)∧σ' 3= .pointer (some ⟨p+1,0,Option.none⟩)∧σ' 5=vi i)∧Ext v v'∧σ' 66= .bool false) ?_ ?_
  ·refine zaY (fun _=>false) [(0,true),(1,true),(2,true),(3,true),(4,true),(5,true),(6,true),(7,true),(8,true),(9,true),(10,false),(11,true)] NoS mixed (by kernel_rfl) ?_;intro gd K x hgd hx hxe hK;have hx0:=zaW hxe;clear hxe
   have u0:=zaa (hEv.trans hx0) g0
   have u1:=zaa (hEv.trans hx0) g1
   have c1x:=zaa hx0 c1
   have e1x:=zaa hx0 e1
   simp (disch:=first|omega|assumption|rfl) only[go_sem,s2,s3,s5,r2,r3,u0,u1,c1x,e1x,Nat.zero_add,Nat.mul_one,Int.toNat_natCast]
   refine Fn.mono (Is2_ok (h0.ext (hEv.trans hx0)) (h1.ext (hEv.trans hx0)) (by omega)) ?_
   rintro _ y1 ⟨rfl,hy1⟩
   refine⟨.inr hy1.keep,?_⟩
   simp (disch:=first|omega|assumption|rfl) only[go_sem,Bool.not_true]
   refine hK _ _ ?_;clear hK hgd;clear K;try clear gd
   exact⟨rfl,rfl,⟨(vq1 s2),(vq1 s3),(vq1 s5)⟩,hx0.trans hy1,vr0⟩
  clear s2 s3 s5
  rintro _ σ2 _ v2 ⟨rfl,rfl,⟨s2,s3,s5⟩,hE2,s66⟩
  refine go (an5 s2 s3 s5 s66 r4) ?_
  exact⟨rfl,⟨(vq1 s2),(vq1 s3),(vq1 r4)⟩,hE.trans hE2⟩
 clear s2 s3 s47
 rintro σ v r ⟨⟨s2,s3,s5⟩,hE⟩
 have c1:=zaa hE p1
 refine go (an6 s2 s3 s5 c1 r (Nat.zero_add 1)) ?_
 refine zbs d.nums.length (fun i σ v'=>(σ 2= .pointer (some ⟨p,0,Option.none⟩)∧σ 3= .pointer (some ⟨p+1,0,Option.none⟩)∧σ 6=vi i)∧Ext v v') ?_ ?_ ?_
 ·exact⟨⟨(vr1 s2),(vr1 s3),vr0⟩,Keep.refl _ _⟩
 ·clear s2 s3 s5
  rintro i σ z hi ⟨r1,r2,r3,r4⟩ ⟨⟨s2,s3,s5⟩,hEz⟩
  have hEv:=(hE1.trans hE).trans hEz
  have g0:=hgu i (by rw[List.length_map];omega)
  have g1:=hgu2 i (by rw[List.length_map];omega)
  rw[List.getElem_map]at g0 g1
  obtain⟨xa,rfl⟩:=Option.isSome_iff_exists.1 (zaj g0)
  obtain⟨xb,rfl⟩:=Option.isSome_iff_exists.1 (zaj g1)
  obtain⟨n,hn⟩:∃n,d.nums[i]=n:=⟨_,rfl⟩
  rw[hn]at g0 g1
  have c1:=zaa (hE.trans hEz) p2
  have e1:=zaa (hE.trans hEz) q2
  refine go (an6 s2 s3 s5 c1 r1 (Nat.zero_add 2)) ?_
  refine zav (Q:=fun e' σ' ds' v'=>e'= .normal∧ds'=[]∧(σ' 2= .pointer (some ⟨p,0,Option.none⟩)∧σ' 3= .pointer (some ⟨p+1,0,Option.none⟩)∧σ' 6=vi i)∧Ext z v'∧σ' 84= .bool false) ?_ ?_
  ·refine zaY (fun _=>false) [(0,true),(1,true),(2,true),(3,true),(4,true),(5,true),(6,true),(7,true),(8,true),(9,true),(10,true)] NoS mixed (by kernel_rfl) ?_;intro gd K x hgd hx hxe hK;have hx0:=zaW hxe;clear hxe
   have u0:=zaa (hEv.trans hx0) g0
   have u1:=zaa (hEv.trans hx0) g1
   have c1x:=zaa hx0 c1
   have e1x:=zaa hx0 e1
   have he:decide (n=n)=true:=decide_eq_true rfl
   simp (disch:=first|omega|assumption|rfl) only[go_sem,s2,s3,s5,r2,r3,u0,u1,c1x,e1x,he,Nat.zero_add,Nat.mul_one,Int.toNat_natCast,Bool.not_true]
   refine hK _ _ ?_;clear hK hgd;clear K;try clear gd
   exact⟨rfl,rfl,⟨(vq1 s2),(vq1 s3),(vq1 s5)⟩,hx0,vr0⟩
  clear s2 s3 s5
  rintro _ σ2 _ v2 ⟨rfl,rfl,⟨s2,s3,s5⟩,hE2,s66⟩
  refine go (an5 s2 s3 s5 s66 r4) ?_
  exact⟨rfl,⟨(vq1 s2),(vq1 s3),(vq1 r4)⟩,hEz.trans hE2⟩
 clear s2 s3 s5 r c1
 rintro σ z r ⟨⟨s2,s3,s5⟩,hEz⟩
 have hEv:=(hE1.trans hE).trans hEz
 have c1:=zaa (hE.trans hEz) p2
 have c3:=zaa (hE.trans hEz) p3
 have e3:=zaa (hE.trans hEz) q3
 refine go (an6 s2 s3 s5 c1 r (Nat.zero_add 2)) ?_
 refine rc (an5 s2 s3 c3 e3 (Nat.zero_add 3)) (Is2_ok (htx.ext hEv) (htx2.ext hEv) (by omega)) ?_
 rintro _ y ⟨rfl,hy⟩
 refine rgo trivial ?_
 refine rt0 Tryz.ntmps40 ?_
 exact⟨rfl,hEv.trans hy⟩
set_option maxRecDepth 100000
theorem zfX{W:World}(hX:WX W)(hY:WY W){cs:List Value}{d:DatL}{oa:Option Addr}{on oc:Nat}{o:Nm}(hd:DatAt W cs d)(hN:NumsD d)(ho:Row W (.slice oa on oc) (o.map vs)):Fn Tryz.prog 10 #[.agg cs.toArray,.slice oa on oc] W (fun v w'=>v= .bool true∧Ext W w'):=by
 obtain⟨hl5,h1⟩:=zbC hd
 refine enter Tryz.func10 Tryz.ntmps10 rfl rfl ?_
 refine go trivial ?_
 refine zas ?_
 intro w1 hE1 hs1 hA
 obtain⟨p,hp⟩:∃p,W.heap.size=p:=⟨_,rfl⟩
 rw[hp]at hA ⊢
 refine go trivial ?_
 refine rc trivial (zir (hX.ext hE1) (hY.ext hE1)) ?_
 rintro _ w2 ⟨rfl,hE2⟩
 refine rgo trivial ?_
 have hE02:=hE1.trans hE2
 have q2:=zam (n:=5) (Ext.at hE2 hA) (by simp[hl5])
 refine zav (Q:=fun e' σ' ds' v'=>e'= .normal∧ds'=[]∧(σ' 1= .slice oa on oc∧σ' 2= .pointer (some ⟨p,0,Option.none⟩))∧Ext w2 v'∧∃bb:Bool,σ' 22= .bool bb∧(bb=false→DatF d∧zaX d=0∧zfE o=true)) ?_ ?_
 ·refine rcg [(3,12),(9,18)] q2 (DFew_ok hE02 hd) ?_
  rintro _ w3 ⟨hE3,b1,rfl,hb1⟩
  cases b1 with
  |false=>
   refine reg [(3,12),(9,18)] Bool.not_false ?_
   exact⟨rfl,rfl,⟨vr0,vr0⟩,hE3,true,vr0,fun h=>by cases h⟩
  |true=>
   have hF:=hb1 rfl
   have hT:=(few_D hF hN).1
   have q3:=zah hE3 q2
   refine rdg [(3,12),(9,18)] (an2 Bool.not_true q3) (ziu (hE02.trans hE3) hd hF.nn) ?_
   rintro _ w4 ⟨hE4,csx,nmx,rfl,hdx⟩
   have hE04:=(hE02.trans hE3).trans hE4
   refine rdg [(3,12),(9,18)] (an2 Bool.not_true q3) (zg0 (hdx.at hE04) hT) ?_
   rintro _ w5 ⟨rfl,hE5⟩
   have hE05:=hE04.trans hE5
   by_cases h0:zaX d=0
   ·refine rdg [(3,12),(9,18)] (an3 Bool.not_true Bool.not_false (decide_eq_true h0)) (NGood_ok w5 _ o (ho.ext hE05)) ?_
    rintro _ w6 ⟨rfl,hE6⟩
    refine reg [(3,12),(9,18)] (an3 Bool.not_true Bool.not_false (decide_eq_true h0)) ?_
    exact⟨rfl,rfl,⟨vr0,vr0⟩,((hE3.trans hE4).trans hE5).trans hE6,!zfE o,vr0,fun h=>⟨hF,h0,by simpa using h⟩⟩
   ·refine reg [(3,12),(9,18)] (an3 Bool.not_true Bool.not_false (decide_eq_false h0)) ?_
    exact⟨rfl,rfl,⟨vr0,vr0⟩,(hE3.trans hE4).trans hE5,true,vr0,fun h=>by cases h⟩
 rintro _ σ1 _ w3 ⟨rfl,rfl,⟨s1,s2⟩,hE3,bb,s22,hbb⟩
 have hE03:=hE02.trans hE3
 cases bb with
 |true=>
  refine go (an3 s1 s2 s22) ?_
  refine rt0 Tryz.ntmps10 ?_
  exact⟨rfl,hE03⟩
 |false=>
 obtain⟨hF,hck,hgo⟩:=hbb rfl
 obtain⟨hT,hO,_,_⟩:=few_D hF hN
 have hoT:=goodN_U hgo
 refine go (an3 s1 s2 s22) ?_
 have q3:=zah hE3 q2
 have hA3:=Ext.at (hE2.trans hE3) hA
 have hp3:p<w3.heap.size:=(Array.getElem?_eq_some_iff.1 hA3).1
 obtain⟨nm,nu,tx,rw',hcs,hnm,hnu,htx,hrw⟩:=id hd.ex
 have htl:(za1 hexU d).length≤300000000:=by
  have h1:=zeL (fx:=hexU) (fun u hu=>by have:=zdd 3 u (by omega);omega) hT
  have h2:=zey [32] (zbg hexU d)
  unfold za1
  simp at h2
  omega
 have c0:zag w3 (some ⟨p,0,Option.none⟩)=some (vi d.ty):=zaG (j:=0) hA3 (by rw[hcs];rfl)
 refine zav (Q:=fun e' σ' ds' v'=>e'= .normal∧ds'=[]∧Ext w3 v'∧∃p5 cs5,(σ' 1= .slice oa on oc∧σ' 2= .pointer (some ⟨p,0,Option.none⟩)∧σ' 5= .pointer (some ⟨p5,0,Option.none⟩)∧σ' 6=vi 0)∧v'.heap[p5]? =some (.cells (cs5:List Value).toArray 33 (0,0))∧DatAt v' cs5 d) ?_ ?_
 ·refine W_tree (fun i=>i==11) (.run [(0,true),(1,true),(2,true),(5,true)] (.fork 8 [3,10] (fun i=>if i=3 then(.run [] (.fork 7 [4,10] (fun i=>if i=4 then(.run [] (.fork 6 [6,10] (fun i=>if i=6 then(.run [(7,true),(8,true),(9,true),(10,false),(11,false),(12,true)] .fin) else(.run [(6,false),(7,true),(8,true),(9,true),(11,false),(12,true)] .fin)))) else(.run [(4,false),(6,false),(7,true),(8,true),(9,true),(11,false),(12,true)] .fin)))) else(.run [(3,false),(4,false),(6,false),(7,true),(8,true),(9,true),(11,false),(12,true)] .fin)))) (zb2 w3.heap.size) mixed (by kernel_rfl) ?_;intro gd K x hgd hx hxe hK;have hx0:=zaW hxe;clear hxe
  have hEx:=hE03.trans hx0
  have hsx:=hx0.size
  have c0x:=zaa hx0 c0
  have qx:=zah hx0 q3
  simp (disch:=first|omega|assumption|rfl) only[go_sem,s1,s2,c0x,qx,Nat.add_zero]
  refine⟨zaU (by omega),zaU (by omega),?_⟩
  simp only[zcL,zdh];refine⟨?_,?_⟩
  ·simp (disch:=first|omega|assumption|rfl) only[go_sem,s1]
   refine Fn.mono (zbf (hY.ext (hE03.trans hx0)) (hd.ext (hE03.trans hx0)) hT) ?_
   rintro _ y0 ⟨rfl,e0⟩
   refine⟨.inr e0.keep,?_⟩
   have x0:Ext w3 y0:=hx0.trans e0
   try simp (disch:=first|omega|assumption|rfl) only[go_sem,s1]
   simp only[zcL,zdh];refine⟨?_,?_⟩
   ·simp (disch:=first|omega|assumption|rfl) only[go_sem,s1]
    refine Fn.mono (zck y0 (za1 hexU d) htl) ?_
    rintro wv y1 ⟨e1,wr1,_⟩
    refine⟨.inr e1.keep,?_⟩
    have x1:Ext w3 y1:=x0.trans e1
    try simp (disch:=first|omega|assumption|rfl) only[go_sem,s1]
    simp only[zcL,zdh];refine⟨?_,?_⟩
    ·simp (disch:=first|omega|assumption|rfl) only[go_sem,s1]
     refine Fn.mono (zeG (d:=d) (hX.ext (hE03.trans x1)) (ho.ext (hE03.trans x1)) hoT hck hT wr1) ?_
     rintro _ y2 ⟨e2,cs5,rfl,g2⟩
     refine⟨.inr e2.keep,?_⟩
     have x2:Ext w3 y2:=x1.trans e2
     try simp (disch:=first|omega|assumption|rfl) only[go_sem,s1]
     refine⟨.inr (Ext.alloc y2 (.cells #[vi 0,.slice Option.none 0 0,.slice Option.none 0 0,.slice Option.none 0 0,.slice Option.none 0 0] 33 (0,0))).keep,?_⟩
     have e3:=Ext.alloc y2 (.cells #[vi 0,.slice Option.none 0 0,.slice Option.none 0 0,.slice Option.none 0 0,.slice Option.none 0 0] 33 (0,0))
     have b3:=zao y2 (.cells #[vi 0,.slice Option.none 0 0,.slice Option.none 0 0,.slice Option.none 0 0,.slice Option.none 0 0] 33 (0,0))
     have z3:=zaq y2 (.cells #[vi 0,.slice Option.none 0 0,.slice Option.none 0 0,.slice Option.none 0 0,.slice Option.none 0 0] 33 (0,0))
     revert e3 b3 z3
     generalize y2.alloc (.cells #[vi 0,.slice Option.none 0 0,.slice Option.none 0 0,.slice Option.none 0 0,.slice Option.none 0 0] 33 (0,0))=y3
     intro e3 b3 z3
     obtain⟨p5,hp5⟩:∃p,y2.heap.size=p:=⟨_,rfl⟩
     rw[hp5]at b3 z3 ⊢
     have h5:w3.heap.size≤p5:=by have:=(x2).size;omega
     have x3:Ext w3 y3:=x2.trans e3
     try simp (disch:=first|omega|assumption|rfl) only[go_sem,s1]
     have hl6:=(zch g2).1
     have ho6:=(zch g2).2
     refine zaI (P:=Tryz.prog) (t:=33) (l:=cs5) b3 (by rw[hl6];rfl) ho6 (by rw[hl6];rfl) rfl ?_
     intro z hsz hBz hkz
     refine⟨.inl rfl,?_⟩
     try simp (disch:=first|omega|assumption|rfl) only[go_sem]
     refine hK _ _ ?_;clear hK hgd;clear K;try clear gd
     have hg:DatAt z cs5 d:=(g2.now).ext (Keep.to_ext e3 rfl (fun i hi=>by omega) hkz)
     exact⟨rfl,rfl,Keep.to_ext x3 rfl (fun i hi=>by omega) hkz,p5,cs5,⟨(vq1 s1),(vq1 s2),vr0,vr0⟩,hBz,hg⟩
    ·simp (disch:=first|omega|assumption|rfl) only[go_sem,s1]
     refine⟨.inr (Ext.alloc y1 (.cells #[vi 0,.slice Option.none 0 0,.slice Option.none 0 0,.slice Option.none 0 0,.slice Option.none 0 0] 33 (0,0))).keep,?_⟩
     have e4:=Ext.alloc y1 (.cells #[vi 0,.slice Option.none 0 0,.slice Option.none 0 0,.slice Option.none 0 0,.slice Option.none 0 0] 33 (0,0))
     have b4:=zao y1 (.cells #[vi 0,.slice Option.none 0 0,.slice Option.none 0 0,.slice Option.none 0 0,.slice Option.none 0 0] 33 (0,0))
     have z4:=zaq y1 (.cells #[vi 0,.slice Option.none 0 0,.slice Option.none 0 0,.slice Option.none 0 0,.slice Option.none 0 0] 33 (0,0))
     revert e4 b4 z4
     generalize y1.alloc (.cells #[vi 0,.slice Option.none 0 0,.slice Option.none 0 0,.slice Option.none 0 0,.slice Option.none 0 0] 33 (0,0))=y4
     intro e4 b4 z4
     obtain⟨p5,hp5⟩:∃p,y1.heap.size=p:=⟨_,rfl⟩
     rw[hp5]at b4 z4 ⊢
     have h5:w3.heap.size≤p5:=by have:=(x1).size;omega
     have x4:Ext w3 y4:=x1.trans e4
     try simp (disch:=first|omega|assumption|rfl) only[go_sem,s1]
     have hlt:p5<y4.heap.size:=(Array.getElem?_eq_some_iff.1 b4).1
     refine Fn.mono (zeG (d:=d) (hX.ext (hE03.trans x4)) (ho.ext (hE03.trans x4)) hoT hck hT (wr1.ext e4)) ?_
     rintro _ y5 ⟨e5,cs5,rfl,g5⟩
     refine⟨.inr e5.keep,?_⟩
     have b5:=Ext.at e5 b4
     have x5:Ext w3 y5:=x4.trans e5
     try simp (disch:=first|omega|assumption|rfl) only[go_sem,s1]
     have hl6:=(zch g5).1
     have ho6:=(zch g5).2
     refine zaI (P:=Tryz.prog) (t:=33) (l:=cs5) b5 (by rw[hl6];rfl) ho6 (by rw[hl6];rfl) rfl ?_
     intro z hsz hBz hkz
     refine⟨.inl rfl,?_⟩
     try simp (disch:=first|omega|assumption|rfl) only[go_sem]
     refine hK _ _ ?_;clear hK hgd;clear K;try clear gd
     have hg:DatAt z cs5 d:=g5 z (hkz.mono fun i _ hi=>by have:=hlt;omega)
     exact⟨rfl,rfl,Keep.to_ext x5 rfl (fun i hi=>by omega) hkz,p5,cs5,⟨(vq1 s1),(vq1 s2),vr0,vr0⟩,hBz,hg⟩
   ·simp (disch:=first|omega|assumption|rfl) only[go_sem,s1]
    refine⟨.inr (Ext.alloc y0 (.cells #[vi 0,.slice Option.none 0 0,.slice Option.none 0 0,.slice Option.none 0 0,.slice Option.none 0 0] 33 (0,0))).keep,?_⟩
    have e6:=Ext.alloc y0 (.cells #[vi 0,.slice Option.none 0 0,.slice Option.none 0 0,.slice Option.none 0 0,.slice Option.none 0 0] 33 (0,0))
    have b6:=zao y0 (.cells #[vi 0,.slice Option.none 0 0,.slice Option.none 0 0,.slice Option.none 0 0,.slice Option.none 0 0] 33 (0,0))
    have z6:=zaq y0 (.cells #[vi 0,.slice Option.none 0 0,.slice Option.none 0 0,.slice Option.none 0 0,.slice Option.none 0 0] 33 (0,0))
    revert e6 b6 z6
    generalize y0.alloc (.cells #[vi 0,.slice Option.none 0 0,.slice Option.none 0 0,.slice Option.none 0 0,.slice Option.none 0 0] 33 (0,0))=y6
    intro e6 b6 z6
    obtain⟨p5,hp5⟩:∃p,y0.heap.size=p:=⟨_,rfl⟩
    rw[hp5]at b6 z6 ⊢
    have h5:w3.heap.size≤p5:=by have:=(x0).size;omega
    have x6:Ext w3 y6:=x0.trans e6
    try simp (disch:=first|omega|assumption|rfl) only[go_sem,s1]
    refine Fn.mono (zck y6 (za1 hexU d) htl) ?_
    rintro wv y7 ⟨e7,wr7,_⟩
    refine⟨.inr e7.keep,?_⟩
    have b7:=Ext.at e7 b6
    have x7:Ext w3 y7:=x6.trans e7
    try simp (disch:=first|omega|assumption|rfl) only[go_sem,s1]
    have hlt:p5<y7.heap.size:=(Array.getElem?_eq_some_iff.1 b7).1
    refine Fn.mono (zeG (d:=d) (hX.ext (hE03.trans x7)) (ho.ext (hE03.trans x7)) hoT hck hT wr7) ?_
    rintro _ y8 ⟨e8,cs5,rfl,g8⟩
    refine⟨.inr e8.keep,?_⟩
    have b8:=Ext.at e8 b7
    have x8:Ext w3 y8:=x7.trans e8
    try simp (disch:=first|omega|assumption|rfl) only[go_sem,s1]
    have hl6:=(zch g8).1
    have ho6:=(zch g8).2
    refine zaI (P:=Tryz.prog) (t:=33) (l:=cs5) b8 (by rw[hl6];rfl) ho6 (by rw[hl6];rfl) rfl ?_
    intro z hsz hBz hkz
    refine⟨.inl rfl,?_⟩
    try simp (disch:=first|omega|assumption|rfl) only[go_sem]
    refine hK _ _ ?_;clear hK hgd;clear K;try clear gd
    have hg:DatAt z cs5 d:=g8 z (hkz.mono fun i _ hi=>by have:=hlt;omega)
    exact⟨rfl,rfl,Keep.to_ext x8 rfl (fun i hi=>by omega) hkz,p5,cs5,⟨(vq1 s1),(vq1 s2),vr0,vr0⟩,hBz,hg⟩
  ·simp (disch:=first|omega|assumption|rfl) only[go_sem,s1]
   refine⟨.inr (Ext.alloc x (.cells #[vi 0,.slice Option.none 0 0,.slice Option.none 0 0,.slice Option.none 0 0,.slice Option.none 0 0] 33 (0,0))).keep,?_⟩
   have e9:=Ext.alloc x (.cells #[vi 0,.slice Option.none 0 0,.slice Option.none 0 0,.slice Option.none 0 0,.slice Option.none 0 0] 33 (0,0))
   have b9:=zao x (.cells #[vi 0,.slice Option.none 0 0,.slice Option.none 0 0,.slice Option.none 0 0,.slice Option.none 0 0] 33 (0,0))
   have z9:=zaq x (.cells #[vi 0,.slice Option.none 0 0,.slice Option.none 0 0,.slice Option.none 0 0,.slice Option.none 0 0] 33 (0,0))
   revert e9 b9 z9
   generalize x.alloc (.cells #[vi 0,.slice Option.none 0 0,.slice Option.none 0 0,.slice Option.none 0 0,.slice Option.none 0 0] 33 (0,0))=y9
   intro e9 b9 z9
   obtain⟨p5,hp5⟩:∃p,x.heap.size=p:=⟨_,rfl⟩
   rw[hp5]at b9 z9 ⊢
   have h5:w3.heap.size≤p5:=by have:=(hx0).size;omega
   have x9:Ext w3 y9:=hx0.trans e9
   try simp (disch:=first|omega|assumption|rfl) only[go_sem,s1]
   refine Fn.mono (zbf (hY.ext (hE03.trans x9)) (hd.ext (hE03.trans x9)) hT) ?_
   rintro _ y10 ⟨rfl,e10⟩
   refine⟨.inr e10.keep,?_⟩
   have b10:=Ext.at e10 b9
   have x10:Ext w3 y10:=x9.trans e10
   try simp (disch:=first|omega|assumption|rfl) only[go_sem,s1]
   refine Fn.mono (zck y10 (za1 hexU d) htl) ?_
   rintro wv y11 ⟨e11,wr11,_⟩
   refine⟨.inr e11.keep,?_⟩
   have b11:=Ext.at e11 b10
   have x11:Ext w3 y11:=x10.trans e11
   try simp (disch:=first|omega|assumption|rfl) only[go_sem,s1]
   have hlt:p5<y11.heap.size:=(Array.getElem?_eq_some_iff.1 b11).1
   refine Fn.mono (zeG (d:=d) (hX.ext (hE03.trans x11)) (ho.ext (hE03.trans x11)) hoT hck hT wr11) ?_
   rintro _ y12 ⟨e12,cs5,rfl,g12⟩
   refine⟨.inr e12.keep,?_⟩
   have b12:=Ext.at e12 b11
   have x12:Ext w3 y12:=x11.trans e12
   try simp (disch:=first|omega|assumption|rfl) only[go_sem,s1]
   have hl6:=(zch g12).1
   have ho6:=(zch g12).2
   refine zaI (P:=Tryz.prog) (t:=33) (l:=cs5) b12 (by rw[hl6];rfl) ho6 (by rw[hl6];rfl) rfl ?_
   intro z hsz hBz hkz
   refine⟨.inl rfl,?_⟩
   try simp (disch:=first|omega|assumption|rfl) only[go_sem]
   refine hK _ _ ?_;clear hK hgd;clear K;try clear gd
   have hg:DatAt z cs5 d:=g12 z (hkz.mono fun i _ hi=>by have:=hlt;omega)
   exact⟨rfl,rfl,Keep.to_ext x12 rfl (fun i hi=>by omega) hkz,p5,cs5,⟨(vq1 s1),(vq1 s2),vr0,vr0⟩,hBz,hg⟩
 rintro _ σ2 _ w4 ⟨rfl,rfl,hE4,p5,cs5,⟨t1,t2,t5,t6⟩,hB5,hd5⟩
 have hE04:=hE03.trans hE4
 have q4:=zah hE4 q3
 have hl6:=(zbC hd5).1
 have r5:=zam (n:=5) hB5 (by rw[hl6])
 have hd4:=hd.ext hE04
 refine go (an3 t2 t5 t6) ?_
 refine zav (Q:=fun e' σ' ds' v'=>e'= .normal∧ds'=[]∧σ' 4= .bool true∧Ext w4 v') ?_ ?_
 ·refine zaY (fun _=>false) [(0,true),(1,true),(2,true),(3,true),(5,true),(4,false),(6,false),(7,false),(8,true),(9,true),(10,true),(11,true),(12,false),(13,true),(14,true)] NoS mixed (by kernel_rfl) ?_;intro gd K x hgd hx hxe hK;have hx0:=zaW hxe;clear hxe
  have hg2:∀n σ b,zaw gd n σ (some (2,b))=zan (ev n σ (.tmp 35)) b:=(fun n σ b=>by rw[zaf,show gd 2=some 35 from(by rw[hgd];rfl)];rfl);have hg9:∀n σ b,zaw gd n σ (some (9,b))=zan (ev n σ (.tmp 42)) b:=(fun n σ b=>by rw[zaf,show gd 9=some 42 from(by rw[hgd];rfl)];rfl)
  have qx:=zah hx0 q4
  have rx:=zah hx0 r5
  have e0:decide ((0:Int)=0)=true:=rfl
  simp (disch:=first|omega|assumption|rfl) only[go_sem,t2,t5,t6,qx,rx,e0,↓hg2,↓hg9]
  refine Fn.mono (ziu (w0:=x) (Keep.refl _ _) (hd5.ext hx0) hF.nn) ?_
  rintro _ y1 ⟨hy1,csa,nma,rfl,hda⟩
  refine⟨.inr hy1.keep,?_⟩
  have qy:=zah hy1 qx
  have ry:=zah hy1 rx
  simp (disch:=first|omega|assumption|rfl) only[go_sem,t2,t5,qy,ry,↓hg2,↓hg9]
  refine Fn.mono (ziu (w0:=x) hy1 (hd4.ext hx0) hF.nn) ?_
  rintro _ y2 ⟨hy2,csb,nmb,rfl,hdb⟩
  refine⟨.inr hy2.keep,?_⟩
  simp (disch:=first|omega|assumption|rfl) only[go_sem,↓hg2,↓hg9]
  refine Fn.mono (IsD_ok ((hda.at hy1).ext hy2) (hdb.at (hy1.trans hy2)) hT) ?_
  rintro _ y3 ⟨rfl,hy3⟩
  refine⟨.inr hy3.keep,?_⟩
  have h13:=(hy1.trans hy2).trans hy3
  have qz:=zah h13 qx
  have rz:=zah h13 rx
  simp (disch:=first|omega|assumption|rfl) only[go_sem,t2,t5,qz,rz,↓hg2,↓hg9]
  refine Fn.mono (zeK _ _ _ d d ((hd5.ext hx0).ext h13) ((hd4.ext hx0).ext h13) hO hO) ?_
  rintro _ y4 ⟨rfl,hy4⟩
  refine⟨.inr hy4.keep,?_⟩
  have ec:decide (cmpD d d=0)=true:=decide_eq_true (cpr_D.self d)
  simp (disch:=first|omega|assumption|rfl) only[go_sem,ec,↓hg2,↓hg9]
  refine hK _ _ ?_;clear hK hgd;clear K;try clear gd
  exact⟨rfl,rfl,vr0,(hx0.trans h13).trans hy4⟩
 rintro _ σ3 _ w6 ⟨rfl,rfl,s4,hE6⟩
 refine go s4 ?_
 refine rt1 s4 Tryz.ntmps10 ?_
 exact⟨rfl,hE04.trans hE6⟩
end Go.Proofs.YtanmnkbccfcagaaGreatDoor
