/-
  Texts of a proof, joined: X4.
  Conditions: none.
-/
import Derived.Test.YtopbbjdembnfdaaGreatJN17
set_option linter.unusedVariables false
set_option linter.unusedSimpArgs false
set_option linter.defProp false
set_option linter.unnecessarySimpa false
namespace Go.Proofs.YtopbbjdembnfdaaGreat
open Go
set_option maxRecDepth 100000
def wLame:Lab:=[108,97,109,101]
abbrev wWords:List Value:=[vs [103,111,105,110,103],vs [102,111,117,110,100],vs [101,109,112,116,121],vs [109,105,115,115,105,110,103],vs [116,111,111,108,111,110,103],vs [114,101,102,117,115,101,100],vs wLame,vs [108,111,111,112],vs [102,97,114],vs [103,111,110,101]]
set_option maxHeartbeats 2000000 in
theorem Word6_ok(w:World):Fn Tryz.prog 90 #[vi 6] w (fun v w'=>v=vs wLame∧Ext w w'):=by
 refine enter Tryz.func90 Tryz.ntmps90 rfl rfl ?_
 repeat refine c_r ?_
 refine rg0 ?_
 repeat refine c_r ?_
 refine rq ?_;intro gd K hgd hK
 try simp only[go_sem]
 refine⟨by kernel_rfl,?_⟩
 rw[show bdV Tryz.prog 235 [(0,vs [103,111,105,110,103]),(1,vs [102,111,117,110,100]),(2,vs [101,109,112,116,121]),(3,vs [109,105,115,115,105,110,103]),(4,vs [116,111,111,108,111,110,103]),(5,vs [114,101,102,117,115,101,100]),(6,vs [108,97,109,101]),(7,vs [108,111,111,112]),(8,vs [102,97,114]),(9,vs [103,111,110,101])]=some (.agg wWords.toArray) from by kernel_rfl]
 try simp only[go_sem]
 refine zbo (P:=Tryz.prog) (l:=wWords) rfl (fun v h=>by simp at h;rcases h with rfl|rfl|rfl|rfl|rfl|rfl|rfl|rfl|rfl|rfl<;>rfl) rfl rfl ?_
 intro w1 hE1 hs1 hB
 try simp only[go_sem]
 refine hK _ _ ?_;clear hK hgd;clear K;try clear gd
 have p6:zaf w1 (some ⟨w.heap.size,Int.toNat 6,Option.none⟩)=some (vs wLame):=zac hB rfl
 repeat refine c_r ?_
 refine rgg [(2,7)] (an2 (show decide ((6:Int)<0)=false from rfl) (show decide ((6:Int)≥10)=false from rfl)) ?_
 repeat refine c_r ?_
 refine wf trivial ?_
 repeat refine c_r ?_
 refine rq ?_;intro gd K hgd hK
 try simp (disch:=first|omega|assumption|rfl) only[go_sem,p6]
 refine hK _ _ ?_;clear hK hgd;clear K;try clear gd
 repeat refine c_r ?_
 refine rt0 Tryz.ntmps90 ?_
 exact⟨rfl,hE1⟩
set_option maxHeartbeats 2000000 in
theorem zlx(w:World):Fn Tryz.prog 90 #[vi 10] w (fun v w'=>v=vs []∧Ext w w'):=by
 refine enter Tryz.func90 Tryz.ntmps90 rfl rfl ?_
 repeat refine c_r ?_
 refine rg0 ?_
 repeat refine c_r ?_
 refine rq ?_;intro gd K hgd hK
 try simp only[go_sem]
 refine⟨by kernel_rfl,?_⟩
 rw[show bdV Tryz.prog 235 [(0,vs [103,111,105,110,103]),(1,vs [102,111,117,110,100]),(2,vs [101,109,112,116,121]),(3,vs [109,105,115,115,105,110,103]),(4,vs [116,111,111,108,111,110,103]),(5,vs [114,101,102,117,115,101,100]),(6,vs [108,97,109,101]),(7,vs [108,111,111,112]),(8,vs [102,97,114]),(9,vs [103,111,110,101])]=some (.agg wWords.toArray) from by kernel_rfl]
 try simp only[go_sem]
 refine zbo (P:=Tryz.prog) (l:=wWords) rfl (fun v h=>by simp at h;rcases h with rfl|rfl|rfl|rfl|rfl|rfl|rfl|rfl|rfl|rfl<;>rfl) rfl rfl ?_
 intro w1 hE1 hs1 hB
 try simp only[go_sem]
 refine hK _ _ ?_;clear hK hgd;clear K;try clear gd
 repeat refine c_r ?_
 refine rgg [(2,7)] (an2 (show decide ((10:Int)<0)=false from rfl) (show decide ((10:Int)≥10)=true from rfl)) ?_
 repeat refine c_r ?_
 refine wt trivial ?_
 repeat (first|refine c_r ?_|refine rg0 ?_)
 refine rt0 Tryz.ntmps90 ?_
 exact⟨rfl,hE1⟩
def kA0:zax:=⟨0,kX,0,0,false,0⟩
def kA1:zax:=⟨1,kX,0,1,true,0⟩
def kA2:zax:=⟨1,kX,0,1,true,1⟩
theorem kT1:zc1 smallN kA0 1=[kA1]:=kS1
theorem kT2:zc1 smallN kA1 1=[kA2]:=kS2
theorem kT3:zc1 smallN kA2 1=[]:=kS3
theorem kSm:sameS kA1 kA1=true∧sameS kA1 kA2=false:=⟨by kernel_rfl,by kernel_rfl⟩
theorem kXm:NmM kX:=(zcr (show zcT kX=true by kernel_rfl)).m
theorem zkz{w:World}{v:Value}{s:zax}(h:Rows 6 (StC w) w v [s]):∃a c nv,v= .slice (some a) 1 c∧zat w (some a) 6=some (stV nv s)∧Row w nv (s.name.map vs):=by
 obtain⟨a,c,rfl,_,hg⟩:=h.open
 obtain⟨cs,hcs,hs⟩:=hg 0 (by simp)
 obtain⟨nv,rfl,hn⟩:=hs.ex
 obtain⟨x,rfl⟩:=Option.isSome_iff_exists.1 (zan hcs)
 rw[Nat.zero_mul,zak]at hcs
 exact⟨x,c,nv,rfl,hcs,hn⟩
set_option maxHeartbeats 8000000 in
theorem zjQ:zlP:=by
 intro w0
 have hz0:(0:Int)≤0:=Int.le_refl _
 have hz1:(0:Int)<((1:Nat):Int):=by decide
 have o1:decide ((((1:Nat):Int))=1)=true:=rfl
 refine enter Tryz.func31 Tryz.ntmps31 rfl rfl ?_
 repeat refine c_r ?_
 refine rg0 ?_
 repeat refine c_r ?_
 refine rq ?_;intro gd K hgd hK
 try simp only[go_sem]
 refine Fn.mono (Small_ok w0) ?_
 rintro _ w1 ⟨hE1,cs,rfl,hN⟩
 try simp only[go_sem]
 refine zbo (P:=Tryz.prog) (l:=cs) (by rw[hN.one.1];rfl) hN.one.2 (by rw[hN.one.1];rfl) rfl ?_
 intro w2 hE2 hs2 hB2
 try simp only[go_sem]
 refine hK _ _ ?_;clear hK hgd;clear K;try clear gd
 have d2:=zah (n:=4) hB2 hN.one.1.symm
 obtain⟨c1,hc1⟩:∃c,w1.heap.size=c:=⟨_,rfl⟩
 rw[hc1]at hB2 d2 ⊢
 repeat refine c_r ?_
 refine rq ?_;intro gd K hgd hK
 try simp (disch:=first|omega|assumption|rfl) only[go_sem,d2]
 refine zbU (z:=vs []) (l:=[vs [120],vs [111]]) rfl rfl rfl rfl rfl rfl (fun v hv=>by simp at hv;rcases hv with rfl|rfl<;>rfl) (by simp) ?_
 intro w3 hE3 hs3 o3
 have r3:Row w3 (.slice (some ⟨w2.heap.size,0,Option.none⟩) 2 2) (kX.map vs):=o3.row
 try simp only[go_sem]
 have hE13:=hE2.trans hE3
 refine Fn.mono (zi8 (q:=kX) hE13 hN small_z.rl r3) ?_
 rintro v4 w4 ⟨hE4,hr4⟩
 try simp only[go_sem]
 refine hK _ _ ?_;clear hK hgd;clear K;try clear gd
 have hr4':Rows 6 (StC w4) w4 v4 [kA0]:=hr4
 obtain⟨a4,k4,n4,rfl,da4,hn4⟩:=zkz hr4'
 have hE14:=hE13.trans hE4
 have d4:=zae (hE3.trans hE4) d2
 repeat refine c_r ?_
 refine rg1 o1 ?_
 repeat refine c_r ?_
 refine wf trivial ?_
 repeat refine c_r ?_
 refine zaN (fun _=>false) [(0,true),(1,true),(2,true),(3,true),(4,false),(5,true)] NoS mixed (by kernel_rfl) ?_;intro gd K x hgd hx hxe hK;clear hxe
 have d4x:=zae hx d4
 have da4x:=zae hx da4
 simp (disch:=first|omega|assumption|rfl) only[go_sem,hz0,hz1,Int.toNat_zero,Nat.zero_mul,zak,d4x,da4x]
 refine Fn.mono (zgO (N:=smallN) (s:=kA0) (t:=1) (hE14.trans hx) hN small_z ⟨n4,rfl,hn4.ext hx⟩ ⟨kXm,by decide,by decide,by decide,by decide⟩) ?_
 rintro v5 w5 ⟨hE5,hr5⟩
 refine⟨.inr hE5,?_⟩
 simp (disch:=first|omega|assumption|rfl) only[go_sem]
 refine hK _ _ ?_;clear hK hgd;clear K;try clear gd
 rw[kT1]at hr5
 obtain⟨a5,k5,n5,rfl,da5,hn5⟩:=zkz hr5
 have hE45:=hx.trans hE5
 have hE15:=hE14.trans hE45
 have d5:=zae hE45 d4
 have da45:=zae hE45 da4
 clear d4x da4x
 repeat refine c_r ?_
 refine rg1 o1 ?_
 repeat refine c_r ?_
 refine wf trivial ?_
 repeat refine c_r ?_
 refine zaN (fun _=>false) [(0,true),(1,true),(2,true),(3,true),(4,false),(5,true)] NoS mixed (by kernel_rfl) ?_;intro gd K x hgd hx hxe hK;clear hxe
 have d5x:=zae hx d5
 have da5x:=zae hx da5
 simp (disch:=first|omega|assumption|rfl) only[go_sem,hz0,hz1,Int.toNat_zero,Nat.zero_mul,zak,d5x,da5x]
 refine Fn.mono (zgO (N:=smallN) (s:=kA1) (t:=1) (hE15.trans hx) hN small_z ⟨n5,rfl,hn5.ext hx⟩ ⟨kXm,by decide,by decide,by decide,by decide⟩) ?_
 rintro v6 w6 ⟨hE6,hr6⟩
 refine⟨.inr hE6,?_⟩
 simp (disch:=first|omega|assumption|rfl) only[go_sem]
 refine hK _ _ ?_;clear hK hgd;clear K;try clear gd
 rw[kT2]at hr6
 obtain⟨a6,k6,n6,rfl,da6,hn6⟩:=zkz hr6
 have hE56:=hx.trans hE6
 have hE16:=hE15.trans hE56
 have d6:=zae hE56 d5
 have da46:=zae hE56 da45
 have da56:=zae hE56 da5
 clear d5x da5x
 obtain⟨u45,hu45⟩:∃u,adr (some a4) 5=some u:=⟨_,rfl⟩
 obtain⟨u53,hu53⟩:∃u,adr (some a5) 3=some u:=⟨_,rfl⟩
 obtain⟨u54,hu54⟩:∃u,adr (some a5) 4=some u:=⟨_,rfl⟩
 obtain⟨u65,hu65⟩:∃u,adr (some a6) 5=some u:=⟨_,rfl⟩
 have f40:zaf w6 (adr (some a4) 0)=some (vi 0):=zaj da46 rfl
 have f45:zaf w6 (some u45)=some (vi 0):=hu45▸zaj da46 rfl
 have f50:zaf w6 (adr (some a5) 0)=some (vi 1):=zaj da56 rfl
 have f53:zaf w6 (some u53)=some (vi 1):=hu53▸zaj da56 rfl
 have f54:zaf w6 (some u54)=some (.bool true):=hu54▸zaj da56 rfl
 have f65:zaf w6 (some u65)=some (vi 1):=hu65▸zaj da6 rfl
 rw[zak]at f40 f50
 have c00:decide ((0:Int)=0)=true:=rfl
 have c11:decide ((1:Int)=1)=true:=rfl
 repeat refine c_r ?_
 refine zaN (fun _=>false) [(0,true),(1,true),(2,true),(3,true),(4,true),(5,true),(6,true),(7,true),(8,true),(9,true),(10,true),(11,true),(12,true),(13,true),(14,true),(15,true),(16,true),(17,true),(18,true),(19,true),(20,true),(21,true),(22,true),(23,true),(24,true),(25,true),(26,true),(27,true),(28,true),(29,true),(30,true),(31,true),(32,true),(33,true),(34,true),(35,true),(36,true),(37,true),(38,true),(39,true),(40,true),(41,true),(42,true),(43,true),(44,true),(45,true),(46,true),(47,true),(48,true),(49,false),(50,true),(51,true),(52,true),(53,true),(54,false),(55,true),(56,true),(57,true),(58,false),(59,true),(60,true),(61,true),(62,true),(63,true),(64,true),(65,true),(66,true),(67,true),(68,false),(69,true),(70,true),(71,true),(72,true),(73,true),(74,true),(75,true),(76,true),(77,false),(78,true),(79,true),(80,true)] NoS mixed (by kernel_rfl) ?_;intro gd K x hgd hx hxe hK;clear hxe
 have hg5:∀n σ b,zas gd n σ (some (5,b))=zal (ev n σ (.tmp 30)) b:=(fun n σ b=>by rw[zad,show gd 5=some 30 from(by rw[hgd];rfl)];rfl);have hg12:∀n σ b,zas gd n σ (some (12,b))=zal (ev n σ (.tmp 37)) b:=(fun n σ b=>by rw[zad,show gd 12=some 37 from(by rw[hgd];rfl)];rfl);have hg19:∀n σ b,zas gd n σ (some (19,b))=zal (ev n σ (.tmp 44)) b:=(fun n σ b=>by rw[zad,show gd 19=some 44 from(by rw[hgd];rfl)];rfl);have hg26:∀n σ b,zas gd n σ (some (26,b))=zal (ev n σ (.tmp 51)) b:=(fun n σ b=>by rw[zad,show gd 26=some 51 from(by rw[hgd];rfl)];rfl);have hg32:∀n σ b,zas gd n σ (some (32,b))=zal (ev n σ (.tmp 57)) b:=(fun n σ b=>by rw[zad,show gd 32=some 57 from(by rw[hgd];rfl)];rfl);have hg37:∀n σ b,zas gd n σ (some (37,b))=zal (ev n σ (.tmp 62)) b:=(fun n σ b=>by rw[zad,show gd 37=some 62 from(by rw[hgd];rfl)];rfl);have hg44:∀n σ b,zas gd n σ (some (44,b))=zal (ev n σ (.tmp 69)) b:=(fun n σ b=>by rw[zad,show gd 44=some 69 from(by rw[hgd];rfl)];rfl);have hg53:∀n σ b,zas gd n σ (some (53,b))=zal (ev n σ (.tmp 78)) b:=(fun n σ b=>by rw[zad,show gd 53=some 78 from(by rw[hgd];rfl)];rfl);have hg57:∀n σ b,zas gd n σ (some (57,b))=zal (ev n σ (.tmp 82)) b:=(fun n σ b=>by rw[zad,show gd 57=some 82 from(by rw[hgd];rfl)];rfl);have hg61:∀n σ b,zas gd n σ (some (61,b))=zal (ev n σ (.tmp 86)) b:=(fun n σ b=>by rw[zad,show gd 61=some 86 from(by rw[hgd];rfl)];rfl);have hg70:∀n σ b,zas gd n σ (some (70,b))=zal (ev n σ (.tmp 95)) b:=(fun n σ b=>by rw[zad,show gd 70=some 95 from(by rw[hgd];rfl)];rfl)
 simp only[List.toList_toArray,List.append_eq,List.cons_append,List.nil_append]
 have g40:=zab hx f40
 have g45:=zab hx f45
 have g50:=zab hx f50
 have g53:=zab hx f53
 have g54:=zab hx f54
 have g65:=zab hx f65
 have d6x:=zae hx d6
 have da6x:=zae hx da6
 simp (disch:=first|omega|assumption|rfl) only[go_sem,hz0,hz1,Int.toNat_zero,Nat.zero_mul,zak,hu45,hu53,hu54,hu65,decide_true,c00,c11,o1,zaW,g40,g45,g50,g53,g54,g65,d6x,da6x,↓hg5,↓hg12,↓hg19,↓hg26,↓hg32,↓hg37,↓hg44,↓hg53,↓hg57,↓hg61,↓hg70]
 refine Fn.mono (zgO (N:=smallN) (s:=kA2) (t:=1) (hE16.trans hx) hN small_z ⟨n6,rfl,hn6.ext hx⟩ ⟨kXm,by decide,by decide,by decide,by decide⟩) ?_
 rintro v7 y1 ⟨hy1,hr7⟩
 refine⟨.inr hy1,?_⟩
 rw[kT3]at hr7
 obtain⟨a7,k7,rfl,_⟩:=hr7.open
 have l0:((([]:List zax).length:Nat):Int)=0:=rfl
 simp (disch:=first|omega|assumption|rfl) only[go_sem,l0,hz0,hz1,Int.toNat_zero,Nat.zero_mul,zak,hu45,hu53,hu54,hu65,decide_true,c00,c11,o1,zaW,↓hg5,↓hg12,↓hg19,↓hg26,↓hg32,↓hg37,↓hg44,↓hg53,↓hg57,↓hg61,↓hg70]
 refine Fn.mono (Word6_ok y1) ?_
 rintro _ y2 ⟨rfl,hy2⟩
 refine⟨.inr hy2,?_⟩
 have lw:decide (wLame=[108,97,109,101])=true:=rfl
 simp (disch:=first|omega|assumption|rfl) only[go_sem,lw,hz0,hz1,Int.toNat_zero,Nat.zero_mul,zak,hu45,hu53,hu54,hu65,decide_true,c00,c11,o1,zaW,↓hg5,↓hg12,↓hg19,↓hg26,↓hg32,↓hg37,↓hg44,↓hg53,↓hg57,↓hg61,↓hg70]
 refine Fn.mono (zlx y2) ?_
 rintro _ y3 ⟨rfl,hy3⟩
 refine⟨.inr hy3,?_⟩
 have hY3:=((hx.trans hy1).trans hy2).trans hy3
 have d53':=zae hY3 da56
 have s51:StC y3 (stV n5 kA1) kA1:=⟨n5,rfl,hn5.ext (hE56.trans hY3)⟩
 simp (disch:=first|omega|assumption|rfl) only[go_sem,d53',hz0,hz1,Int.toNat_zero,Nat.zero_mul,zak,hu45,hu53,hu54,hu65,decide_true,c00,c11,o1,zaW,↓hg5,↓hg12,↓hg19,↓hg26,↓hg32,↓hg37,↓hg44,↓hg53,↓hg57,↓hg61,↓hg70]
 refine Fn.mono (zja y3 s51 s51 kXm.LB kXm.LB (by decide) (by decide)) ?_
 rintro _ y4 ⟨rfl,hy4⟩
 refine⟨.inr hy4,?_⟩
 rw[kSm.1]
 have hY4:=hY3.trans hy4
 have d54:=zae hY4 da56
 have d64:=zae hY4 da6
 simp (disch:=first|omega|assumption|rfl) only[go_sem,d54,d64,hz0,hz1,Int.toNat_zero,Nat.zero_mul,zak,hu45,hu53,hu54,hu65,decide_true,c00,c11,o1,zaW,↓hg5,↓hg12,↓hg19,↓hg26,↓hg32,↓hg37,↓hg44,↓hg53,↓hg57,↓hg61,↓hg70]
 refine Fn.mono (zja y4 (s51.ext hy4) ⟨n6,rfl,hn6.ext hY4⟩ kXm.LB kXm.LB (by decide) (by decide)) ?_
 rintro _ y5 ⟨rfl,hy5⟩
 refine⟨.inr hy5,?_⟩
 rw[kSm.2]
 simp (disch:=first|omega|assumption|rfl) only[go_sem,hz0,hz1,Int.toNat_zero,Nat.zero_mul,zak,hu45,hu53,hu54,hu65,decide_true,c00,c11,o1,zaW,↓hg5,↓hg12,↓hg19,↓hg26,↓hg32,↓hg37,↓hg44,↓hg53,↓hg57,↓hg61,↓hg70]
 refine hK _ _ ?_;clear hK hgd;clear K;try clear gd
 repeat refine c_r ?_
 refine rt0 Tryz.ntmps31 ?_
 exact⟨rfl,hE1.trans (hE16.trans (hY4.trans hy5))⟩
end Go.Proofs.YtopbbjdembnfdaaGreat
