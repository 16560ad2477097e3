/-
  Texts of a proof, joined: D8, Y0, K18, M5cd, E0, E1, K22, E2, E3, Y1, E4, M5cs.
  Conditions: none.
-/
import Derived.Test.YtopbbjdembnfdaaGreatJN04
import Derived.Test.YtopbbjdembnfdaaGreatJN03
import Derived.Test.YtopbbjdembnfdaaGreatJN01
import Derived.Test.YtopbbjdembnfdaaGreatJN02
set_option linter.unusedVariables false
set_option linter.unusedSimpArgs false
set_option linter.defProp false
set_option linter.unnecessarySimpa false
namespace Go.Proofs.YtopbbjdembnfdaaGreat
open Go
set_option maxRecDepth 10000
section
variable {α : Type} {cf : α → α → Int} {jn : α → α → α}
def tst(O:List α)(k:Nat)(p:α→Bool):Bool:=match O[k]? with
 |some x=>p x
 |Option.none=>false
theorem zdL{O:List α}{k:Nat}(h:k<O.length)(p:α→Bool):tst O k p=p O[k]:=by unfold tst;rw[List.getElem?_eq_getElem h]
theorem zea{O:List α}{k:Nat}(h:¬k<O.length)(p:α→Bool):tst O k p=false:=by unfold tst;rw[List.getElem?_eq_none (by omega)]
theorem ziH{r:α}:∀{O:List α} {k:Nat} (hk:k<O.length),(∀j (h:j<O.length),j<k→cf O[j] r<0)→cf O[k] r=0→putC cf jn r O=O.set k (jn O[k] r)
 | [],_,h,_,_=>absurd h (by simp)
 |x::O,0,_,_,h0=>by
  have h0':cf x r=0:=h0
  simp only[putC]
  rw[if_neg (by omega),if_pos h0'];rfl
 |x::O,k+1,hk,h,h0=>by
  have hx:cf x r<0:=h 0 (by simp) (by omega)
  have ih:=ziH (r:=r) (O:=O) (k:=k) (by simpa using hk) (fun j hj hjk=>h (j+1) (by simpa using hj) (by omega)) h0
  simp only[putC]
  rw[if_pos hx,ih];rfl
theorem zg4{r:α}:∀{O:List α} {k:Nat},k≤O.length→(∀j (h:j<O.length),j<k→cf O[j] r<0)→(∀h:k<O.length,¬cf O[k] r<0∧¬cf O[k] r=0)→putC cf jn r O=O.take k++ [r]++O.drop k
 | [],k,h,_,_=>by
  have:k=0:=by simpa using h
  subst this;rfl
 |x::O,0,_,_,hn=>by
  obtain⟨h1,h2⟩:=hn (by simp)
  have h1':¬cf x r<0:=h1
  have h2':¬cf x r=0:=h2
  simp only[putC]
  rw[if_neg h1',if_neg h2'];rfl
 |x::O,k+1,hk,h,hn=>by
  have hx:cf x r<0:=h 0 (by simp) (by omega)
  have ih:=zg4 (r:=r) (O:=O) (k:=k) (by simpa using hk) (fun j hj hjk=>h (j+1) (by simpa using hj) (by omega)) (fun h=>hn (by simpa using h))
  simp only[putC]
  rw[if_pos hx,ih];rfl
end
theorem zbj(w:World):zdb 7 (RecAt w):=⟨fun h=>h.len,fun h=>h.ones⟩
theorem RecAt.ttl{w:World}{cs:List Value}{r:RecL}(h:RecAt w cs r):cs[1]? =some (v32 r.ttl):=by
 obtain⟨ow,ds,rfl,_⟩:=h.ex
 rfl
set_option maxHeartbeats 2000000 in
theorem zhN(w0 w:World)(hE0:Ext w0 w){v:Value}{R:List RecL}(hR:Rows 7 (RecAt w0) w v R)(hok:∀r∈R,zbn r)(hlen:R.length≤1000000000):
  Fn Tryz.prog 75 #[v] w (fun u w'=>Owns 7 (RecAt w0) w.heap.size w' 139 u (zaP R)∧Ext w w'):=by
 obtain⟨aR,cR,rfl,hcR,hgR⟩:=hR.open
 refine enter Tryz.func75 Tryz.ntmps75 rfl rfl ?_
 repeat refine c_r ?_
 refine rg0 ?_
 repeat refine c_r ?_
 refine rg0 ?_
 repeat refine c_r ?_
 refine rg0 ?_
 repeat refine c_r ?_
 refine zap (fun m σ ds A=>ds=[]∧∃(i:Nat) (vO:Value) (O:List RecL),i+m=R.length∧σ 4=vi i∧σ 0= .slice aR R.length cR∧σ 3=vO∧Owns 7 (RecAt w0) w.heap.size A 139 vO O∧O=zck zaD minT (fun x:RecL=>x) (R.take i) []∧Ext w A∧(∀o∈O,zbn o)∧O.length≤i) R.length ?_ ?_
 ·exact⟨rfl,0,_,[],by omega,vr0,vq0,vq0,Owns.nil _ _ _ _ _,rfl,Keep.refl _ _,fun o h=>absurd h (by simp),by simp⟩
 rintro m σ ds A ⟨rfl,i,vO,O,him,h4,h0,h3,hO,hOf,hEA,hOok,hOi⟩
 repeat refine c_r ?_
 refine rg2 h4 h0 ?_
 repeat refine c_r ?_
 refine wc0 ?_ ?_
 ·intro hlt
  simp only[decide_eq_true_eq]at hlt
  have hiR:i<R.length:=by omega
  have hi0:(0:Int)≤(i:Int):=by omega
  have hi1:(i:Int)<(R.length:Int):=by omega
  have hi1':(i:Int)+1=((i+1:Nat):Int):=by push_cast;rfl
  obtain⟨cr,hcr,hRr⟩:=hgR i hiR
  obtain⟨r,hr⟩:∃r,R[i]=r:=⟨_,rfl⟩
  rw[hr]at hRr
  have hrok:zbn r:=hr▸hok _ (List.getElem_mem hiR)
  obtain⟨xR,rfl⟩:=Option.isSome_iff_exists.1 (zan hcr)
  have hf1:zck zaD minT (fun x:RecL=>x) (R.take (i+1)) []=putC zaD minT r O:=by
   rw[zao hiR,hr,hOf];unfold zck;rw[List.foldl_append];rfl
  have hn3:∀o∈putC zaD minT r O,zbn o:=zdS (fun x hx _=>⟨hx.lb,hx.len,hx.dat⟩) hrok hOok
  obtain⟨aO,cO,hvO,hcO,hgO⟩:=hO.rows.open
  rw[hvO]at h3 hO
  clear hvO
  repeat refine c_r ?_
  refine rg0 ?_
  repeat refine c_r ?_
  refine zap (fun m2 σ2 ds2 A2=>ds2=[]∧∃(k:Nat),k+m2=O.length∧σ2 5=vi k∧σ2 4=vi i∧σ2 0= .slice (some xR) R.length cR∧σ2 3= .slice aO O.length cO∧Ext A A2∧∀j (h:j<O.length),j<k→zaD O[j] r<0) O.length ?_ ?_
  ·exact⟨rfl,0,by omega,vr0,(vq1 h4),(vq1 h0),(vq1 h3),Keep.refl _ _,fun j h hj=>absurd hj (by omega)⟩
  clear h3 h4 h0
  rintro m2 σ ds A2 ⟨rfl,k,hkm,h5,h4,h0,h3,hE2,hlow⟩
  repeat refine c_r ?_
  refine zaC (Q:=fun e σ' ds' v'=>e= .normal∧ds'=[]∧σ' 5=vi k∧σ' 4=vi i∧σ' 0= .slice (some xR) R.length cR∧σ' 3= .slice aO O.length cO∧Ext A2 v'∧σ' 28= .bool (tst O k fun x=>decide (zaD x r<0))) ?_ ?_
  ·by_cases hk:k<O.length
   ·rw[zdL hk]
    obtain⟨ck,hck,hRk⟩:=hgO k hk
    obtain⟨xO,rfl⟩:=Option.isSome_iff_exists.1 (zan hck)
    have hkd:decide ((k:Int)<(O.length:Int))=true:=decide_eq_true (by omega)
    have hk0:(0:Int)≤(k:Int):=by omega
    have hk1:(k:Int)<(O.length:Int):=by omega
    refine zaN (fun _=>false) [(0,true),(1,true),(2,true),(3,true),(4,true),(5,true),(6,true),(7,true),(8,true),(9,true),(10,true),(11,true),(12,true),(13,false),(14,true),(15,true)] NoS mixed (by kernel_rfl) ?_;intro gd K x hgd hx hxe hK;clear hxe
    have hg4:∀n σ b,zas gd n σ (some (4,b))=zal (ev n σ (.tmp 17)) b:=(fun n σ b=>by rw[zad,show gd 4=some 17 from(by rw[hgd];rfl)];rfl)
    have d1:=zae (hE2.trans hx) hck
    have d2:=zae ((hEA.trans hE2).trans hx) hcr
    simp (disch:=first|omega|assumption|rfl) only[go_sem,h5,h4,h0,h3,hkd,decide_true,hk0,hk1,hi0,hi1,d1,d2,↓hg4]
    refine Fn.mono (zdA x _ _ O[k] r (hRk.ext (((hE0.trans hEA).trans hE2).trans hx)) (hRr.ext (((hE0.trans hEA).trans hE2).trans hx)) (hOok _ (List.getElem_mem hk)) hrok) ?_
    rintro _ x2 ⟨rfl,hx2⟩
    refine⟨.inr hx2,?_⟩
    simp (disch:=first|omega|assumption|rfl) only[go_sem,↓hg4]
    refine hK _ _ ?_;clear hK hgd;clear K;try clear gd
    exact⟨rfl,rfl,(vq1 h5),(vq1 h4),(vq1 h0),(vq1 h3),hx.trans hx2,vq0⟩
   ·rw[zea hk]
    have hkd:decide ((k:Int)<(O.length:Int))=false:=decide_eq_false (by omega)
    refine zaN (fun _=>false) [(0,true),(1,true),(2,true),(3,true),(4,true),(5,true),(6,true),(7,true),(8,true),(9,true),(10,true),(11,true),(12,true),(13,false),(14,true),(15,true)] NoS mixed (by kernel_rfl) ?_;intro gd K x hgd hx hxe hK;clear hxe
    have hg4:∀n σ b,zas gd n σ (some (4,b))=zal (ev n σ (.tmp 17)) b:=(fun n σ b=>by rw[zad,show gd 4=some 17 from(by rw[hgd];rfl)];rfl)
    simp (disch:=first|omega|assumption|rfl) only[go_sem,h5,h4,h0,h3,hkd,↓hg4]
    refine hK _ _ ?_;clear hK hgd;clear K;try clear gd
    exact⟨rfl,rfl,(vq1 h5),(vq1 h4),(vq1 h0),(vq1 h3),hx,vq0⟩
  clear h5 h4 h0 h3
  rintro _ σ1 _ A3 ⟨rfl,rfl,h5,h4,h0,h3,hE3,h28⟩
  repeat refine c_r ?_
  refine zaB (t:=tst O k fun x=>decide (zaD x r<0)) ((vq1 h28)) ?_ ?_
  ·intro ht
   have hk:k<O.length:=Classical.byContradiction fun h=>by rw[zea h]at ht;cases ht
   rw[zdL hk,decide_eq_true_eq]at ht
   have hk1':(k:Int)+1=((k+1:Nat):Int):=by push_cast;rfl
   repeat refine c_r ?_
   refine rg2 h5 hk1' ?_
   repeat refine c_r ?_
   refine⟨m2 - 1,by omega,rfl,k+1,by omega,vq0,(vq1 h4),(vq1 h0),(vq1 h3),hE2.trans hE3,fun j hj hjk=>?_⟩
   by_cases hj2:j=k
   ·subst hj2;exact ht
   ·exact hlow j hj (by omega)
  intro ht
  have hstop:∀h:k<O.length,¬zaD O[k] r<0:=fun h h2=>by
   rw[zdL h]at ht
   exact of_decide_eq_false ht h2
  have hkO:k≤O.length:=by omega
  have hE23:=hE2.trans hE3
  clear h28 ht hE3 hE2
  repeat refine c_r ?_
  have hEA3:=hEA.trans hE23
  have hO3:=hO.ext hE23
  refine zaC (Q:=fun e σ' ds' v'=>e= .normal∧ds'=[]∧σ' 5=vi k∧σ' 4=vi i∧σ' 0= .slice (some xR) R.length cR∧σ' 3= .slice aO O.length cO∧Ext A3 v'∧σ' 45= .bool (tst O k fun x=>decide (zaD x r=0))) ?_ ?_
  ·by_cases hk:k<O.length
   ·rw[zdL hk]
    obtain⟨ck,hck,hRk⟩:=hgO k hk
    obtain⟨xO,rfl⟩:=Option.isSome_iff_exists.1 (zan hck)
    have hkd:decide ((k:Int)<(O.length:Int))=true:=decide_eq_true (by omega)
    have hk0:(0:Int)≤(k:Int):=by omega
    have hk1:(k:Int)<(O.length:Int):=by omega
    refine zaN (fun _=>false) [(0,true),(1,true),(2,true),(3,true),(4,true),(5,true),(6,true),(7,true),(8,true),(9,true),(10,true),(11,true),(12,true),(13,false),(14,true)] NoS mixed (by kernel_rfl) ?_;intro gd K x hgd hx hxe hK;clear hxe
    have hg4:∀n σ b,zas gd n σ (some (4,b))=zal (ev n σ (.tmp 35)) b:=(fun n σ b=>by rw[zad,show gd 4=some 35 from(by rw[hgd];rfl)];rfl)
    have d1:=zae (hE23.trans hx) hck
    have d2:=zae (hEA3.trans hx) hcr
    simp (disch:=first|omega|assumption|rfl) only[go_sem,h5,h4,h0,h3,hkd,decide_true,hk0,hk1,hi0,hi1,d1,d2,↓hg4]
    refine Fn.mono (ziq x _ _ O[k] r (hRk.ext ((hE0.trans hEA3).trans hx)) (hRr.ext ((hE0.trans hEA3).trans hx)) (hOok _ (List.getElem_mem hk)) hrok) ?_
    rintro _ x2 ⟨rfl,hx2⟩
    refine⟨.inr hx2,?_⟩
    simp (disch:=first|omega|assumption|rfl) only[go_sem,↓hg4]
    refine hK _ _ ?_;clear hK hgd;clear K;try clear gd
    exact⟨rfl,rfl,(vq1 h5),(vq1 h4),(vq1 h0),(vq1 h3),hx.trans hx2,vq0⟩
   ·rw[zea hk]
    have hkd:decide ((k:Int)<(O.length:Int))=false:=decide_eq_false (by omega)
    refine zaN (fun _=>false) [(0,true),(1,true),(2,true),(3,true),(4,true),(5,true),(6,true),(7,true),(8,true),(9,true),(10,true),(11,true),(12,true),(13,false),(14,true)] NoS mixed (by kernel_rfl) ?_;intro gd K x hgd hx hxe hK;clear hxe
    have hg4:∀n σ b,zas gd n σ (some (4,b))=zal (ev n σ (.tmp 35)) b:=(fun n σ b=>by rw[zad,show gd 4=some 35 from(by rw[hgd];rfl)];rfl)
    simp (disch:=first|omega|assumption|rfl) only[go_sem,h5,h4,h0,h3,hkd,↓hg4]
    refine hK _ _ ?_;clear hK hgd;clear K;try clear gd
    exact⟨rfl,rfl,(vq1 h5),(vq1 h4),(vq1 h0),(vq1 h3),hx,vq0⟩
  clear h5 h4 h0 h3
  rintro _ σ1 _ A4 ⟨rfl,rfl,h5,h4,h0,h3,hE4,h45⟩
  have hEA4:=hEA3.trans hE4
  have hO4:=hO3.ext hE4
  repeat refine c_r ?_
  refine zaB (t:=tst O k fun x=>decide (zaD x r=0)) ((vq1 h45)) ?_ ?_
  ·intro ht
   have hk:k<O.length:=Classical.byContradiction fun h=>by rw[zea h]at ht;cases ht
   rw[zdL hk,decide_eq_true_eq]at ht
   have hput:=ziH (jn:=minT) hk hlow ht
   obtain⟨ck,hck,hRk⟩:=hgO k hk
   obtain⟨xO,rfl⟩:=Option.isSome_iff_exists.1 (zan hck)
   have hk0:(0:Int)≤(k:Int):=by omega
   have hk1:(k:Int)<(O.length:Int):=by omega
   rcases hO4.cases with ⟨hv0,_⟩| ⟨b,cap,LO,hvb,hbB,hbc,hbm,hSD,hLl,hLat⟩
   ·cases hv0
   have hxb:xO=⟨b,0,Option.none⟩:=by injection hvb with e;injection e
   have hcap:cO=cap:=by injection hvb
   subst hxb hcap
   have hgk:=hSD.get (j:=k) (by omega)
   have hRk:=hLat k (by omega) hk
   have f1:zaf A4 (some ⟨b,k*7+1,Option.none⟩)=some (v32 (O[k]).ttl):=by
    have h1:=zca hgk (j:=1) (by rw[hRk.len];omega)
    have h2:=hRk.ttl
    rw[List.getElem?_eq_getElem (by rw[hRk.len];omega)]at h2
    rw[Option.some.inj h2]at h1;exact h1
   have f2:zaf A4 (adr (adr (some xR) (i*7)) 1)=some (v32 r.ttl):=by
    have h1:=zca (zae hEA4 hcr) (j:=1) (by rw[hRr.len];omega)
    have h2:=hRr.ttl
    rw[List.getElem?_eq_getElem (by rw[hRr.len];omega)]at h2
    rw[Option.some.inj h2]at h1;exact h1
   obtain⟨xi,hxi⟩:∃xi,adr (some xR) (i*7)=some xi:=⟨_,rfl⟩
   rw[hxi]at f2
   repeat refine c_r ?_
   refine zaN (fun _=>false) [(0,true),(1,true),(2,true),(3,true),(4,true),(5,true),(6,true),(7,true),(8,true),(9,true),(10,true)] NoS mixed (by kernel_rfl) ?_;intro gd K x hgd hx hxe hK;clear hxe
   have f1':=zab hx f1
   have f2':=zab hx f2
   simp (disch:=first|omega|assumption|rfl) only[go_sem,h5,h4,h0,h3,hk0,hk1,hi0,hi1,f1',f2',hxi,Nat.zero_add]
   refine hK _ _ ?_;clear hK hgd;clear K;try clear gd
   repeat refine c_r ?_
   have hnext:∀{v'},Ext w v'→SD 7 v' b 139 cO (LO.set k (LO[k].set 1 (v32 (min O[k].ttl r.ttl))))→Owns 7 (RecAt w0) w.heap.size v' 139 (.slice (some ⟨b,0,Option.none⟩) O.length cO) (putC zaD minT r O):=fun {v'} _ hD=>by
    rw[hput]
    have:=Owns.of_sd (C:=RecAt w0) (xs:=O.set k (minT O[k] r)) hD hbB (by simpa using hbc) hbm (by simp[hLl]) (zlu hLl hLat hRk.minT)
    simpa using this
   refine wc0 ?_ ?_
   ·intro hlt2
    simp only[decide_eq_true_eq]at hlt2
    have hmin:min O[k].ttl r.ttl=r.ttl:=Int.min_eq_right (by omega)
    rw[hmin]at hnext
    repeat refine c_r ?_
    refine rq ?_;intro gd K hgd hK
    have g2:=zab hx f2
    try simp (disch:=first|omega|assumption|rfl) only[go_sem,h5,h4,h0,h3,hk0,hk1,hi0,hi1,g2,hxi,Nat.zero_add]
    refine SD.setAt (P:=Tryz.prog) (t:=108) (hSD.ext hx) (j:=k) (i:=1) (by omega) (by decide) rfl rfl rfl ?_
    intro v4 hv4 hL4 hk4
    try simp only[go_sem]
    refine hK _ _ ?_;clear hK hgd;clear K;try clear gd
    have hE5:Ext w v4:=Keep.to_ext (hEA4.trans hx) rfl (fun i hi=>by omega) hk4
    repeat refine c_r ?_
    refine rg2 h4 hi1' ?_
    repeat refine c_r ?_
    exact⟨m - 1,by omega,rfl,i+1,_,_,by omega,vq0,(vq1 h0),(vq1 h3),hnext hE5 hL4,hf1.symm,hE5,hn3,by rw[hput];simp;omega⟩
   ·intro hlt2
    simp only[decide_eq_false_iff_not]at hlt2
    have hmin:min O[k].ttl r.ttl=O[k].ttl:=Int.min_eq_left (by omega)
    rw[hmin]at hnext
    have hsame:LO[k].set 1 (v32 O[k].ttl)=LO[k]:=by
     have h2:=hRk.ttl
     apply List.ext_getElem?
     intro j
     rw[List.getElem?_set]
     split
     ·rename_i hj;subst hj
      rw[if_pos (by rw[hRk.len];omega),h2]
     ·rfl
    rw[hsame,List.set_getElem_self]at hnext
    repeat refine c_r ?_
    refine rg2 h4 hi1' ?_
    repeat refine c_r ?_
    exact⟨m - 1,by omega,rfl,i+1,_,_,by omega,vq0,(vq1 h0),(vq1 h3),hnext (hEA4.trans hx) (hSD.ext hx),hf1.symm,hEA4.trans hx,hn3,by rw[hput];simp;omega⟩
  ·intro ht
   have hmiss:∀h:k<O.length,¬zaD O[k] r<0∧¬zaD O[k] r=0:=fun h=>by
    rw[zdL h,decide_eq_false_iff_not]at ht
    exact⟨hstop h,ht⟩
   have hput:=zg4 (jn:=minT) hkO hlow hmiss
   have hk0:(0:Int)≤(k:Int):=by omega
   have hk1:(k:Int)≤(O.length:Int):=by omega
   have hcutlo:=hO4.rows.cut (lo:=0) (hi:=k) (by omega) hkO
   have hcuthi:=hO4.rows.cut (lo:=k) (hi:=O.length) hkO (Nat.le_refl _)
   rw[List.drop_zero,Nat.sub_zero]at hcutlo
   rw[List.take_of_length_le (by simp)]at hcuthi
   repeat refine c_r ?_
   refine zaC (Q:=fun e σ' ds' v'=>e= .normal∧ds'=[]∧σ' 5=vi k∧σ' 4=vi i∧σ' 0= .slice (some xR) R.length cR∧σ' 3= .slice aO O.length cO∧Ext A4 v'∧∃xv,σ' 6=xv∧Owns 7 (RecAt w0) A4.heap.size v' 139 xv (O.take k++ [r])) ?_ ?_
   ·refine zfB (fun _=>false) (.run [(1,true),(2,true),(3,true),(5,true),(6,true),(7,true),(8,true)] (.fork 4 [0,9] (fun i=>if i=0 then(.run [] (.fork 3 [4,9] (fun i=>if i=4 then(.run [(9,false),(10,false),(11,true)] .fin) else(.run [(4,false),(10,false),(11,true)] .fin)))) else(.run [(0,false),(4,false),(10,false),(11,true)] .fin)))) (zbB A4.heap.size) mixed (by kernel_rfl) ?_;intro gd K x hgd hx hxe hK;clear hxe
    have hx0:Ext A4 x:=⟨hx.os,hx.tape,hx.output,hx.size,fun b hb _=>hx.block b hb (by unfold zbB;omega),hx.drawn⟩
    have hxs:=hx.size
    have d2:=zae (hEA4.trans hx0) hcr
    simp (disch:=first|omega|assumption|rfl) only[go_sem,h5,h4,h0,h3,hk0,hk1,hi0,hi1,d2]
    refine⟨fun a ha hb=>by have:=zeU hcr (by decide) ha;have:=hEA4.size;unfold zbB at hb;omega,?_⟩
    simp only[zbg,zbv];refine⟨?_,?_⟩
    ·simp (disch:=first|omega|assumption|rfl) only[go_sem]
     refine zep (k:=7) (C:=RecAt w0) rfl rfl rfl rfl ?_
     intro w3 hE3 hs3 ho3
     refine⟨.inr hE3.keep,?_⟩
     simp (disch:=first|omega|assumption|rfl) only[go_sem]
     simp only[zbg,zbv];refine⟨?_,?_⟩
     ·simp (disch:=first|omega|assumption|rfl) only[go_sem]
      refine zaI (zbj w0) ho3 (hcutlo.ext (hx0.trans hE3)) rfl rfl rfl rfl rfl rfl (by decide) (vr0) (vr0) (by simp;omega) (by decide) (by omega) ?_
      intro v4 w4 ho4 hE4' hk4 _
      refine⟨.inr (hk4.mono fun b _ hb=>by have:=(ho3.ge hb).1;show _≤_;omega),?_⟩
      have hE4'':=hE4' _ hE3 (Nat.le_refl _)
      have hs4:=hk4.size
      simp (disch:=first|omega|assumption|rfl) only[go_sem]
      refine zaT (zbj w0) rfl rfl rfl rfl hRr (by decide) ?_
      intro w5 hE5 hs5 ho5
      refine⟨.inr hE5.keep,?_⟩
      simp (disch:=first|omega|assumption|rfl) only[go_sem]
      refine zaI (zbj w0) (ho4.ext hE5) ho5.rows rfl rfl rfl rfl rfl rfl (by decide) (vr0) (vr0) (by simp;omega) (by decide) (by omega) ?_
      intro v6 w6 ho6 hE6 hk6 _
      refine⟨.inr (hk6.mono fun b _ hb=>by have:=(ho4.ge hb).1;show _≤_;omega),?_⟩
      simp (disch:=first|omega|assumption|rfl) only[go_sem]
      refine hK _ _ ⟨rfl,rfl,(vq1 h5),(vq1 h4),(vq1 h0),(vq1 h3),hx0.trans (hE6 _ (hE4''.trans hE5) (Nat.le_refl _)),_,by simp only[go_sem];rfl,?_⟩
      exact ho6.mono hxs
     ·simp (disch:=first|omega|assumption|rfl) only[go_sem]
      refine zaT (zbj w0) rfl rfl rfl rfl hRr (by decide) ?_
      intro w5 hE5 hs5 ho5
      refine⟨.inr hE5.keep,?_⟩
      simp (disch:=first|omega|assumption|rfl) only[go_sem]
      refine zaI (zbj w0) (ho3.ext hE5) (hcutlo.ext ((hx0.trans hE3).trans hE5)) rfl rfl rfl rfl rfl rfl (by decide) (vr0) (vr0) (by simp;omega) (by decide) (by omega) ?_
      intro v4 w4 ho4 hE4' hk4 _
      have hs4:=hk4.size
      refine⟨.inr (hk4.mono fun b _ hb=>by have:=(ho3.ge hb).1;show _≤_;omega),?_⟩
      have ho5':=ho5.keep hk4 (fun b hb hb2=>by have:=(ho5.ge hb).1;have:=(ho3.ge hb2).2;omega)
      simp (disch:=first|omega|assumption|rfl) only[go_sem]
      refine zaI (zbj w0) ho4 ho5'.rows rfl rfl rfl rfl rfl rfl (by decide) (vr0) (vr0) (by simp;omega) (by decide) (by omega) ?_
      intro v6 w6 ho6 hE6 hk6 _
      refine⟨.inr (hk6.mono fun b _ hb=>by have:=(ho4.ge hb).1;show _≤_;omega),?_⟩
      simp (disch:=first|omega|assumption|rfl) only[go_sem]
      refine hK _ _ ⟨rfl,rfl,(vq1 h5),(vq1 h4),(vq1 h0),(vq1 h3),hx0.trans (hE6 _ (hE4' _ (hE3.trans hE5) (Nat.le_refl _)) (Nat.le_refl _)),_,by simp only[go_sem];rfl,?_⟩
      exact ho6.mono hxs
    ·simp (disch:=first|omega|assumption|rfl) only[go_sem]
     refine zaT (zbj w0) rfl rfl rfl rfl hRr (by decide) ?_
     intro w5 hE5 hs5 ho5
     refine⟨.inr hE5.keep,?_⟩
     simp (disch:=first|omega|assumption|rfl) only[go_sem]
     refine zep (k:=7) (C:=RecAt w0) rfl rfl rfl rfl ?_
     intro w3 hE3 hs3 ho3
     refine⟨.inr hE3.keep,?_⟩
     simp (disch:=first|omega|assumption|rfl) only[go_sem]
     refine zaI (zbj w0) ho3 (hcutlo.ext ((hx0.trans hE5).trans hE3)) rfl rfl rfl rfl rfl rfl (by decide) (vr0) (vr0) (by simp;omega) (by decide) (by omega) ?_
     intro v4 w4 ho4 hE4' hk4 _
     refine⟨.inr (hk4.mono fun b _ hb=>by have:=(ho3.ge hb).1;show _≤_;omega),?_⟩
     have hE4'':=hE4' _ hE3 (Nat.le_refl _)
     have hs4:=hk4.size
     simp (disch:=first|omega|assumption|rfl) only[go_sem]
     refine zaI (zbj w0) ho4 (ho5.ext hE4'').rows rfl rfl rfl rfl rfl rfl (by decide) (vr0) (vr0) (by simp;omega) (by decide) (by omega) ?_
     intro v6 w6 ho6 hE6 hk6 _
     refine⟨.inr (hk6.mono fun b _ hb=>by have:=(ho4.ge hb).1;show _≤_;omega),?_⟩
     simp (disch:=first|omega|assumption|rfl) only[go_sem]
     refine hK _ _ ⟨rfl,rfl,(vq1 h5),(vq1 h4),(vq1 h0),(vq1 h3),hx0.trans (hE6 _ (hE5.trans hE4'') (by omega)),_,by simp only[go_sem];rfl,?_⟩
     exact ho6.mono (by omega)
   clear h5 h4 h0 h3
   rintro _ σ6 _ v6 ⟨rfl,rfl,h5,h4,h0,h3,hE6,xv,h6,hox⟩
   repeat refine c_r ?_
   refine rq ?_;intro gd K hgd hK
   try simp (disch:=first|omega|assumption|rfl) only[go_sem,h5,h4,h0,h3,h6,hk0,hk1]
   refine zaI (zbj w0) hox (hcuthi.ext hE6) rfl rfl rfl rfl rfl rfl (by decide) ((vq1 h6)) (vr0) (by simp;omega) (by decide) hE6.size ?_
   intro v7 w7 ho7 hE7 _ _
   have hE7':=hE7 _ hE6 (Nat.le_refl _)
   try simp only[go_sem]
   refine hK _ _ ?_;clear hK hgd;clear K;try clear gd
   repeat refine c_r ?_
   refine rg2 h4 hi1' ?_
   repeat refine c_r ?_
   exact⟨m - 1,by omega,rfl,i+1,v7,putC zaD minT r O,by omega,vq0,(vq1 h0),vq0,by rw[hput];exact ho7.mono hEA4.size,hf1.symm,hEA4.trans hE7',hn3,by rw[hput];simp;omega⟩
 ·intro hge
  simp only[decide_eq_false_iff_not]at hge
  have hiR:i=R.length:=by omega
  rw[hiR,List.take_length]at hOf
  repeat refine c_r ?_
  refine rg1 h3 ?_
  repeat refine c_r ?_
  refine rt1 h3 Tryz.ntmps75 ?_
  have hfin:O=zaP R:=hOf
  rw[←hfin]
  exact⟨hO,hEA⟩
def isL(o:Nm)(t:Int)(r:RecL):Bool:=decide (t=r.dat.ty) && decide (zaq o=zaq r.owner)
structure SetL where
 owner:Nm
 ty:Int
 ttl:Int
 data:List DatL
def mkS(r:RecL)(l:List RecL):SetL:=⟨r.owner,r.dat.ty,l.foldl (fun t x=>min t x.ttl) r.ttl,l.map RecL.dat⟩
def grpF:Nat→List RecL→List SetL
 |0,_=>[]
 |_,[]=>[]
 |n+1,r::l=>mkS r ((r::l).takeWhile (isL r.owner r.dat.ty))::grpF n ((r::l).dropWhile (isL r.owner r.dat.ty))
def grp(l:List RecL):List SetL:=grpF l.length l
theorem zgv(r:RecL):isL r.owner r.dat.ty r=true:=by simp[isL]
theorem zhk:∀(n m:Nat) (l:List RecL),l.length≤n→l.length≤m→grpF n l=grpF m l
 |0,0,_,_,_=>rfl
 |0,m+1,l,h,_=>by
  have:l=[]:=List.length_eq_zero_iff.1 (by omega)
  subst this;rfl
 |n+1,0,l,_,h=>by
  have:l=[]:=List.length_eq_zero_iff.1 (by omega)
  subst this;rfl
 |n+1,m+1,[],_,_=>rfl
 |n+1,m+1,r::l,h1,h2=>by
  simp only[List.length_cons]at h1 h2
  have hd:((r::l).dropWhile (isL r.owner r.dat.ty)).length≤l.length:=by
   rw[List.dropWhile_cons_of_pos (zgv r)]
   exact(List.dropWhile_sublist _).length_le
  simp only[grpF]
  rw[zhk n m _ (by omega) (by omega)]
theorem zgy(r:RecL)(l:List RecL):grp (r::l)=mkS r ((r::l).takeWhile (isL r.owner r.dat.ty))::grp ((r::l).dropWhile (isL r.owner r.dat.ty)):=by
 have hd:((r::l).dropWhile (isL r.owner r.dat.ty)).length≤l.length:=by
  rw[List.dropWhile_cons_of_pos (zgv r)]
  exact(List.dropWhile_sublist _).length_le
 unfold grp
 show grpF (l.length+1) (r::l)=_
 simp only[grpF]
 rw[zhk l.length ((r::l).dropWhile (isL r.owner r.dat.ty)).length _ hd (Nat.le_refl _)]
theorem zkY:grp []=[]:=rfl
theorem zfT{α:Type}{p:α→Bool}{l:List α}{n:Nat}(hn:n≤l.length)(h:∀j (hj:j<l.length),j<n→p l[j]=true)(hs:∀h:n<l.length,p l[n]=false):l.takeWhile p=l.take n∧l.dropWhile p=l.drop n:=by
 have h1:∀x∈l.take n,p x=true:=fun x hx=>by
  obtain⟨j,hj,rfl⟩:=List.getElem_of_mem hx
  rw[List.getElem_take]
  simp at hj
  exact h j (by omega) (by omega)
 constructor
 ·conv=>lhs;rw[←List.take_append_drop n l]
  rw[List.takeWhile_append_of_pos h1]
  by_cases hlt:n<l.length
  ·rw[List.drop_eq_getElem_cons hlt,List.takeWhile_cons_of_neg (by rw[hs hlt];exact Bool.false_ne_true),List.append_nil]
  ·rw[List.drop_eq_nil_of_le (by omega)];simp
 ·conv=>lhs;rw[←List.take_append_drop n l]
  rw[List.dropWhile_append_of_pos h1]
  by_cases hlt:n<l.length
  ·rw[List.drop_eq_getElem_cons hlt,List.dropWhile_cons_of_neg (by rw[hs hlt];exact Bool.false_ne_true)]
  ·rw[List.drop_eq_nil_of_le (by omega)];simp
def ofC(R:List RecL)(o:Nm)(t:Int):List RecL:=zaP (R.filter (isL o t))
theorem zho{β:Type}{cf:RecL→RecL→Int}{jn:RecL→RecL→RecL}{p:β→RecL}{Q:RecL→Prop}(hj:∀x r,Q x→Q r→cf x r=0→Q (jn x r)):∀(l:List β) (acc:List RecL),(∀x∈l,Q (p x))→(∀x∈acc,Q x)→∀x∈zck cf jn p l acc,Q x
 | [],_,_,h=>h
 |r::l,acc,hl,ha=>zho hj l _ (fun x hx=>hl x (List.mem_cons_of_mem _ hx)) (zdS (fun x hx h0=>hj x (p r) hx (hl r (List.mem_cons_self ..)) h0) (hl r (List.mem_cons_self ..)) ha)
theorem zbF{Q:RecL→Prop}(hQ:∀a b,Q a→Q (minT a b)){l:List RecL}(h:∀x∈l,Q x):∀x∈zaP l,Q x:=
 zho (fun x r hx _ _=>hQ x r hx) l [] h (fun x hx=>absurd hx (by simp))
theorem zcb:∀(l:List RecL),(zaP l).length≤l.length:=by
 have h1:∀(r:RecL) (O:List RecL),(putC zaD minT r O).length≤O.length+1:=fun r O=>by
  induction O with
  |nil=>simp[putC]
  |cons x O ih=>
   simp only[putC]
   split
   ·simp;omega
   ·split<;>simp
 have h2:∀(l acc:List RecL),(zck zaD minT (fun r=>r) l acc).length≤acc.length+l.length:=fun l=>by
  induction l with
  |nil=>intro acc;simp[zck]
  |cons r l ih=>
   intro acc
   have:=ih (putC zaD minT r acc)
   have:=h1 r acc
   show(zck zaD minT (fun r=>r) l (putC zaD minT r acc)).length≤_
   simp only[List.length_cons];omega
 intro l
 have h3:(zaP l).length≤([]:List RecL).length+l.length:=h2 l []
 simpa using h3
theorem ofC_is{R:List RecL}{o:Nm}{t:Int}:∀x∈ofC R o t,isL o t x=true:=by
 unfold ofC
 exact zbF (fun a b h=>h) (fun x hx=>(List.mem_filter.1 hx).2)
theorem zhn{l:List RecL}:∀(acc:List RecL),acc.Pairwise (fun a b=>zaD a b<0)→(zck zaD minT (fun r=>r) l acc).Pairwise (fun a b=>zaD a b<0):=by
 induction l with
 |nil=>exact fun acc h=>h
 |cons r l ih=>exact fun acc h=>ih _ (zce cpr_R zkT h)
abbrev zdI(R:List RecL):Prop:=R.Pairwise (fun a b=>zaD a b<0)
theorem zgG(l:List RecL):zdI (zaP l):=zhn [] List.Pairwise.nil
theorem putC_app{r:RecL}{O:List RecL}(h:∀x∈O,zaD x r<0):putC zaD minT r O=O++ [r]:=by
 induction O with
 |nil=>rfl
 |cons x O ih=>
  simp only[putC]
  rw[if_pos (h x (List.mem_cons_self ..)),ih (fun y hy=>h y (List.mem_cons_of_mem _ hy))];rfl
theorem zhC{R:List RecL}(h:zdI R):zaP R=R:=by
 have:∀(l acc:List RecL),zdI (acc++l)→zck zaD minT (fun r=>r) l acc=acc++l:=fun l=>by
  induction l with
  |nil=>intro acc _;simp[zck]
  |cons r l ih=>
   intro acc hs
   show zck zaD minT (fun r=>r) l (putC zaD minT r acc)=_
   have h1:=(List.pairwise_append.1 hs).2.2
   rw[putC_app (fun x hx=>h1 x hx r (List.mem_cons_self ..)),ih (acc++ [r]) (by simpa using hs)]
   simp
 exact this R [] h
theorem zei{R:List RecL}(h:zdI R)(o:Nm)(t:Int):ofC R o t=R.filter (isL o t):=zhC (h.filter _)
theorem grp_one{o:Nm}{t:Int}{r:RecL}{l:List RecL}(h:∀x∈r::l,isL o t x=true):grp (r::l)=[mkS r (r::l)]:=by
 have hr:=h r (List.mem_cons_self ..)
 simp only[isL,Bool.and_eq_true,decide_eq_true_eq]at hr
 have h2:∀x∈r::l,isL r.owner r.dat.ty x=true:=fun x hx=>by
  have:=h x hx
  simp only[isL,Bool.and_eq_true,decide_eq_true_eq]at this ⊢
  exact⟨hr.1.symm.trans this.1,hr.2.symm.trans this.2⟩
 obtain⟨e1,e2⟩:=zfT (p:=isL r.owner r.dat.ty) (l:=r::l) (n:=(r::l).length) (Nat.le_refl _) (fun j hj _=>h2 _ (List.getElem_mem hj)) (fun h=>absurd h (by omega))
 rw[zgy,e1,e2]
 rw[List.take_length,List.drop_length];rfl
def IterT{α:Type}(P:Program)(g:FuncId)(cap:Array Value)(W0:World)(n0:Nat)(C T:Nat→Prop)(own:Nat)(Pre:List α→α→Prop)(Full:List α→Prop)(enc:Nat→α→World→Array Value→Prop):Prop:=
 ∀(l:Nat) (J Jx:List α→World→Prop) (W:World),Ext W0 W→n0≤W.heap.size→
  (∀pre A B,J pre A→Keep (fun b=>span W.heap.size own b∨T b) A B→J pre B)→(∀pre A B,Jx pre A→Keep (fun b=>span W.heap.size own b∨T b) A B→Jx pre B)→
  (∀pre x A args,Pre pre x→J pre A→W.heap.size+own≤A.heap.size→KeepB n0 (fun b=>C b∨T b) W A→enc W.heap.size x A args→Yld P l args A (fun v B=>
   (v= .bool true∧J (pre++ [x]) B∧KeepB n0 C A B∧∀b,span W.heap.size own b→B.heap[b]? =A.heap[b]?)∨(v= .bool false∧Jx (pre++ [x]) B)))→
  J [] W→Fn P g (#[.func (.yield l) #[] #[]]++cap) W (fun _ B=>(∃xs,Full xs∧J xs B)∨∃pre x,Pre pre x∧Jx (pre++ [x]) B)
theorem W_rangeT{α:Type}{P:Program}{n:Nat}{f:Operand}{ps:Array Tmp}{assign body:Code}{Q:Post}{σ:Sto}{ds:List Deferred}{w:World}
  {g:FuncId} {cap:Array Value} {W0:World} {n0:Nat} {C T:Nat→Prop} {own:Nat} {Pre:List α→α→Prop} {Full:List α→Prop} {enc:Nat→α→World→Array Value→Prop}
  (hf:ev n σ f= .func (.func g) #[] cap) (hc:zaa P g=true) (hit:IterT P g cap W0 n0 C T own Pre Full enc) (hW0:Ext W0 w) (hn0:n0≤w.heap.size) (hCn:∀b,C b→b<w.heap.size) (hTn:∀b,T b→b<w.heap.size)
  (henc:∀x A args,enc (w.heap.size+2) x A args→args.size=ps.size)
  (I:List α→World→Prop) (Ix:Code→List α→World→Prop)
  (hI:∀pre A B,I pre A→Keep (fun b=>span w.heap.size (2+own) b∨T b) A B→I pre B)
  (hIx:∀c pre A B,Ix c pre A→Keep (fun b=>span w.heap.size (2+own) b∨T b) A B→Ix c pre B)
  (h0:I [] w)
  (hround:∀(l:Nat) (pre:List α) (x:α) (A:World) (args:Array Value),Pre pre x→w.heap.size+2+own≤A.heap.size→I pre A→enc (w.heap.size+2) x A args→
   W P (some l) n assign (zdO (fun σ1 ds1 A1=>ds1=[]∧KeepB (w.heap.size+2+own) C A A1∧∀A2,Keep (two w.heap.size) A1 A2→W P (some l) n body (zkf I Ix (w.heap.size+2+own) C (pre++ [x]) A2) σ1 [] A2) (fun _ _ _ _=>False))
    (zdB σ (ps.zip args).toList) [] A)
  (hdone:∀xs w',Full xs→w.heap.size+2≤w'.heap.size→I xs w'→w'.heap[w.heap.size]? =some (.deferred (some []))→Q .normal σ ({target:= .collected w.heap.size,args:=#[]}::ds) w')
  (hstop:∀c pre x w',w.heap.size+2≤w'.heap.size→Pre pre x→Ix c (pre++ [x]) w'→w'.heap[w.heap.size]? =some (.deferred (some []))→
   W P Option.none n c Q σ ({target:= .collected w.heap.size,args:=#[]}::ds) w'):
  W P Option.none n (.rangeFunc f ps assign body) Q σ ds w:=by
 refine wpIn_rangeFunc ?_
 intro fn _
 generalize hrec:zeH fn (act n σ ds).tmps ps assign body w.heap.size=rec
 obtain⟨W1,hW1⟩:∃W1,(w.alloc (.deferred (some []))).alloc (.loop (rec .ready Option.none))=W1:=⟨_,rfl⟩
 have hsz1:W1.heap.size=w.heap.size+2:=by rw[←hW1];simp
 have hL1:W1.heap[w.heap.size+1]? =some (.loop (rec .ready Option.none)):=by
  rw[←hW1];have:=World.alloc_heap_new (w.alloc (.deferred (some []))) (.loop (rec .ready Option.none));rwa [World.size_alloc]at this
 have hK1:W1.heap[w.heap.size]? =some (.deferred (some [])):=by
  rw[←hW1];exact(RowKit.Below.heap_alloc _ _ _ (by simp)).trans (World.alloc_heap_new w _)
 have hE1:Ext w W1:=by rw[←hW1];exact(Ext.alloc w _).trans (Ext.alloc _ _)
 have hI1:I [] W1:=hI _ _ _ h0 (hE1.mono (fun _ _ h=>h.elim))
 have hl2:two w.heap.size (w.heap.size+1):= .inr rfl
 have hl2':span w.heap.size (2+own) (w.heap.size+1):=by unfold span;omega
 refine⟨w.heap.size+1,[{target:= .collected w.heap.size,args:=#[]}],W1,{target:= .fn (.func g) cap,args:=#[.func (.yield (w.heap.size+1)) #[] #[]]},W1,g,
  #[.func (.yield (w.heap.size+1)) #[] #[]]++cap,W1,?_,?_,?_,?_,zdl,?_⟩
 ·rw[←hW1,←hrec];exact run_enterLoop_outer _ _ _ _ _
 ·simp only[resolve,zcq,hf]
  simp[Deferred.ofValue,ev]
 ·intro f' hf';trivial
 ·simp only[invoke];exact zcm hc
 ·-- the iterator's contract
  have hsp:∀{n:Nat} b,b<n→(span W1.heap.size own b∨T b)→(span w.heap.size (2+own) b∨T b):=fun b _ h=>h.imp (fun h=>by unfold span at*;omega) id
  have hno:∀b,two w.heap.size b→¬(span W1.heap.size own b∨T b):=fun b hb h=>by
   rcases h with h|h
   ·unfold span at h;unfold two at hb;omega
   ·have:=hTn _ h;unfold two at hb;omega
  have hCl:∀b,two w.heap.size b→¬C b:=fun b hb hcb=>by have:=hCn b hcb;rcases hb with rfl|rfl<;>omega
  refine zcP (CallsIn.mono (hit (w.heap.size+1)
   (fun pre B=>I pre B∧w.heap.size+2≤B.heap.size∧B.heap[w.heap.size+1]? =some (.loop (rec .ready Option.none))∧B.heap[w.heap.size]? =some (.deferred (some [])))
   (fun pre B=>∃c,Ix c pre B∧w.heap.size+2≤B.heap.size∧B.heap[w.heap.size+1]? =some (.loop (rec .done (some c)))∧B.heap[w.heap.size]? =some (.deferred (some [])))
   W1 (hW0.trans hE1) (by omega) ?_ ?_ ?_ ⟨hI1,by omega,hL1,hK1⟩) ?_)
  ·rintro pre A B ⟨hi,hs,hl,hk⟩ hAB
   exact⟨hI _ _ _ hi (hAB.mono hsp),Nat.le_trans hs hAB.size,(hAB.block _ (by omega) (hno _ hl2)).trans hl,(hAB.block _ (by omega) (hno _ (.inl rfl))).trans hk⟩
  ·rintro pre A B ⟨c,hi,hs,hl,hk⟩ hAB
   exact⟨c,hIx _ _ _ _ hi (hAB.mono hsp),Nat.le_trans hs hAB.size,(hAB.block _ (by omega) (hno _ hl2)).trans hl,(hAB.block _ (by omega) (hno _ (.inl rfl))).trans hk⟩
  ·-- one round
   rintro pre x A args hxs ⟨hi,hs,hl,hk⟩ hsA _ hx
   rw[hsz1]at hx
   have hy:=run_yield (P:=P) (args:=args) hl (by rw[←hrec];exact henc x A args hx)
   unfold Yld zgH
   dsimp only
   rw[show (#[]++args:Array Value)=args from by simp]
   rw[hy,←hrec]
   dsimp only[zeH,opR]
   refine zcI (r:=Option.none) (n:=0) (roundIn_of_wpIn (F:=fw Option.none) (n:=0) trivial ?_)
   have hin:(fw Option.none).inRound (w.heap.size+1)=fw (some (w.heap.size+1)):=rfl
   rw[hin]
   have hfold:(ps.zip args).foldl (fun t (x:Tmp×Value)=>t.setIfInBounds x.1 x.2) (act n σ ds).tmps=(act n (zdB σ (ps.zip args).toList) []).tmps:=by
    rw[←Array.foldl_toList]
    exact zcM n ds _ σ
   have hst:({tmps:=(ps.zip args).foldl (fun t (x:Tmp×Value)=>t.setIfInBounds x.1 x.2) (act n σ ds).tmps,defers:=[]}:Act)=act n (zdB σ (ps.zip args).toList) []:=by
    rw[hfold];rfl
   have hr:=hround (w.heap.size+1) pre x A args hxs (by omega) hi hx
   unfold W at hr
   rw[←hst]at hr
   refine wpIn_mono hr ?_
   rintro e a A1 ⟨σ1,ds1,rfl,hq⟩
   cases e with
   |normal=>
    obtain⟨rfl,hA1,hbody⟩:=hq
    have hlA1:A1.heap[w.heap.size+1]? =some (.loop (rec .ready Option.none)):=(hA1.block _ (by omega) (hCl _ hl2)).trans hl
    have hkA1:A1.heap[w.heap.size]? =some (.deferred (some [])):=(hA1.block _ (by omega) (hCl _ (.inl rfl))).trans hk
    have hlt1:w.heap.size+1<A1.heap.size:=(Array.getElem?_eq_some_iff.1 hlA1).1
    refine⟨_,run_beginRound hlA1 (by rw[←hrec];rfl),?_⟩
    have hb:=hbody _ (zaK (w:=A1) (r:=w.heap.size+1) (o:= .loop {rec .ready Option.none with state:= .busy}) hl2)
    refine wpIn_mono hb ?_
    have hlA2:(A1.putObj (w.heap.size+1) (.loop {rec .ready Option.none with state:= .busy})).heap[w.heap.size+1]? =some (.loop {rec .ready Option.none with state:= .busy}):=World.putObj_heap_same hlt1
    have hkA2:(A1.putObj (w.heap.size+1) (.loop {rec .ready Option.none with state:= .busy})).heap[w.heap.size]? =some (.deferred (some [])):=(World.putObj_heap_other (by omega)).trans hkA1
    have fin:∀(jump:Option Code) (B:World),KeepB (w.heap.size+2+own) C (A1.putObj (w.heap.size+1) (.loop {rec .ready Option.none with state:= .busy})) B→
      (Instr.endRound (w.heap.size+1) jump).run P B= .ok (.bool jump.isNone) (B.putObj (w.heap.size+1) (.loop (rec (if jump.isNone then .ready else .done) jump)))∧
      w.heap.size+2≤(B.putObj (w.heap.size+1) (.loop (rec (if jump.isNone then .ready else .done) jump))).heap.size∧
      (B.putObj (w.heap.size+1) (.loop (rec (if jump.isNone then .ready else .done) jump))).heap[w.heap.size+1]? =some (.loop (rec (if jump.isNone then .ready else .done) jump))∧
      (B.putObj (w.heap.size+1) (.loop (rec (if jump.isNone then .ready else .done) jump))).heap[w.heap.size]? =some (.deferred (some []))∧
      KeepB n0 C A (B.putObj (w.heap.size+1) (.loop (rec (if jump.isNone then .ready else .done) jump)))∧
      ∀b,span W1.heap.size own b→(B.putObj (w.heap.size+1) (.loop (rec (if jump.isNone then .ready else .done) jump))).heap[b]? =A.heap[b]?:=by
     intro jump B hB
     have hlB:=(hB.block _ (by omega) (hCl _ hl2)).trans hlA2
     have hkB:=(hB.block _ (by omega) (hCl _ (.inl rfl))).trans hkA2
     have hltB:w.heap.size+1<B.heap.size:=(Array.getElem?_eq_some_iff.1 hlB).1
     refine⟨?_,by simp;omega,World.putObj_heap_same hltB,(World.putObj_heap_other (by omega)).trans hkB,?_,?_⟩
     ·have:=run_endRound (P:=P) jump hlB
      rw[←hrec]at this ⊢
      exact this
     ·refine(hA1.mono (by omega) (fun _ _ h=>h)).trans (KeepB.trans ?_ ((hB.mono (by omega) (fun _ _ h=>h)).trans ?_))
      ·exact(zaK (S:=two w.heap.size) hl2).toB (by omega) (fun i hi hs=>by rcases hs with rfl|rfl<;>omega)
      ·exact(zaK (S:=two w.heap.size) hl2).toB (by omega) (fun i hi hs=>by rcases hs with rfl|rfl<;>omega)
     ·intro b hb
      unfold span at hb
      have hCb:¬C b:=fun h=>by have:=hCn b h;omega
      exact(World.putObj_heap_other (by omega)).trans ((hB.block b (by omega) hCb).trans ((World.putObj_heap_other (by omega)).trans (hA1.block b (by omega) hCb)))
    rintro e a B ⟨σ2,ds2,rfl,hq⟩
    cases e with
    |normal=>
     obtain⟨hi',hB⟩:=hq
     obtain⟨h1,h2,h3,h4,h5,h6⟩:=fin Option.none B hB
     exact⟨_,_,h1,_,rfl,.inl ⟨rfl,⟨hI _ _ _ hi' (zaK (.inl hl2')),h2,h3.trans (by rw[←hrec];rfl),h4⟩,h5,h6⟩⟩
    |ret=>
     obtain⟨hi',hB⟩:=hq
     obtain⟨h1,h2,h3,h4,h5,_⟩:=fin (some .ret) B hB
     exact⟨_,_,h1,_,rfl,.inr ⟨rfl,_,hIx _ _ _ _ hi' (zaK (.inl hl2')),h2,h3.trans (by rw[←hrec];rfl),h4⟩⟩
    |exit id=>
     obtain⟨hi',hB⟩:=hq
     obtain⟨h1,h2,h3,h4,h5,_⟩:=fin (some (.exit id)) B hB
     exact⟨_,_,h1,_,rfl,.inr ⟨rfl,_,hIx _ _ _ _ hi' (zaK (.inl hl2')),h2,h3.trans (by rw[←hrec];rfl),h4⟩⟩
    |goto t=>
     obtain⟨hi',hB⟩:=hq
     obtain⟨h1,h2,h3,h4,h5,_⟩:=fin (some (.goto t)) B hB
     exact⟨_,_,h1,_,rfl,.inr ⟨rfl,_,hIx _ _ _ _ hi' (zaK (.inl hl2')),h2,h3.trans (by rw[←hrec];rfl),h4⟩⟩
    |panic c=>exact hq.elim
    |outgrown=>exact hq.elim
   |ret=>exact hq.elim
   |exit id=>exact hq.elim
   |goto t=>exact hq.elim
   |panic c=>exact hq.elim
   |outgrown=>exact hq.elim
  ·rintro e B ⟨v,rfl,h⟩
   rcases h with ⟨xs,hfull,hi,hs,hl,hk⟩| ⟨pre,x,hxs,c,hi,hs,hl,hk⟩
   ·have hend:=run_endLoop (P:=P) hl (by rw[←hrec];simp[zeH])
    have hp:(rec LoopState.ready Option.none).pending=Option.none:=by rw[←hrec];rfl
    rw[hp]at hend
    refine⟨Option.none,_,hend,?_⟩
    exact⟨σ,_,rfl,hdone xs _ hfull (by simp;omega) (hI _ _ _ hi (zaK (.inl hl2'))) ((World.putObj_heap_other (by omega)).trans hk)⟩
   ·have hend:=run_endLoop (P:=P) hl (by rw[←hrec];simp[zeH])
    have hp:(rec LoopState.done (some c)).pending=some c:=by rw[←hrec];rfl
    rw[hp]at hend
    refine⟨some c,_,hend,?_⟩
    exact hstop c pre x _ (by simp;omega) hxs (hIx _ _ _ _ hi (zaK (.inl hl2'))) ((World.putObj_heap_other (by omega)).trans hk)
end Go.Proofs.YtopbbjdembnfdaaGreat
namespace Go.Proofs.YtopbbjdembnfdaaGreat.P_cd
open Go Go.Proofs.YtopbbjdembnfdaaGreat
set_option maxRecDepth 10000
theorem Clip_ok{w:World}{a:Option Addr}{n c:Nat}(hc:n≤c):Fn Tryz.prog 180 #[.slice a n c] w (fun u w'=>u= .slice a n n∧w'=w):=by
 refine enter Tryz.func180 Tryz.ntmps180 rfl rfl ?_
 repeat refine c_r ?_
 refine rg0 ?_
 repeat refine c_r ?_
 refine rq ?_;intro gd K hgd hK
 try simp only[go_sem]
 have hcl:slD Tryz.prog (some (TypeDesc.slice 59)) (Value.slice a n c) Option.none (some (Value.int IntKind.i64 ↑n)) (some (Value.int IntKind.i64 ↑n))=some (.slice a n n):=ze6 hc (by rfl)
 rw[hcl]
 try simp only[go_sem]
 refine hK _ _ ?_;clear hK hgd;clear K;try clear gd
 repeat refine c_r ?_
 refine rt0 Tryz.ntmps180 ?_
 exact⟨rfl,rfl⟩
end Go.Proofs.YtopbbjdembnfdaaGreat.P_cd
namespace Go.Proofs.YtopbbjdembnfdaaGreat
open Go
set_option maxRecDepth 10000
theorem is_ok(w:World)(ow tl dv:Value)(o:Nm)(t:Int)(cr:List Value)(r:RecL)(ho:Row w ow (o.map vs))(hr:RecAt w cr r)(hlo:LB o)(hlen:o.length≤1000000000000000)(hok:zbn r):
  Fn Tryz.prog 175 #[.agg #[ow,vi t,tl,dv],.agg cr.toArray] w (fun v w'=>v= .bool (isL o t r)∧Ext w w'):=by
 obtain⟨ow2,ds,rfl,a1,a2⟩:=hr.ex
 obtain⟨nm,nu,tx,rw',rfl,_⟩:=a2.ex
 refine enter Tryz.func175 Tryz.ntmps175 rfl rfl ?_
 repeat refine c_r ?_
 refine rg0 ?_
 repeat refine c_r ?_
 rw[zam]
 refine zaH ?_
 intro w1 hE1 hs1 hA hB
 have p0:zaf w1 (some ⟨w.heap.size,0,Option.none⟩)=some ow:=zac hA rfl
 have p1:zaf w1 (some ⟨w.heap.size,1,Option.none⟩)=some (vi t):=zac hA rfl
 have q0:zaf w1 (some ⟨w.heap.size+1,0,Option.none⟩)=some ow2:=zac hB rfl
 have q2:zaf w1 (some ⟨w.heap.size+1,2,Option.none⟩)=some (vi r.dat.ty):=zac hB rfl
 by_cases ht:t=r.dat.ty
 ·refine rq ?_;intro gd K hgd hK
  have hg6:∀n σ b,zas gd n σ (some (6,b))=zal (ev n σ (.tmp 11)) b:=(fun n σ b=>by rw[zad,show gd 6=some 11 from(by rw[hgd];rfl)];rfl)
  try simp (disch:=first|omega|assumption|rfl) only[go_sem,p0,p1,q0,q2,Nat.add_zero,decide_eq_true ht,↓hg6]
  refine Fn.mono (zdJ _ _ _ _ _ (ho.ext hE1) (a1.ext hE1) hlo hok.lb (by omega) (by have:=hok.len;omega)) ?_
  rintro _ w2 ⟨rfl,hE2⟩
  try simp only[go_sem]
  refine hK _ _ ?_;clear hK hgd;clear K;try clear gd
  repeat refine c_r ?_
  refine rt0 Tryz.ntmps175 ?_
  refine⟨?_,hE1.trans hE2⟩
  unfold isL
  rw[decide_eq_true ht,Bool.true_and]
 ·refine rq ?_;intro gd K hgd hK
  have hg6:∀n σ b,zas gd n σ (some (6,b))=zal (ev n σ (.tmp 11)) b:=(fun n σ b=>by rw[zad,show gd 6=some 11 from(by rw[hgd];rfl)];rfl)
  try simp (disch:=first|omega|assumption|rfl) only[go_sem,p0,p1,q0,q2,Nat.add_zero,decide_eq_false ht,↓hg6]
  refine hK _ _ ?_;clear hK hgd;clear K;try clear gd
  repeat refine c_r ?_
  refine rt0 Tryz.ntmps175 ?_
  refine⟨?_,hE1⟩
  unfold isL
  rw[decide_eq_false ht,Bool.false_and]
structure SetAt(w0:World)(B:Nat)(w:World)(cs:List Value)(s:SetL):Prop where
 ex:∃ow dv,cs=[ow,vi s.ty,v32 s.ttl,dv]∧Row w0 ow (s.owner.map vs)∧Rows 5 (DatAt w0) w dv s.data∧BlkB B w dv
def encS(w0:World)(B:Nat)(s:SetL)(A:World)(args:Array Value):Prop:=∃cs,args=#[.agg cs.toArray]∧SetAt w0 B A cs s
theorem zaR(w:World):zdb 5 (DatAt w):=by
 refine⟨fun h=>?_,fun h=>?_⟩
 ·obtain⟨nm,nu,tx,rw',rfl,_⟩:=h.ex;rfl
 ·obtain⟨nm,nu,tx,rw',rfl,⟨_,⟨o3,o4,rfl,_⟩,_⟩,⟨o5,o6,rfl,_⟩,⟨o7,o8,rfl,_⟩,⟨o9,o10,rfl,_⟩⟩:=h.ex
  intro q hq
  simp at hq
  rcases hq with rfl|rfl|rfl|rfl|rfl<;>rfl
theorem RecAt.cells{w0:World}{cs:List Value}{r:RecL}(h:RecAt w0 cs r):∃ow ds,cs=[ow,v32 r.ttl]++ds∧Row w0 ow (r.owner.map vs)∧DatAt w0 ds r.dat∧cs[0]? =some ow∧cs[1]? =some (v32 r.ttl)∧cs[2]? =some (vi r.dat.ty)∧cs.drop 2=ds:=by
 obtain⟨ow,ds,rfl,h1,h2⟩:=h.ex
 obtain⟨nm,nu,tx,rw',rfl,_⟩:=h2.ex
 exact⟨ow,_,rfl,h1,h2,rfl,rfl,rfl,rfl⟩
theorem setsIt{w0 W0:World}{C:Nat→Prop}{bl:Nat}{lv:Value}{R:List RecL}(hE0:Ext w0 W0)(hb:W0.heap[bl]? =some (.cells #[lv] 24 (0,0)))(hl:Rows 7 (RecAt w0) W0 lv R)(hbC:¬C bl)
  (hC0:∀b,(C b∨b=bl)→w0.heap.size≤b) (hlC:∀a n c,lv= .slice (some a) n c→¬C a.block∧a.block≠bl∧a.block<W0.heap.size) (hok:∀r∈R,zbn r) (hlen:R.length≤1000000000):
  IterT Tryz.prog 209 #[.pointer (some ⟨bl,0,Option.none⟩)] W0 W0.heap.size C (fun b=>b=bl) 0 (fun pre x=>∃suf,grp R=pre++x::suf) (fun l=>l=grp R) (encS w0):=by
 intro lp J Jx W hW hnW hJ hJx hY h0
 have hbn:bl<W0.heap.size:=(Array.getElem?_eq_some_iff.1 hb).1
 refine enter Tryz.func209 Tryz.ntmps209 rfl rfl ?_
 repeat refine c_r ?_
 refine zap (fun m σ ds v=>ds=[]∧∃(pre:List SetL) (p:Nat) (lv':Value),p+m=R.length∧grp R=pre++grp (R.drop p)∧σ 0= .func (.yield lp) #[] #[]∧σ 1= .pointer (some ⟨bl,0,Option.none⟩)∧
  v.heap[bl]? =some (.cells #[lv'] 24 (0,0))∧Rows 7 (RecAt w0) v lv' (R.drop p)∧(∀a n c,lv'= .slice (some a) n c→¬C a.block∧a.block≠bl∧a.block<W0.heap.size)∧J pre v∧KeepB W0.heap.size (fun b=>C b∨b=bl) W v∧Ext w0 v) R.length ?_ ?_
 ·exact⟨rfl,[],0,lv,by omega,rfl,vr0,vq0,hW.at hb,hl.ext hW,hlC,h0,KeepB.refl _ _ _,hE0.trans hW⟩
 rintro m σ ds v ⟨rfl,pre,p,lv',hpm,hgr,hs0,hs1,hbx,hrow,hlC',hj,hKB,hEv⟩
 obtain⟨aL,cL,rfl,hcL,hgL⟩:=hrow.open
 obtain⟨D,hD⟩:∃D,R.drop p=D:=⟨_,rfl⟩
 have hDl:D.length=R.length - p:=by rw[←hD];simp
 have hDok:∀r∈D,zbn r:=fun r hr=>hok r (List.drop_subset p R (hD▸hr))
 rw[hD]at hgr hbx hrow hlC' hcL
 simp only[hD]at hgL
 have hbc:zaf v (some ⟨bl,0,Option.none⟩)=some (.slice aL D.length cL):=zac hbx rfl
 repeat refine c_r ?_
 refine rg3 hs0 hs1 hbc ?_
 repeat refine c_r ?_
 refine wc0 ?_ ?_
 ·intro hlt
  simp only[decide_eq_true_eq]at hlt
  have hD0:0<D.length:=by omega
  obtain⟨r,hr⟩:∃r,D[0]=r:=⟨_,rfl⟩
  obtain⟨c0,hc0,hR0⟩:=hgL 0 hD0
  rw[hr]at hR0
  obtain⟨ow0,ds0,hcs0,o1,o2,g0,g1,g2,_⟩:=hR0.cells
  obtain⟨xL,rfl⟩:=Option.isSome_iff_exists.1 (zan hc0)
  rw[Nat.zero_mul,zak]at hc0
  obtain⟨xd,hxd⟩:∃xd,adr (some xL) 2=some xd:=⟨_,rfl⟩
  have cell:∀{j:Nat} {u:Value} (_:c0[j]? =some u) {x:World} (_:Ext v x),zaf x (adr (some xL) j)=some u:=fun {j u} hj {x} hx=>by
   obtain⟨hj1,hj2⟩:=List.getElem?_eq_some_iff.1 hj
   have:=zca (zae hx hc0) hj1
   rw[hj2]at this;exact this
  have hz:(0:Int)≤(0:Int):=by omega
  repeat refine c_r ?_
  refine zaN (fun i=>i==15) [(0,true),(1,true),(2,true),(3,true),(4,true),(5,true),(6,true),(7,true),(8,true),(9,true),(10,true),(11,true),(12,true),(13,true),(14,false),(15,false)] NoS mixed (by kernel_rfl) ?_;intro gd K x hgd hx hxe hK;clear hxe
  have hbc1:=zab hx hbc
  have e0:=cell g0 hx
  have e1:=cell g1 hx
  have e2:=cell g2 hx
  rw[zak]at e0
  rw[hxd]at e2
  simp (disch:=first|omega|assumption|rfl) only[go_sem,hs0,hs1,hbc1,hlt,hz,hxd,e0,e1,e2,Int.toNat_zero,Nat.zero_mul,zak]
  obtain⟨ao,no,co,rfl⟩:∃ao no co,ow0= .slice ao no co:=by
   obtain⟨a,c,h,_⟩:=o1
   exact⟨_,_,_,h⟩
  refine⟨by kernel_rfl,?_⟩
  rw[show bdV Tryz.prog 209 [(0,.slice ao no co),(1,vi r.dat.ty),(2,v32 r.ttl)]=some (.agg #[.slice ao no co,vi r.dat.ty,v32 r.ttl,.slice Option.none 0 0]) from by kernel_rfl]
  simp (disch:=first|omega|assumption|rfl) only[go_sem]
  refine⟨.inr (Ext.alloc x _),?_⟩
  have hB3:=zaw x (.cells #[.slice Option.none 0 0,vi 0,v32 0,.slice Option.none 0 0] 209 (0,0))
  have hE3:=Ext.alloc x (.cells #[.slice Option.none 0 0,vi 0,v32 0,.slice Option.none 0 0] 209 (0,0))
  have hs3:=zam x (.cells #[.slice Option.none 0 0,vi 0,v32 0,.slice Option.none 0 0] 209 (0,0))
  revert hB3 hE3 hs3
  generalize x.alloc (.cells #[.slice Option.none 0 0,vi 0,v32 0,.slice Option.none 0 0] 209 (0,0))=x1
  intro hB3 hE3 hs3
  refine zaE (P:=Tryz.prog) (t:=209) (l:=[.slice ao no co,vi r.dat.ty,v32 r.ttl,.slice Option.none 0 0]) hB3 rfl (fun v h=>by simp at h;rcases h with rfl|rfl|rfl|rfl<;>rfl) rfl rfl ?_
  intro x2 hs4 hB4 hk4
  refine⟨.inl rfl,?_⟩
  simp (disch:=first|omega|assumption|rfl) only[go_sem]
  refine hK _ _ ?_;clear hK hgd;clear K;try clear gd
  have hE2:Ext v x2:=Keep.to_ext (hx.trans hE3) rfl (fun b hb=>by have:=hx.size;omega) hk4
  have hsx:=hx.size
  have hx2:x2.heap.size=x.heap.size+1:=by omega
  obtain⟨b3,hb3⟩:∃b3,x.heap.size=b3:=⟨_,rfl⟩
  rw[hb3]at hB4 hsx hx2 ⊢
  clear hk4 hs4 hB3 hE3 hs3
  clear e0 e1 e2 hbc1 hx hb3
  clear x1 x
  repeat refine c_r ?_
  refine rg0 ?_
  repeat refine c_r ?_
  refine zap (fun m2 σ ds v3=>ds=[]∧∃(n:Nat) (tl:Int) (dv:Value),n+m2=D.length∧σ 4=vi n∧σ 0= .func (.yield lp) #[] #[]∧σ 1= .pointer (some ⟨bl,0,Option.none⟩)∧σ 3= .pointer (some ⟨b3,0,Option.none⟩)∧
   v3.heap[b3]? =some (.cells [.slice ao no co,vi r.dat.ty,v32 tl,dv].toArray 209 (0,0))∧tl=(D.take n).foldl (fun t x=>min t x.ttl) r.ttl∧Owns 5 (DatAt w0) x2.heap.size v3 59 dv ((D.take n).map RecL.dat)∧Ext v v3∧x2.heap.size≤v3.heap.size∧
   ∀j (h:j<D.length),j<n→isL r.owner r.dat.ty D[j]=true) D.length ?_ ?_
  ·exact⟨rfl,0,r.ttl,.slice Option.none 0 0,by omega,vr0,(vq1 hs0),(vq1 hs1),vq0,hB4,rfl,Owns.nil _ _ _ _ _,hE2,Nat.le_refl _,fun j h hj=>absurd hj (by omega)⟩
  rintro m2 σ ds v3 ⟨rfl,n,tl,dv,hnm,t4,t0,t1,t3,hB,htl,hdv,hE3,hs3,hlow⟩
  repeat refine c_r ?_
  have hcur:∀{x:World},Ext v x→zaf x (some ⟨bl,0,Option.none⟩)=some (.slice (some xL) D.length cL):=fun hx=>zab hx hbc
  have hb3v:v.heap.size≤b3:=hsx
  have hEw3:=hEv.trans hE3
  refine zaC (Q:=fun e σ' ds' v'=>e= .normal∧ds'=[]∧σ' 4=vi n∧σ' 0= .func (.yield lp) #[] #[]∧σ' 1= .pointer (some ⟨bl,0,Option.none⟩)∧σ' 3= .pointer (some ⟨b3,0,Option.none⟩)∧Ext v3 v'∧σ' 33= .bool (tst D n (isL r.owner r.dat.ty))) ?_ ?_
  ·by_cases hk:n<D.length
   ·rw[zdL hk]
    obtain⟨cn,hcn,hRn⟩:=hgL n hk
    have hkd:decide ((n:Int)<(D.length:Int))=true:=decide_eq_true (by omega)
    have hk0:(0:Int)≤(n:Int):=by omega
    have hk1:(n:Int)<(D.length:Int):=by omega
    refine zaN (fun _=>false) [(0,true),(1,true),(2,true),(3,true),(4,true),(5,true),(6,true),(7,true),(8,true),(9,true),(10,false),(11,true)] NoS mixed (by kernel_rfl) ?_;intro gd K x hgd hx hxe hK;clear hxe
    have hg4:∀n σ b,zas gd n σ (some (4,b))=zal (ev n σ (.tmp 26)) b:=(fun n σ b=>by rw[zad,show gd 4=some 26 from(by rw[hgd];rfl)];rfl)
    have d1:=zae (hE3.trans hx) hcn
    have d2:=hcur (hE3.trans hx)
    have d3:=zah (n:=4) (Ext.at hx hB) rfl
    simp (disch:=first|omega|assumption|rfl) only[go_sem,t4,t0,t1,t3,hkd,decide_true,hk0,hk1,d1,d2,d3,↓hg4]
    refine Fn.mono (is_ok x _ _ _ r.owner r.dat.ty cn D[n] (o1.ext (hEw3.trans hx)) (hRn.ext (hEw3.trans hx)) (hr▸(hDok _ (List.getElem_mem hD0)).lb) (hr▸(hDok _ (List.getElem_mem hD0)).len) (hDok _ (List.getElem_mem hk))) ?_
    rintro _ y ⟨rfl,hy⟩
    refine⟨.inr hy,?_⟩
    simp (disch:=first|omega|assumption|rfl) only[go_sem,↓hg4]
    refine hK _ _ ?_;clear hK hgd;clear K;try clear gd
    exact⟨rfl,rfl,(vq1 t4),(vq1 t0),by simp only[go_sem,t1],(vq1 t3),hx.trans hy,vq0⟩
   ·rw[zea hk]
    have hkd:decide ((n:Int)<(D.length:Int))=false:=decide_eq_false (by omega)
    refine zaN (fun _=>false) [(0,true),(1,true),(2,true),(3,true),(4,true),(5,true),(6,true),(7,true),(8,true),(9,true),(10,false),(11,true)] NoS mixed (by kernel_rfl) ?_;intro gd K x hgd hx hxe hK;clear hxe
    have hg4:∀n σ b,zas gd n σ (some (4,b))=zal (ev n σ (.tmp 26)) b:=(fun n σ b=>by rw[zad,show gd 4=some 26 from(by rw[hgd];rfl)];rfl)
    have d2:=hcur (hE3.trans hx)
    simp (disch:=first|omega|assumption|rfl) only[go_sem,t4,t0,t1,t3,hkd,d2,↓hg4]
    refine hK _ _ ?_;clear hK hgd;clear K;try clear gd
    exact⟨rfl,rfl,(vq1 t4),(vq1 t0),by simp only[go_sem,t1],(vq1 t3),hx,vq0⟩
  clear t4 t0 t1 t3
  rintro _ σ1 _ v4 ⟨rfl,rfl,t4,t0,t1,t3,hE4,t33⟩
  have hB4':=hE4.at hB
  have hdv4:=hdv.ext hE4
  have hE34:=hE3.trans hE4
  have hs34:x2.heap.size≤v4.heap.size:=Nat.le_trans hs3 hE4.size
  clear hB hdv hEw3
  repeat refine c_r ?_
  refine zaB (t:=tst D n (isL r.owner r.dat.ty)) ((vq1 t33)) ?_ ?_
  ·intro ht
   have hk:n<D.length:=Classical.byContradiction fun h=>by rw[zea h]at ht;cases ht
   rw[zdL hk]at ht
   have hk0:(0:Int)≤(n:Int):=by omega
   have hk1:(n:Int)<(D.length:Int):=by omega
   have hk1':(n:Int)+1=((n+1:Nat):Int):=by push_cast;rfl
   obtain⟨cn,hcn,hRn⟩:=hgL n hk
   obtain⟨_,dsn,_,_,n2,_,gn1,_,gnd⟩:=hRn.cells
   obtain⟨xn,hxn⟩:∃xn,adr (some xL) (n*7)=some xn:=⟨_,rfl⟩
   rw[hxn]at hcn
   have f1:zaf v (adr (some xn) 1)=some (v32 D[n].ttl):=by
    obtain⟨hj1,hj2⟩:=List.getElem?_eq_some_iff.1 gn1
    have:=zca hcn hj1
    rw[hj2]at this;exact this
   have f2:zat v (adr (some xn) 2) 5=some dsn:=by
    have:=za9 (m:=2) (k:=5) hcn
    rwa [gnd]at this
   repeat refine c_r ?_
   refine zaN (fun i=>i==9) [(0,true),(1,true),(2,true),(3,true),(4,true),(5,true),(6,true),(7,false),(8,true),(9,false)] NoS mixed (by kernel_rfl) ?_;intro gd K x hgd hx hxe hK;clear hxe
   have d1:=zab (hE34.trans hx) f1
   have d2:=hcur (hE34.trans hx)
   have d3:zaf x (some ⟨b3,2,Option.none⟩)=some (v32 tl):=zcl (Ext.at hx hB4') rfl
   simp (disch:=first|omega|assumption|rfl) only[go_sem,t4,t0,t1,t3,hk0,hk1,hxn,d1,d2,d3,Nat.zero_add]
   refine zkw (vr0) (vr0) ?_
   refine⟨.inr (Keep.refl _ _),?_⟩
   simp (disch:=first|omega|assumption|rfl) only[go_sem,t3,Nat.zero_add]
   refine zaV (P:=Tryz.prog) (t:=108) (j:=2) (Ext.at hx hB4') (by simp) rfl rfl rfl ?_
   intro v5 hs5 hB5 hk5
   refine⟨.inl rfl,?_⟩
   simp (disch:=first|omega|assumption|rfl) only[go_sem]
   refine hK _ _ ?_;clear hK hgd;clear K;try clear gd
   have hE5:Ext v v5:=Keep.to_ext (hE34.trans hx) rfl (fun i hi=>by omega) hk5
   have hdv5:=(hdv4.ext hx).keep hk5 (fun b hb hb2=>by have:=(hdv4.ge hb).1;omega)
   have hs5':x2.heap.size≤v5.heap.size:=by have:=hx.size;omega
   clear hk5 hs5 d1 d2 d3 hx x hdv4 hB4' hE4 hE34
   repeat refine c_r ?_
   have hb3x:b3<x2.heap.size:=by omega
   have hxb:xn.block<x2.heap.size:=by
    have h1:=zeU f2 (by decide) (a:=xn.add 2) rfl
    rw[zbm]at h1;omega
   have hbl2:bl<x2.heap.size:=by have:=(Array.getElem?_eq_some_iff.1 hbx).1;omega
   refine zaN (fun i=>i==10) [(0,true),(1,true),(2,true),(3,true),(4,true),(5,true),(6,true),(7,false),(8,false),(9,true),(10,false)] (zbB x2.heap.size) mixed (by kernel_rfl) ?_;intro gd K x hgd hx hxe hK;have hx0:=zfM hxe;clear hxe
   have d1:=zae (hE5.trans hx0) f2
   have d2:=hcur (hE5.trans hx0)
   have d3:zaf x (some ⟨b3,3,Option.none⟩)=some dv:=zcl (Ext.at hx0 hB5) rfl
   simp (disch:=first|omega|assumption|rfl) only[go_sem,t4,t0,t1,t3,hk0,hk1,hxn,d1,d2,d3,Nat.zero_add]
   refine⟨zco hb3x,zco hbl2,zkA hxb,?_⟩
   refine zaT (zaR w0) (by rfl) (by rfl) (by rfl) (by rfl) n2 (by decide) ?_
   intro y1 hy1 hys1 hyo
   refine⟨.inr hy1.keep,?_⟩
   simp (disch:=first|omega|assumption|rfl) only[go_sem]
   have hsx1:=hx.size
   refine zaI (zaR w0) ((hdv5.ext hx0).ext hy1) hyo.rows (by rfl) (by rfl) (by rfl) (by rfl) (by rfl) (by rfl) (by decide) (vr0) (vr0) (by simp;omega) (by decide) (by omega) ?_
   intro dv' y2 hdv6 hy2 hky2 _
   refine⟨.inr (hky2.mono fun b _ hb=>by have:=(hdv5.ge hb).1;show _≤_;omega),?_⟩
   have hE6:=hy2 v ((hE5.trans hx0).trans hy1) (by omega)
   have hB6:=(hky2.block b3 (by omega) (fun hb=>by have:=(hdv5.ge hb).1;omega)).trans (Ext.at (hx0.trans hy1) hB5)
   simp (disch:=first|omega|assumption|rfl) only[go_sem,t3,Nat.zero_add]
   refine zaV (P:=Tryz.prog) (t:=28) (j:=3) hB6 (by simp) (by
    obtain⟨a9,c9,h9,_⟩:=hdv6.rows.open
    rw[h9];rfl) rfl rfl ?_
   intro v6 hs6 hB7 hk6
   refine⟨.inl rfl,?_⟩
   simp (disch:=first|omega|assumption|rfl) only[go_sem]
   refine hK _ _ ?_;clear hK hgd;clear K;try clear gd
   repeat refine c_r ?_
   refine rg2 t4 hk1' ?_
   repeat refine c_r ?_
   have hE7:Ext v v6:=Keep.to_ext hE6 rfl (fun i hi=>by omega) hk6
   have hsy:=hky2.size
   have htk:=zao hk
   refine⟨m2 - 1,by omega,rfl,n+1,min tl D[n].ttl,dv',by omega,vq0,(vq1 t0),by simp only[go_sem,t1],(vq1 t3),by simpa using hB7,by rw[htk,List.foldl_append,htl];rfl,?_,hE7,by omega,fun j hj hjn=>?_⟩
   ·rw[htk,List.map_append]
    exact hdv6.keep hk6 (fun b hb hb2=>by have:=(hdv6.ge hb).1;omega)
   ·by_cases hjn2:j=n
    ·subst hjn2;exact ht
    ·exact hlow j hj (by omega)
  ·intro ht
   have hstop:∀h:n<D.length,isL r.owner r.dat.ty D[n]=false:=fun h=>by rw[zdL h]at ht;exact ht
   obtain⟨etw,edw⟩:=zfT (p:=isL r.owner r.dat.ty) (l:=D) (n:=n) (by omega) hlow hstop
   have hn0:0<n:=by
    rcases Nat.eq_zero_or_pos n with h|h
    ·subst h
     have:=hstop hD0
     rw[hr,zgv]at this;cases this
    ·exact h
   have hDr:grp D=mkS r (D.take n)::grp (D.drop n):=by
    have hc:D=r::D.tail:=by
     cases D with
     |nil=>simp at hD0
     |cons y l=>rw[←hr];rfl
    rw[hc,zgy,←hc,etw,edw]
   obtain⟨aD,cD,hdvE,hcD,_⟩:=hdv4.rows.open
   have hDn:((D.take n).map RecL.dat).length=n:=by simp;omega
   rw[hDn]at hdvE hcD
   rw[hdvE]at hB4' hdv4
   have d3:zaf v4 (some ⟨b3,3,Option.none⟩)=some (.slice aD n cD):=zcl hB4' rfl
   repeat refine c_r ?_
   refine rq ?_;intro gd K hgd hK
   try simp (disch:=first|omega|assumption|rfl) only[go_sem,t3,d3,Nat.zero_add]
   refine Fn.mono (P_cd.Clip_ok hcD) ?_
   rintro _ y0 ⟨rfl,hy0⟩
   try simp (disch:=first|omega|assumption|rfl) only[go_sem,t3,Nat.zero_add]
   rw[hy0]
   clear hy0 y0
   refine zaV (P:=Tryz.prog) (t:=28) (j:=3) hB4' (by simp) rfl rfl rfl ?_
   intro v5 hs5 hB5 hk5
   try simp only[go_sem]
   refine hK _ _ ?_;clear hK hgd;clear K;try clear gd
   have hE5:Ext v v5:=Keep.to_ext hE34 rfl (fun i hi=>by omega) hk5
   have hdv5:=hdv4.keep hk5 (fun b hb hb2=>by have:=(hdv4.ge hb).1;omega)
   have hrow5:=hdv5.rows.take (m:=n) (c2:=n) (Nat.le_refl _) (Nat.le_refl _)
   rw[List.take_of_length_le (by omega)]at hrow5
   have hblk5:BlkB W.heap.size v5 (.slice aD n n):=(hdv5.blk.same).mono (by have:=hKB.size;omega)
   have hP:=hlC' xL _ _ rfl
   have hj5:=hJ pre v v5 hj (hE5.mono (fun _ _ h=>h.elim))
   have hK5:KeepB W0.heap.size (fun b=>C b∨b=bl) W v5:=hKB.trans (hE5.toB (by have:=hKB.size;omega) (fun _ _ h=>h.elim))
   have hsuf:∃suf,grp R=pre++mkS r (D.take n)::suf:=⟨_,by rw[hgr,hDr]⟩
   have hrow4:=hrow.ext hE5
   have hbx5:=Ext.at hE5 hbx
   have hEv5:=hEv.trans hE5
   clear hk5 hs5 d3 hE34 hE4 hE3 hdv4 hdv5 hB4' hlow t33
   repeat refine c_r ?_
   refine rq ?_;intro gd K hgd hK
   have d4:=zah (n:=4) hB5 rfl
   try simp (disch:=first|omega|assumption|rfl) only[go_sem,t4,t0,t1,t3,d4]
   refine Yld.mono (hY pre (mkS r (D.take n)) v5 _ hsuf hj5 (by have:=hK5.size;omega) hK5 ⟨_,rfl,⟨_,_,by rw[htl];rfl,o1,hrow5,hblk5⟩⟩) ?_
   have hbC2:¬(C bl):=hbC
   rintro u x ((⟨rfl,hj',hk',_⟩)| ⟨rfl,hjx⟩)
   ·try simp only[go_sem]
    refine hK _ _ ?_;clear hK hgd;clear K;try clear gd
    repeat refine c_r ?_
    refine wc0 ?_ ?_
    ·intro h;simp at h
    intro _
    have hx1:x.heap[bl]? =some (.cells #[.slice (some xL) D.length cL] 24 (0,0)):=(hk'.block bl hbn hbC).trans hbx5
    have hx2:zaf x (some ⟨bl,0,Option.none⟩)=some (.slice (some xL) D.length cL):=zac hx1 rfl
    have hn1:(0:Int)≤(n:Int):=by omega
    have hn2:(n:Int)≤(D.length:Int):=by omega
    repeat refine c_r ?_
    refine rq ?_;intro gd K hgd hK
    try simp (disch:=first|omega|assumption|rfl) only[go_sem,t4,t1,hx2,hn1,hn2]
    refine zaV (P:=Tryz.prog) (t:=24) (j:=0) (l:=[.slice (some xL) D.length cL]) hx1 (by simp) rfl rfl rfl ?_
    intro x3 hs7 hB7 hk7
    try simp only[go_sem]
    refine hK _ _ ?_;clear hK hgd;clear K;try clear gd
    repeat refine c_r ?_
    have hKx:KeepB W0.heap.size (fun b=>C b∨b=bl) W x3:=(hK5.trans (hk'.mono (Nat.le_refl _) (fun _ _ h=> .inl h))).trans (hk7.toB (by have:=hK5.size;have:=hk'.size;omega) (fun i _ h=> .inr h))
    refine⟨m - n,by omega,rfl,pre++ [mkS r (D.take n)],p+n,.slice (if cL=n then some xL else adr (some xL) (n*7)) (D.length - n) (cL - n),by omega,?_,(vq1 t0),by simp only[go_sem,t1],by simpa using hB7,?_,fun a n' c' hv=>?_,hJ _ _ _ hj' (hk7.mono (fun _ _ h=> .inr h)),hKx,?_⟩
    ·rw[hgr,hDr,←hD,List.drop_drop];simp
    ·rw[←List.drop_drop,hD]
     have h1:Rows 7 (RecAt w0) x3 (.slice (some xL) D.length cL) D:=hrow4.blocks fun a n' c' hv=>by
      injection hv with e1
      injection e1 with e1
      subst e1
      exact(hk7.block _ (by have:=hk'.size;have:=hK5.size;omega) hP.2.1).trans (hk'.block _ hP.2.2 hP.1)
     exact h1.drop (by omega)
    ·injection hv with e1
     rw[zj0 e1];exact hP
    ·exact⟨(hKx.os.trans hKB.os.symm).trans hEv.os,(hKx.tape.trans hKB.tape.symm).trans hEv.tape,(hKx.output.trans hKB.output.symm).trans hEv.output,by have:=hKx.size;have:=hE0.size;omega,fun b hb h=>by
      have:=(hC0 b)
      rw[hKx.block b (by have:=hE0.size;omega) (fun h=>by have:=hC0 b h;omega)]
      exact(hE0.trans hW).block b hb (fun h=>h),by have h1:=(hE0.trans hW).drawn;have h2:=hKx.drawn;exact Nat.le_trans h1 h2⟩
   ·try simp only[go_sem]
    refine hK _ _ ?_;clear hK hgd;clear K;try clear gd
    repeat refine c_r ?_
    refine wc0 ?_ ?_
    ·intro _
     repeat refine c_r ?_
     refine zaJ (by simp) rfl (.inr ⟨_,_,hsuf,hjx⟩)
    ·intro h;simp at h
 ·intro hge
  simp only[decide_eq_false_iff_not]at hge
  have hDe:D=[]:=List.length_eq_zero_iff.1 (by omega)
  rw[hDe,zkY,List.append_nil]at hgr
  repeat refine c_r ?_
  refine zaJ (by simp) rfl (.inl ⟨_,rfl,hgr▸hj⟩)
theorem zdt{P:Program}{w:World}{f:Option Nat}{n:Nat}{c:Code}{Q:Post}{σ:Sto}{ds:List Deferred}{A B C:Obj}(h:∀w1,Ext w w1→w1.heap.size=w.heap.size+3→w1.heap[w.heap.size]? =some A→w1.heap[w.heap.size+1]? =some B→w1.heap[w.heap.size+1+1]? =some C→W P f n c Q σ ds w1):W P f n c Q σ ds (((w.alloc A).alloc B).alloc C):=by
 obtain⟨h1,h2,h3,h4,h5⟩:=zfy w A B C
 exact h _ h1 h2 h3 h4 h5
section
variable {P : Program} {n : Nat} {σ : Sto} {w : World} {l : List ResultVar} {r : List Value}
theorem zau:resV P n σ w []=some []:=rfl
theorem zar{t:Tmp}{v:Value}(hv:ev n σ (.tmp t)=v)(h:resV P n σ w l=some r):resV P n σ w (.tmp t::l)=some (v::r):=by
 unfold resV
 rw[h,←hv];rfl
theorem zaL{a:Tmp}{t:TypeId}{x:Addr}{k:Nat}{cs:List Value}(hv:ev n σ (.tmp a)= .pointer (some x))(hA:tyA P t=true)(hk:tyS P t=k)(hc:zat w (some x) k=some cs)(h:resV P n σ w l=some r):resV P n σ w (.cell a t::l)=some (.agg cs.toArray::r):=by
 subst hk
 unfold resV
 rw[show (if a<n then σ a else undef)= .pointer (some x) from hv]
 have:ldV P w t x=some (.agg cs.toArray):=by
  unfold ldV
  rw[hA,cond_true,show zaS w x 0 (tyS P t)=some cs from hc];rfl
 simp only[this,h]
theorem zgj{a:Tmp}{t:TypeId}{x:Addr}{v:Value}(hv:ev n σ (.tmp a)= .pointer (some x))(hA:tyA P t=false)(hU:(tyU P t).isSome=true)(hc:zaf w (some x)=some v)(h:resV P n σ w l=some r):resV P n σ w (.cell a t::l)=some (v::r):=by
 unfold resV
 rw[show (if a<n then σ a else undef)= .pointer (some x) from hv]
 have:ldV P w t x=some v:=by
  unfold ldV
  rw[hA,cond_false,hU,cond_true];exact hc
 simp only[this,h]
theorem zay{fn:Func}{R:Value→World→Prop}{e:Exit}(he:e= .normal∨e= .ret)(hm:fn.ntmps=n){rs:List ResultVar}(hl:fn.results.toList=rs)(hr:resV P n σ w rs=some r)(h:R (resT r) w):retQ P fn R e σ [] w:=by
 subst hm hl
 exact⟨he,trivial,r,hr,h⟩
theorem zbW{fn:Func}{R:Value→World→Prop}{e:Exit}{D:Nat}(he:e= .normal∨e= .ret)(hm:fn.ntmps=n){rs:List ResultVar}(hl:fn.results.toList=rs)(hD:w.heap[D]? =some (.deferred (some [])))
  (h:∀w',Keep (fun b=>b=D) w w'→w'.heap.size=w.heap.size→∃r,resV P n σ w' rs=some r∧R (resT r) w'):retQ P fn R e σ [{target:= .collected D,args:=#[]}] w:=by
 subst hm hl
 obtain⟨r,h1,h2⟩:=h (w.putObj D (.deferred Option.none)) (zaK rfl) (by simp)
 exact⟨he,⟨D,rfl,hD,trivial⟩,r,h1,h2⟩
end
theorem sets_ok{w0 w:World}(hE0:Ext w0 w){lv:Value}{R:List RecL}(hl:Rows 7 (RecAt w0) w lv R):
  Fn Tryz.prog 176 #[lv] w (fun v w'=>v= .func (.func 209) #[] #[.pointer (some ⟨w.heap.size,0,Option.none⟩)]∧Ext w w'∧w'.heap.size=w.heap.size+1∧w'.heap[w.heap.size]? =some (.cells #[lv] 24 (0,0))):=by
 refine enter Tryz.func176 Tryz.ntmps176 rfl rfl ?_
 repeat refine c_r ?_
 obtain⟨a,n,c,rfl⟩:∃a n c,lv= .slice a n c:=by
  obtain⟨a,c,h,_⟩:=hl.open
  exact⟨a,_,c,h⟩
 refine rg0 ?_
 repeat refine c_r ?_
 refine rg0 ?_
 repeat refine c_r ?_
 refine rt0 Tryz.ntmps176 ?_
 exact⟨rfl,Ext.alloc _ _,zam _ _,zaw _ _⟩
theorem zc2{w0 w x:World}{n0:Nat}{C:Nat→Prop}(hE:Ext w0 w)(hk:KeepB n0 C w x)(hn:w0.heap.size≤n0)(hC:∀b,C b→w0.heap.size≤b):Ext w0 x:=
 ⟨hk.os.trans hE.os,hk.tape.trans hE.tape,hk.output.trans hE.output,Nat.le_trans hE.size hk.size,fun b hb h=>by
  rw[hk.block b (by omega) (fun h=>by have:=hC b h;omega)]
  exact hE.block b hb (fun h=>h),Nat.le_trans hE.drawn hk.drawn⟩
theorem Of_ok{w0 w:World}(hE0:Ext w0 w){lv ov:Value}{R:List RecL}{o:Nm}{t:Int}(hl:Rows 7 (RecAt w0) w lv R)(ho:Row w ov (o.map vs))(hlo:LB o)(hol:o.length≤1000000000000000)(hok:∀r∈R,zbn r)(hlen:R.length≤1000000000):
  Fn Tryz.prog 128 #[lv,ov,vi t] w (fun v w'=>Ext w w'∧∃ow ty tl dv,v= .tuple #[.agg #[ow,vi ty,v32 tl,dv],.bool (decide (ofC R o t≠ []))]∧one ow=true∧(ofC R o t≠ []→ty=t)∧Rows 5 (DatAt w0) w' dv ((ofC R o t).map RecL.dat)∧BlkB w.heap.size w' dv):=by
 obtain⟨aR,cR,rfl,hcR,hgR⟩:=hl.open
 refine enter Tryz.func128 Tryz.ntmps128 rfl rfl ?_
 repeat refine c_r ?_
 refine rg0 ?_
 repeat refine c_r ?_
 rw[zam]
 refine zaH ?_
 intro w1 hE1 hs1 hA hB
 refine rg0 ?_
 repeat refine c_r ?_
 refine rg0 ?_
 repeat refine c_r ?_
 refine zap (fun m σ ds A=>ds=[]∧∃(i:Nat) (mv:Value),i+m=R.length∧σ 14=vi i∧σ 12= .slice aR R.length cR∧σ 13=vi R.length∧σ 8=mv∧σ 1=ov∧σ 2=vi t∧σ 6= .pointer (some ⟨w.heap.size,0,Option.none⟩)∧σ 7= .pointer (some ⟨w.heap.size+1,0,Option.none⟩)∧
  Owns 7 (RecAt w0) w1.heap.size A 110 mv ((R.take i).filter (isL o t))∧Ext w1 A) R.length ?_ ?_
 ·exact⟨rfl,0,.slice Option.none 0 0,by omega,vr0,vq0,vq0,vq0,vq0,vq0,vq0,vq0,Owns.nil _ _ _ _ _,Keep.refl _ _⟩
 rintro m σ ds A ⟨rfl,i,mv,him,h14,h12,h13,h8,h1,h2,h6,h7,hmv,hEA⟩
 have hEwA:=hE1.trans hEA
 repeat refine c_r ?_
 refine rg2 h14 h13 ?_
 repeat refine c_r ?_
 refine wc0 ?_ ?_
 ·intro hlt
  simp only[decide_eq_true_eq]at hlt
  have hiR:i<R.length:=by omega
  have hi0:(0:Int)≤(i:Int):=by omega
  have hi1:(i:Int)<(R.length:Int):=by omega
  have hi1':(i:Int)+1=((i+1:Nat):Int):=by push_cast;rfl
  obtain⟨cr,hcr,hRr⟩:=hgR i hiR
  obtain⟨r,hr⟩:∃r,R[i]=r:=⟨_,rfl⟩
  rw[hr]at hRr
  have hrok:zbn r:=hr▸hok _ (List.getElem_mem hiR)
  obtain⟨xR,rfl⟩:=Option.isSome_iff_exists.1 (zan hcr)
  have hcrA:=zae hEwA hcr
  have hfl:(R.take (i+1)).filter (isL o t)=(R.take i).filter (isL o t)++(if isL o t r then [r] else []):=by
   rw[zao hiR,hr,List.filter_append]
   congr 1
   by_cases h:isL o t r=true<;>simp[h]
  repeat refine c_r ?_
  refine rq ?_;intro gd K hgd hK
  try simp (disch:=first|omega|assumption|rfl) only[go_sem,h12,h14,hi0,hi1,hcrA]
  refine SD.set (P:=Tryz.prog) (t:=110) (zkb A) (j:=0) (by simp) hRr.len hRr.ones rfl rfl ?_
  intro A1 hs2 hL1 hk1
  have hX1:=Ext.alloc A (.cells #[.slice Option.none 0 0,v32 0,vi 0,.slice Option.none 0 0,.slice Option.none 0 0,.slice Option.none 0 0,.slice Option.none 0 0] 110 (0,0))
  have hEA1:Ext A A1:=Keep.to_ext hX1 rfl (fun i hi=>by omega) hk1
  clear hk1 hX1 hs2
  try simp only[go_sem]
  refine hK _ _ ?_;clear hK hgd;clear K;try clear gd
  have hg10:=hL1.get (j:=0) (by simp)
  have hE1':=hEwA.trans hEA1
  obtain⟨ao,no,co,hov⟩:∃a n c,ov= .slice a n c:=by
   obtain⟨a,c,h,_⟩:=ho
   exact⟨_,_,_,h⟩
  repeat refine c_r ?_
  refine rq ?_;intro gd K hgd hK
  try simp (disch:=first|omega|assumption|rfl) only[go_sem,h1,h2,hg10]
  rw[hov]
  refine⟨by kernel_rfl,?_⟩
  rw[show bdV Tryz.prog 209 [(0,.slice ao no co),(1,vi t)]=some (.agg #[.slice ao no co,vi t,v32 0,.slice Option.none 0 0]) from by kernel_rfl]
  rw[←hov]
  try simp (disch:=first|omega|assumption|rfl) only[go_sem,hg10]
  refine Fn.mono (is_ok A1 ov _ _ o t cr r (ho.ext hE1') (hRr.ext (hE0.trans hE1')) hlo hol hrok) ?_
  rintro _ A2 ⟨rfl,hEA2⟩
  try simp only[go_sem]
  refine hK _ _ ?_;clear hK hgd;clear K;try clear gd
  have hEA':=hEA.trans (hEA1.trans hEA2)
  have hmv2:=(hmv.ext hEA1).ext hEA2
  have hg10':=zae hEA2 hg10
  repeat refine c_r ?_
  refine wc0 ?_ ?_
  ·intro ht
   repeat refine c_r ?_
   refine rq ?_;intro gd K hgd hK
   try simp (disch:=first|omega|assumption|rfl) only[go_sem,h8,hg10']
   refine zaT (zbj w0) (by rfl) (by rfl) (by rfl) (by rfl) hRr (by decide) ?_
   intro A3 hE3 hs3 ho3
   try simp only[go_sem]
   refine zaI (zbj w0) (hmv2.ext hE3) ho3.rows (by rfl) (by rfl) (by rfl) (by rfl) (by rfl) (by rfl) (by decide) (by rfl) (by rfl) (by have:=List.length_filter_le (isL o t) (R.take i);simp at this ⊢;omega) (by decide) (by have:=hEA'.size;omega) ?_
   intro mv' A4 hmv4 hE4 _ _
   try simp only[go_sem]
   refine hK _ _ ?_;clear hK hgd;clear K;try clear gd
   repeat refine c_r ?_
   refine rg2 h14 hi1' ?_
   repeat refine c_r ?_
   exact⟨m - 1,by omega,rfl,i+1,mv',by omega,vq0,(vq1 h12),(vq1 h13),vq0,(vq1 h1),(vq1 h2),(vq1 h6),(vq1 h7),by rw[hfl,if_pos ht];exact hmv4,hE4 w1 (hEA'.trans hE3) (Nat.le_refl _)⟩
  ·intro ht
   repeat refine c_r ?_
   refine rg2 h14 hi1' ?_
   repeat refine c_r ?_
   exact⟨m - 1,by omega,rfl,i+1,mv,by omega,vq0,(vq1 h12),(vq1 h13),(vq1 h8),(vq1 h1),(vq1 h2),(vq1 h6),(vq1 h7),by rw[hfl,if_neg (by rw[ht];exact Bool.false_ne_true),List.append_nil];exact hmv2,hEA'⟩
 ·intro hge
  simp only[decide_eq_false_iff_not]at hge
  rw[List.take_of_length_le (by omega)]at hmv
  have hcl:(R.filter (isL o t)).length≤R.length:=List.length_filter_le _ _
  repeat refine c_r ?_
  refine rq ?_;intro gd K hgd hK
  try simp (disch:=first|omega|assumption|rfl) only[go_sem,h8]
  refine Fn.mono (zjf w0 A (hE0.trans hEwA) hmv.rows (fun r hr=>hok r (List.mem_filter.1 hr).1) (by omega)) ?_
  rintro cv A1 ⟨hcv,hEA1,hcb⟩
  try simp only[go_sem]
  refine Fn.mono (sets_ok (hE0.trans (hEwA.trans hEA1)) hcv) ?_
  rintro _ A2 ⟨rfl,hEA2,hsz2,hbx⟩
  try simp only[go_sem]
  refine hK _ _ ?_;clear hK hgd;clear K;try clear gd
  have hOC:zaP (R.filter (isL o t))=ofC R o t:=rfl
  rw[hOC]at hcv
  have hE02:=(hE0.trans (hEwA.trans hEA1)).trans hEA2
  have hEw2:=(hEwA.trans hEA1).trans hEA2
  have hC6:=Ext.at ((hEA.trans hEA1).trans hEA2) hA
  have hC7:=Ext.at ((hEA.trans hEA1).trans hEA2) hB
  have s1:=hE1.size
  have s2:=hEA.size
  have s3:=hEA1.size
  have s4:=hE0.size
  have hit:=setsIt (C:=fun b=>b=w.heap.size∨b=w.heap.size+1) hE02 hbx (hcv.ext hEA2) (by omega) (fun b hb=>by omega) (fun a n c hv=>by
   have:=hcb a n c hv
   exact⟨by omega,by omega,by omega⟩) (fun r hr=>by
    have:=zbF (Q:=zbn) (fun a b h=>⟨h.lb,h.len,h.dat⟩) (l:=R.filter (isL o t)) (fun x hx=>hok x (List.mem_filter.1 hx).1)
    exact this r hr) (by have:=zcb (R.filter (isL o t));unfold ofC;omega)
  repeat refine c_r ?_
  refine W_rangeT (g:=209) (cap:=#[.pointer (some ⟨A1.heap.size,0,Option.none⟩)]) (vq0) rfl hit (Keep.refl _ _) (Nat.le_refl _) (fun b hb=>by omega) (fun b hb=>by omega)
   (fun x B args h=>by obtain⟨cs,h,_⟩:=h;rw[h];rfl)
   (fun pre B=>pre=[]∧Ext w B∧B.heap[w.heap.size]? =some (.cells #[.slice Option.none 0 0,vi 0,v32 0,.slice Option.none 0 0] 209 (0,0))∧B.heap[w.heap.size+1]? =some (.cells #[.bool false] 4 (0,0)))
   (fun c pre B=>c= .ret∧∃s cs,pre=[s]∧Ext w B∧SetAt w0 (A2.heap.size+2) B cs s∧B.heap[w.heap.size]? =some (.cells cs.toArray 209 (0,0))∧B.heap[w.heap.size+1]? =some (.cells #[.bool true] 4 (0,0))) ?_ ?_ ?_ ?_ ?_ ?_
  ·rintro pre B B' ⟨rfl,hEB,h6',h7'⟩ hk
   exact⟨rfl,Keep.to_ext hEB rfl (fun b hb=>by unfold span at hb;omega) hk,(hk.block _ (Array.getElem?_eq_some_iff.1 h6').1 (by unfold span;omega)).trans h6',(hk.block _ (Array.getElem?_eq_some_iff.1 h7').1 (by unfold span;omega)).trans h7'⟩
  ·rintro c pre B B' ⟨rfl,s,cs,rfl,hEB,⟨ow,dv,hcs,k1,k2,k3⟩,h6',h7'⟩ hk
   exact⟨rfl,s,cs,rfl,Keep.to_ext hEB rfl (fun b hb=>by unfold span at hb;omega) hk,⟨ow,dv,hcs,k1,k2.keep hk k3 (fun b hb hb2=>by unfold span;omega),k3.ext hk.size⟩,(hk.block _ (Array.getElem?_eq_some_iff.1 h6').1 (by unfold span;omega)).trans h6',(hk.block _ (Array.getElem?_eq_some_iff.1 h7').1 (by unfold span;omega)).trans h7'⟩
  ·exact⟨rfl,hEw2,hC6,hC7⟩
  ·rintro lp pre s B args ⟨suf,hgr⟩ hszB ⟨rfl,hEB,hb6,hb7⟩ ⟨cs,rfl,ow,dv,hcs,k1,k2,k3⟩
   obtain⟨ao,co,rfl,_⟩:=k1
   obtain⟨ad,cd,rfl,_⟩:=k2.open
   have hc1:∀v∈cs,one v=true:=fun v hv=>by
    rw[hcs]at hv;simp at hv;rcases hv with rfl|rfl|rfl|rfl<;>rfl
   have hcl:cs.length=4:=by rw[hcs];rfl
   refine rq ?_;intro gd K hgd hK
   try simp only[go_sem]
   have hB3:=zaw B (.cells #[.slice Option.none 0 0,vi 0,v32 0,.slice Option.none 0 0] 209 (0,0))
   have hE3:=Ext.alloc B (.cells #[.slice Option.none 0 0,vi 0,v32 0,.slice Option.none 0 0] 209 (0,0))
   revert hB3 hE3
   generalize B.alloc (.cells #[.slice Option.none 0 0,vi 0,v32 0,.slice Option.none 0 0] 209 (0,0))=x1
   intro hB3 hE3
   refine zaE (P:=Tryz.prog) (t:=209) (l:=cs) hB3 hcl hc1 (by rw[hcl];rfl) rfl ?_
   intro x2 hs4 hB4 hk4
   try simp only[go_sem]
   refine hK _ _ ?_;clear hK hgd;clear K;try clear gd
   have hEx:Ext B x2:=Keep.to_ext hE3 rfl (fun b hb=>by omega) hk4
   refine zav ?_
   refine⟨rfl,hEx.toB (by omega) (fun _ _ h=>h.elim),fun Y hY=>?_⟩
   have hxs:=hEx.size
   have hB5:=(hY.block B.heap.size (Array.getElem?_eq_some_iff.1 hB4).1 (by unfold two;omega)).trans hB4
   have hb6':=(hY.block w.heap.size (by omega) (by unfold two;omega)).trans (Ext.at hEx hb6)
   have hb7':=(hY.block (w.heap.size+1) (by omega) (by unfold two;omega)).trans (Ext.at hEx hb7)
   have k2':=(k2.ext hEx).keep hY (k3.ext hxs) (fun b hb hb2=>by unfold two;omega)
   have hEY:Ext w Y:=Keep.to_ext (hEB.trans hEx) rfl (fun b hb=>by unfold two at hb;omega) hY
   have d1:=zah (n:=4) hB5 hcl.symm
   have hYs:=hY.size
   repeat refine c_r ?_
   refine rq ?_;intro gd K hgd hK
   try simp (disch:=first|omega|assumption|rfl) only[go_sem,h6,h7,d1]
   refine zaE (P:=Tryz.prog) (t:=209) (l:=cs) hb6' hcl hc1 (by rw[hcl];rfl) rfl ?_
   intro z1 hz1 hbz1 hkz1
   try simp (disch:=first|omega|assumption|rfl) only[go_sem,h6,h7]
   have hb7z:=(hkz1.block (w.heap.size+1) (by omega) (by omega)).trans hb7'
   refine zaV (P:=Tryz.prog) (t:=4) (j:=0) (l:=[.bool false]) hb7z (by simp) rfl rfl rfl ?_
   intro z2 hz2 hbz2 hkz2
   try simp only[go_sem]
   refine hK _ _ ?_;clear hK hgd;clear K;try clear gd
   repeat refine c_r ?_
   have hkz:Keep (fun b=>b=w.heap.size∨b=w.heap.size+1) Y z2:=(hkz1.mono (fun b _ h=> .inl h)).trans (hkz2.mono (fun b _ h=> .inr h))
   refine⟨⟨rfl,s,cs,rfl,Keep.to_ext hEY rfl (fun b hb=>by omega) hkz,⟨_,_,hcs,⟨ao,co,rfl,‹_›⟩,k2'.keep hkz (k3.ext (by omega)) (fun b hb hb2=>by omega),k3.ext (by omega)⟩,(hkz2.block w.heap.size (by omega) (by omega)).trans hbz1,by simpa using hbz2⟩,hkz.toB (by omega) (fun i _ h=>h)⟩
  ·rintro xs B rfl hszB ⟨hxs,hEB,hb6,hb7⟩ hD
   have hnil:ofC R o t=[]:=by
    cases hq:ofC R o t with
    |nil=>rfl
    |cons r l=>rw[hq,zgy]at hxs;cases hxs
   repeat refine c_r ?_
   refine rq ?_;intro gd K hgd hK
   try simp (disch:=first|omega|assumption|rfl) only[go_sem,h6,h7]
   refine⟨by kernel_rfl,?_⟩
   rw[show bdV Tryz.prog 209 []=some (.agg #[.slice Option.none 0 0,vi 0,v32 0,.slice Option.none 0 0]) from by kernel_rfl]
   try simp (disch:=first|omega|assumption|rfl) only[go_sem,h6,h7]
   refine zaE (P:=Tryz.prog) (t:=209) (l:=[.slice Option.none 0 0,vi 0,v32 0,.slice Option.none 0 0]) hb6 rfl (fun v h=>by simp at h;rcases h with rfl|rfl|rfl|rfl<;>rfl) rfl rfl ?_
   intro z1 hz1 hbz1 hkz1
   try simp (disch:=first|omega|assumption|rfl) only[go_sem,h6,h7]
   have hb7z:=(hkz1.block (w.heap.size+1) (by omega) (by omega)).trans hb7
   refine zaV (P:=Tryz.prog) (t:=4) (j:=0) (l:=[.bool false]) hb7z (by simp) rfl rfl rfl ?_
   intro z2 hz2 hbz2 hkz2
   try simp only[go_sem]
   refine hK _ _ ?_;clear hK hgd;clear K;try clear gd
   repeat refine c_r ?_
   have hkz:Keep (fun b=>b=w.heap.size∨b=w.heap.size+1) B z2:=(hkz1.mono (fun b _ h=> .inl h)).trans (hkz2.mono (fun b _ h=> .inr h))
   have hEz:Ext w z2:=Keep.to_ext hEB rfl (fun b hb=>by omega) hkz
   have hD2:=(hkz.block _ (by omega) (by omega)).trans hD
   have c6:=(hkz2.block w.heap.size (by omega) (by omega)).trans hbz1
   refine zbW (.inr rfl) Tryz.ntmps128 rfl hD2 ?_
   intro Z hkZ hsZ
   refine⟨_,zaL (x:=⟨w.heap.size,0,Option.none⟩) (k:=4) ((vq1 h6)) rfl rfl (zah (l:=[.slice Option.none 0 0,vi 0,v32 0,.slice Option.none 0 0]) ((hkZ.block w.heap.size (by omega) (by omega)).trans c6) rfl) (zgj (x:=⟨w.heap.size+1,0,Option.none⟩) ((vq1 h7)) rfl rfl (zcl (j:=0) (l:=[.bool false]) ((hkZ.block (w.heap.size+1) (by omega) (by omega)).trans (by simpa using hbz2)) rfl) zau),Keep.to_ext hEz rfl (fun b hb=>by omega) hkZ,_,_,_,_,by rw[hnil];rfl,rfl,fun h=>absurd hnil h,by rw[hnil];exact Rows.nil _ _ _,BlkB.nil⟩
  ·rintro c pre s B hszB ⟨suf,hgr⟩ ⟨rfl,s',cs,hpre,hEB,⟨ow,dv,hcs,k1,k2,k3⟩,hb6,hb7⟩ hD
   have hp0:pre=[]:=by
    have:=congrArg List.length hpre
    simp at this;exact this
   subst hp0
   have hss:s=s':=by simpa using hpre
   subst hss
   have hne:ofC R o t≠ []:=fun h=>by rw[h,zkY]at hgr;cases hgr
   obtain⟨r,l,hrl⟩:∃r l,ofC R o t=r::l:=by
    cases hq:ofC R o t with
    |nil=>exact absurd hq hne
    |cons r l=>exact⟨r,l,rfl⟩
   have hall:=ofC_is (R:=R) (o:=o) (t:=t)
   rw[hrl]at hall
   rw[hrl,grp_one hall]at hgr
   have hs:s=mkS r (r::l):=by
    injection hgr with h1 _
    exact h1.symm
   have hty:=hall r (List.mem_cons_self ..)
   simp only[isL,Bool.and_eq_true,decide_eq_true_eq]at hty
   have hcl:cs.length=4:=by rw[hcs];rfl
   repeat refine c_r ?_
   refine zbW (.inr rfl) Tryz.ntmps128 rfl hD ?_
   intro Z hkZ hsZ
   refine⟨_,zaL (x:=⟨w.heap.size,0,Option.none⟩) (k:=4) ((vq1 h6)) rfl rfl (zah ((hkZ.block w.heap.size (by omega) (by omega)).trans hb6) hcl.symm) (zgj (x:=⟨w.heap.size+1,0,Option.none⟩) ((vq1 h7)) rfl rfl (zcl (j:=0) (l:=[.bool true]) ((hkZ.block (w.heap.size+1) (by omega) (by omega)).trans (by simpa using hb7)) rfl) zau),Keep.to_ext hEB rfl (fun b hb=>by omega) hkZ,ow,s.ty,s.ttl,dv,by rw[hcs,show decide (ofC R o t≠ [])=true from decide_eq_true hne];rfl,?_,fun _=>by rw[hs];exact hty.1.symm,?_,?_⟩
   ·obtain⟨_,_,e,_⟩:=k1
    rw[e];rfl
   ·have:=k2.keep hkZ k3 (fun b hb hb2=>by omega)
    rw[hs]at this
    rw[hrl];exact this
   ·exact(k3.ext (by omega)).mono (by omega)
structure Tell(w0 w:World)(g:FuncId)(cap:List Value)(p:RecL→Bool)(R:List RecL):Prop where
 call:zaa Tryz.prog g=true
 tell:∀(A:World) (cs:List Value) (r:RecL),Ext w A→r∈R→RecAt w0 cs r→Fn Tryz.prog g (.agg cs.toArray::cap).toArray A (fun v A'=>v= .bool (p r)∧Ext A A')
theorem zhQ{w0 w:World}{lv:Value}{R:List RecL}{g:FuncId}{cap:List Value}{p:RecL→Bool}(hl:Rows 7 (RecAt w0) w lv R)(ht:Tell w0 w g cap p R)(hlen:R.length≤1000000000):
  Fn Tryz.prog 174 #[lv,.func (.func g) #[] cap.toArray] w (fun v w'=>Ext w w'∧∃i:Int,v=vi i∧decide (i≥0)=R.any p):=by
 obtain⟨hcal,htell⟩:=ht
 obtain⟨aR,cR,rfl,hcR,hgR⟩:=hl.open
 refine enter Tryz.func174 Tryz.ntmps174 rfl rfl ?_
 repeat refine c_r ?_
 refine rg0 ?_
 repeat refine c_r ?_
 refine rg0 ?_
 repeat refine c_r ?_
 refine zap (fun m σ ds A=>ds=[]∧∃(i:Nat),i+m=R.length∧σ 8=vi i∧σ 7=vi R.length∧σ 0= .slice aR R.length cR∧σ 1= .func (.func g) #[] cap.toArray∧Ext w A∧∀j (h:j<R.length),j<i→p R[j]=false) R.length ?_ ?_
 ·exact⟨rfl,0,by omega,vr0,vq0,vq0,vq0,Keep.refl _ _,fun j h hj=>absurd hj (by omega)⟩
 rintro m σ ds A ⟨rfl,i,him,h8,h7,h0,h1,hEA,hlow⟩
 repeat refine c_r ?_
 refine rg2 h8 h7 ?_
 repeat refine c_r ?_
 refine wc0 ?_ ?_
 ·intro hlt
  simp only[decide_eq_true_eq]at hlt
  have hiR:i<R.length:=by omega
  have hi0:(0:Int)≤(i:Int):=by omega
  have hi1:(i:Int)<(R.length:Int):=by omega
  have hi1':(i:Int)+1=((i+1:Nat):Int):=by push_cast;rfl
  obtain⟨cr,hcr,hRr⟩:=hgR i hiR
  obtain⟨xR,rfl⟩:=Option.isSome_iff_exists.1 (zan hcr)
  have hcrA:=zae hEA hcr
  repeat refine c_r ?_
  refine rg1 h8 ?_
  repeat refine c_r ?_
  refine rq ?_;intro gd K hgd hK
  try simp (disch:=first|omega|assumption|rfl) only[go_sem,h0,h1,hi0,hi1,hcrA]
  refine zb5 hcal (Fn.mono (htell A cr R[i] hEA (List.getElem_mem hiR) hRr) ?_)
  rintro _ A1 ⟨rfl,hE1⟩
  try simp only[go_sem]
  refine hK _ _ ?_;clear hK hgd;clear K;try clear gd
  repeat refine c_r ?_
  refine wc0 ?_ ?_
  ·intro ht
   repeat (first|refine c_r ?_|refine rg0 ?_)
   refine rt0 Tryz.ntmps174 ?_
   refine⟨hEA.trans hE1,_,rfl,?_⟩
   rw[show R.any p=true from List.any_eq_true.2 ⟨_,List.getElem_mem hiR,ht⟩]
   exact decide_eq_true (by omega)
  ·intro ht
   repeat refine c_r ?_
   refine rg2 h8 hi1' ?_
   repeat refine c_r ?_
   refine⟨m - 1,by omega,rfl,i+1,by omega,vq0,(vq1 h7),(vq1 h0),(vq1 h1),hEA.trans hE1,fun j hj hji=>?_⟩
   by_cases hj2:j=i
   ·subst hj2;exact ht
   ·exact hlow j hj (by omega)
 ·intro hge
  simp only[decide_eq_false_iff_not]at hge
  repeat (first|refine c_r ?_|refine rg0 ?_)
  refine rt0 Tryz.ntmps174 ?_
  refine⟨hEA,_,rfl,?_⟩
  have:R.any p=false:=by
   rw[List.any_eq_false]
   intro x hx
   obtain⟨j,hj,rfl⟩:=List.getElem_of_mem hx
   rw[hlow j hj (by omega)];exact Bool.false_ne_true
  rw[this];rfl
theorem zdK{w0 w:World}{lv:Value}{R:List RecL}{g:FuncId}{cap:List Value}{p:RecL→Bool}(hl:Rows 7 (RecAt w0) w lv R)(ht:Tell w0 w g cap p R)(hlen:R.length≤1000000000):
  Fn Tryz.prog 126 #[lv,.func (.func g) #[] cap.toArray] w (fun v w'=>v= .bool (R.any p)∧Ext w w'):=by
 refine enter Tryz.func126 Tryz.ntmps126 rfl rfl ?_
 repeat refine c_r ?_
 refine rg0 ?_
 repeat refine c_r ?_
 refine rq ?_;intro gd K hgd hK
 try simp only[go_sem]
 refine Fn.mono (zhQ hl ht hlen) ?_
 rintro _ w1 ⟨hE1,i,rfl,hi⟩
 try simp only[go_sem]
 refine hK _ _ ?_;clear hK hgd;clear K;try clear gd
 repeat refine c_r ?_
 refine rt0 Tryz.ntmps126 ?_
 exact⟨by rw[hi],hE1⟩
theorem tell_Has{w0 w:World}{bt bn:Nat}{nv:Value}{n:Nm}{t:Int}{R:List RecL}(hE0:Ext w0 w)(ht:w.heap[bt]? =some (.cells #[vi t] 3 (0,0)))(hn:w.heap[bn]? =some (.cells #[nv] 23 (0,0)))(hrn:Row w nv (n.map vs))(hnb:LB n)(hnl:n.length≤1000000000000000)(hok:∀r∈R,zbn r):
  Tell w0 w 127 [.pointer (some ⟨bt,0,Option.none⟩),.pointer (some ⟨bn,0,Option.none⟩)] (isL n t) R:=by
 refine⟨rfl,fun A cs r hE hr hcs=>?_⟩
 have hcs':=hcs
 obtain⟨ow,ds,rfl,a1,a2⟩:=hcs.ex
 obtain⟨nm,nu,tx,rw',rfl,_⟩:=a2.ex
 refine enter Tryz.func127 Tryz.ntmps127 rfl rfl ?_
 repeat refine c_r ?_
 refine rg0 ?_
 repeat refine c_r ?_
 refine zaA ?_
 intro A1 hE1 hs1 hA
 have p0:zaf A1 (some ⟨A.heap.size,0,Option.none⟩)=some ow:=zac hA rfl
 have p2:zaf A1 (some ⟨A.heap.size,2,Option.none⟩)=some (vi r.dat.ty):=zac hA rfl
 have q0:zaf A1 (some ⟨bt,0,Option.none⟩)=some (vi t):=zab (hE.trans hE1) (zac ht rfl)
 have q1:zaf A1 (some ⟨bn,0,Option.none⟩)=some nv:=zab (hE.trans hE1) (zac hn rfl)
 by_cases hty:r.dat.ty=t
 ·refine rq ?_;intro gd K hgd hK
  have hg5:∀n σ b,zas gd n σ (some (5,b))=zal (ev n σ (.tmp 10)) b:=(fun n σ b=>by rw[zad,show gd 5=some 10 from(by rw[hgd];rfl)];rfl)
  try simp (disch:=first|omega|assumption|rfl) only[go_sem,p0,p2,q0,q1,Nat.add_zero,decide_eq_true hty,↓hg5]
  refine Fn.mono (zdJ _ _ _ _ _ (a1.ext (hE0.trans (hE.trans hE1))) (hrn.ext (hE.trans hE1)) (hok r hr).lb hnb (by have:=(hok r hr).len;omega) (by omega)) ?_
  rintro _ A2 ⟨rfl,hE2⟩
  try simp only[go_sem]
  refine hK _ _ ?_;clear hK hgd;clear K;try clear gd
  repeat refine c_r ?_
  refine rt0 Tryz.ntmps127 ?_
  refine⟨?_,hE1.trans hE2⟩
  unfold isL
  rw[decide_eq_true hty.symm,Bool.true_and]
  exact congrArg _ (decide_eq_decide.2 ⟨fun h=>h.symm,fun h=>h.symm⟩)
 ·refine rq ?_;intro gd K hgd hK
  have hg5:∀n σ b,zas gd n σ (some (5,b))=zal (ev n σ (.tmp 10)) b:=(fun n σ b=>by rw[zad,show gd 5=some 10 from(by rw[hgd];rfl)];rfl)
  try simp (disch:=first|omega|assumption|rfl) only[go_sem,p0,p2,q0,q1,Nat.add_zero,decide_eq_false hty,↓hg5]
  refine hK _ _ ?_;clear hK hgd;clear K;try clear gd
  repeat refine c_r ?_
  refine rt0 Tryz.ntmps127 ?_
  refine⟨?_,hE1⟩
  unfold isL
  rw[decide_eq_false (fun h=>hty h.symm),Bool.false_and]
structure ZnAt(w0 w:World)(ov lv:Value)(o:Nm)(R:List RecL):Prop where
 e0:Ext w0 w
 org:Row w ov (o.map vs)
 recs:Rows 7 (RecAt w0) w lv R
 lb:LB o
 ol:o.length≤1000000000000
 ok:∀r∈R,zbn r
 rl:R.length≤1000000000
theorem ZnAt.ext{w0 w x:World}{ov lv:Value}{o:Nm}{R:List RecL}(h:ZnAt w0 w ov lv o R)(hE:Ext w x):ZnAt w0 x ov lv o R:=
 ⟨h.e0.trans hE,h.org.ext hE,h.recs.ext hE,h.lb,h.ol,h.ok,h.rl⟩
structure NmS(n:Nm):Prop where
 lb:LB n
 len:n.length≤1000000000000
theorem NmS.drop{n:Nm}(h:NmS n)(k:Nat):NmS (n.drop k):=⟨h.lb.drop k,by have:=h.len;simp;omega⟩
theorem Has_ok{w0 w:World}{ov lv nv:Value}{o n:Nm}{R:List RecL}{t:Int}(hz:ZnAt w0 w ov lv o R)(hn:Row w nv (n.map vs))(hok:NmS n):
  Fn Tryz.prog 60 #[.agg #[ov,lv],nv,vi t] w (fun v w'=>v= .bool (R.any (isL n t))∧Ext w w'):=by
 obtain⟨ao,co,hov,_⟩:=hz.org
 obtain⟨al,cl,hlv,_⟩:=hz.recs.open
 obtain⟨an,cn,hnv,_⟩:=id hn
 rw[hov,hlv,hnv]
 refine enter Tryz.func60 Tryz.ntmps60 rfl rfl ?_
 repeat refine c_r ?_
 refine rg0 ?_
 repeat refine c_r ?_
 rw[←hov,←hlv,←hnv]
 simp only[zam]
 refine zdt ?_
 intro w1 hE1 hs1 hA hB hC
 have p1:zaf w1 (some ⟨w.heap.size,1,Option.none⟩)=some lv:=zac hA rfl
 refine rq ?_;intro gd K hgd hK
 try simp (disch:=first|omega|assumption|rfl) only[go_sem,p1,Nat.zero_add]
 have hz1:=hz.ext hE1
 refine Fn.mono (zdK (cap:=[.pointer (some ⟨w.heap.size+1+1,0,Option.none⟩),.pointer (some ⟨w.heap.size+1,0,Option.none⟩)]) hz1.recs (tell_Has hz1.e0 hC hB (hn.ext hE1) hok.lb (by have:=hok.len;omega) hz.ok) hz.rl) ?_
 rintro _ w2 ⟨rfl,hE2⟩
 try simp only[go_sem]
 refine hK _ _ ?_;clear hK hgd;clear K;try clear gd
 repeat refine c_r ?_
 refine rt0 Tryz.ntmps60 ?_
 exact⟨rfl,hE1.trans hE2⟩
def zbl(n:Nm):Nat→List Nm
 |0=>[n.drop 0]
 |i+1=>n.drop (i+1)::zbl n i
def za8(o n:Nm):List Nm:=if o.length≤n.length then zbl n (n.length - o.length) else []
def hasL(R:List RecL)(n:Nm)(t:Int):Bool:=R.any (isL n t)
def cutP(o:Nm)(R:List RecL)(x:Nm):Bool:=decide (o.length<x.length) && hasL R x 2
def cutL(o:Nm)(R:List RecL)(n:Nm):Option Nm:=if zaY n o then(za8 o n).find? (cutP o R) else Option.none
def zeY(o:Nm)(R:List RecL)(n:Nm):Int:=if zaY n o then(match cutL o R n with
 |Option.none=>1
 |some c=>if c.length=n.length then 2 else 3) else 0
def zaM(o:Nm)(R:List RecL)(n:Nm):Bool:=zaY n o && (decide (n.length=o.length)||R.any fun r=>zaY r.owner n)
def zbM(o:Nm)(R:List RecL)(n:Nm):Nm:=if zaY n o then((za8 o n).takeWhile (zaM o R)).getLast?.getD [] else []
def starL:Lab:=[42]
def ownsL(R:List RecL)(n:Nm):Bool:=R.any fun r=>decide (zaq r.owner=zaq n)
def zbq(o:Nm)(R:List RecL)(n:Nm):Nm:=starL::zbM o R n
def zaZ(o:Nm)(R:List RecL)(n:Nm):Option Nm:=if ownsL R (zbq o R n) then some (zbq o R n) else Option.none
def datC(R:List RecL)(n:Nm)(t:Int):List DatL:=(ofC R n t).map RecL.dat
def zbd(R:List RecL)(h:Nm):List DatL:=datC R h 1++datC R h 28
theorem zbZ{n o:Nm}(h:zaY n o=true):o.length≤n.length:=by
 unfold zaY at h
 simp only[Bool.and_eq_true,decide_eq_true_eq]at h
 exact h.1
theorem zbH{n:Nm}:∀{k:Nat} {x:Nm},x∈zbl n k↔∃i,i≤k∧x=n.drop i
 |0,x=>by
  simp only[zbl,List.mem_singleton]
  constructor
  ·intro h;exact⟨0,Nat.le_refl _,h⟩
  ·rintro⟨i,hi,h⟩
   have:i=0:=by omega
   subst this;exact h
 |k+1,x=>by
  simp only[zbl,List.mem_cons]
  rw[zbH]
  constructor
  ·rintro(h| ⟨i,hi,h⟩)
   ·exact⟨k+1,Nat.le_refl _,h⟩
   ·exact⟨i,by omega,h⟩
  ·rintro⟨i,hi,h⟩
   by_cases hk:i=k+1
   ·subst hk;exact .inl h
   ·exact .inr ⟨i,by omega,h⟩
def encD(W0:World)(x:Nm)(_:World)(args:Array Value):Prop:=∃v,args=#[v]∧Row W0 v (x.map vs)
theorem zlj{wb W0:World}{C:Nat→Prop}{bn bz:Nat}{nv ov lv:Value}{o n:Nm}(hbn:W0.heap[bn]? =some (.cells #[nv] 23 (0,0)))(hbz:W0.heap[bz]? =some (.cells #[ov,lv] 34 (0,0)))(hn:Row wb nv (n.map vs))(ho:Row W0 ov (o.map vs))(hC1:¬C bn)(hC2:¬C bz)
  (hol:o.length≤1000000000000) (hnl:n.length≤1000000000000):
  Iter Tryz.prog 125 #[.pointer (some ⟨bn,0,Option.none⟩),.pointer (some ⟨bz,0,Option.none⟩)] W0 W0.heap.size C (za8 o n) (encD wb):=by
 intro lp J Jx W hW hnW hJ hJx hY h0
 obtain⟨an,cn,rfl,hcn,hgn⟩:=hn
 obtain⟨ao,co,rfl,hco,hgo⟩:=ho
 simp only[List.length_map]at hcn hgn hco hgo hbn hbz
 have hln:=(Array.getElem?_eq_some_iff.1 hbn).1
 have hlz:=(Array.getElem?_eq_some_iff.1 hbz).1
 have p0:zaf W (some ⟨bn,0,Option.none⟩)=some (.slice an n.length cn):=zab hW (zac hbn rfl)
 have q0:zaf W (some ⟨bz,0,Option.none⟩)=some (.slice ao o.length co):=zab hW (zac hbz rfl)
 refine enter Tryz.func125 Tryz.ntmps125 rfl rfl ?_
 repeat refine c_r ?_
 refine rg3 p0 q0 Nat.add_zero ?_
 repeat refine c_r ?_
 refine zap (fun m σ ds v=>ds=[]∧∃(pre rest:List Nm) (i:Int),za8 o n=pre++rest∧i+1≤(m:Int)∧σ 4=vi i∧((i<0∧rest=[])∨∃k:Nat,i=k∧k≤n.length∧rest=zbl n k)∧σ 0= .func (.yield lp) #[] #[]∧σ 1= .pointer (some ⟨bn,0,Option.none⟩)∧σ 2= .pointer (some ⟨bz,0,Option.none⟩)∧J pre v∧KeepB W0.heap.size C W v) (n.length+1) ?_ ?_
 ·refine⟨rfl,[],za8 o n,(n.length:Int) - o.length,rfl,by omega,vq0,?_,vq0,vq0,vq0,h0,KeepB.refl _ _ _⟩
  unfold za8
  by_cases hle:o.length≤n.length
  ·rw[if_pos hle];exact .inr ⟨n.length - o.length,by omega,by omega,rfl⟩
  ·rw[if_neg hle];exact .inl ⟨by omega,rfl⟩
 rintro m σ ds v ⟨rfl,pre,rest,i,hd,him,h4,hir,hs0,hs1,hs2,hj,hKB⟩
 have p1:zaf v (some ⟨bn,0,Option.none⟩)=some (.slice an n.length cn):=zdp hKB hln hC1 p0
 repeat refine c_r ?_
 refine rg1 h4 ?_
 repeat refine c_r ?_
 refine wc0 ?_ ?_
 ·intro hge
  simp only[decide_eq_true_eq,ge_iff_le]at hge
  rcases hir with ⟨h,_⟩| ⟨k,rfl,hkn,hrest⟩
  ·omega
  have hk1:(k:Int)≤(n.length:Int):=by omega
  obtain⟨suf,hsuf⟩:∃suf,rest=n.drop k::suf∧((k=0∧suf=[])∨∃j,k=j+1∧suf=zbl n j):=by
   cases k with
   |zero=>exact⟨[],by rw[hrest];rfl,.inl ⟨rfl,rfl⟩⟩
   |succ j=>exact⟨zbl n j,by rw[hrest];rfl,.inr ⟨j,rfl,rfl⟩⟩
  have hrow:Row wb (.slice (if cn=k then an else adr an k) (n.length - k) (cn - k)) ((n.drop k).map vs):=by
   have:=Row.tail (l:=n.map vs) (by simp) hcn (by simpa using hgn) (lo:=k) (by simpa using hkn)
   rw[←List.map_drop]at this
   simpa using this
  have hxs:za8 o n=pre++n.drop k::suf:=by rw[hd,hsuf.1]
  repeat refine c_r ?_
  refine rq ?_;intro gd K hgd hK
  try simp (disch:=first|omega|assumption|rfl) only[go_sem,h4,hs0,hs1,p1,hge,hk1]
  refine Yld.mono (hY pre (n.drop k) suf v _ hxs hj hKB ⟨_,rfl,hrow⟩) ?_
  rintro u x (⟨rfl,hj',hk'⟩| ⟨rfl,hjx⟩)
  ·try simp only[go_sem]
   refine hK _ _ ?_;clear hK hgd;clear K;try clear gd
   repeat refine c_r ?_
   refine wc0 ?_ ?_
   ·intro h;simp at h
   ·intro _
    repeat refine c_r ?_
    refine rg1 h4 ?_
    refine zav ?_
    refine⟨m - 1,by omega,rfl,pre++ [n.drop k],suf,(k:Int) - 1,by rw[hxs];simp,by omega,vq0,?_,(vq1 hs0),(vq1 hs1),(vq1 hs2),hj',hKB.trans hk'⟩
    rcases hsuf.2 with ⟨h1,h2⟩| ⟨j,h1,h2⟩
    ·exact .inl ⟨by omega,h2⟩
    ·exact .inr ⟨j,by omega,by omega,h2⟩
  ·try simp only[go_sem]
   refine hK _ _ ?_;clear hK hgd;clear K;try clear gd
   repeat refine c_r ?_
   refine wc0 ?_ ?_
   ·intro _
    repeat refine c_r ?_
    refine zaJ (by simp) rfl (.inr ⟨_,_,_,hxs,hjx⟩)
   ·intro h;simp at h
 ·intro hge
  simp only[decide_eq_false_iff_not,ge_iff_le]at hge
  repeat refine c_r ?_
  refine zaJ (by simp) rfl (.inl ?_)
  rcases hir with ⟨_,h⟩| ⟨k,rfl,_⟩
  ·rw[hd,h,List.append_nil];exact hj
  ·omega
theorem ziv{w:World}{nv ov lv:Value}(hn:∃a n c,nv= .slice a n c):
  Fn Tryz.prog 59 #[.agg #[ov,lv],nv] w (fun v w'=>v= .func (.func 125) #[] #[.pointer (some ⟨w.heap.size+1,0,Option.none⟩),.pointer (some ⟨w.heap.size,0,Option.none⟩)]∧Ext w w'∧w'.heap.size=w.heap.size+2∧
   w'.heap[w.heap.size]? =some (.cells #[ov,lv] 34 (0,0))∧w'.heap[w.heap.size+1]? =some (.cells #[nv] 23 (0,0))):=by
 obtain⟨an,nn,cn,rfl⟩:=hn
 refine enter Tryz.func59 Tryz.ntmps59 rfl rfl ?_
 repeat refine c_r ?_
 refine rg0 ?_
 repeat refine c_r ?_
 rw[zam]
 refine zaH ?_
 intro w1 hE1 hs1 hA hB
 refine rg0 ?_
 repeat refine c_r ?_
 refine rt0 Tryz.ntmps59 ?_
 exact⟨rfl,hE1,hs1,hA,hB⟩
theorem zhW{w0 w:World}{bn:Nat}{nv:Value}{n:Nm}{R:List RecL}(hE0:Ext w0 w)(hn:w.heap[bn]? =some (.cells #[nv] 23 (0,0)))(hrn:Row w nv (n.map vs))(hok:NmS n)(hoks:∀r∈R,zbn r):
  Tell w0 w 132 [.pointer (some ⟨bn,0,Option.none⟩)] (fun r=>zaY r.owner n) R:=by
 refine⟨rfl,fun A cs r hE hr hcs=>?_⟩
 obtain⟨ow,ds,rfl,a1,a2⟩:=hcs.ex
 obtain⟨nm,nu,tx,rw',rfl,_⟩:=a2.ex
 refine enter Tryz.func132 Tryz.ntmps132 rfl rfl ?_
 repeat refine c_r ?_
 refine rg0 ?_
 repeat refine c_r ?_
 refine zaA ?_
 intro A1 hE1 hs1 hA
 have p0:zaf A1 (some ⟨A.heap.size,0,Option.none⟩)=some ow:=zac hA rfl
 have q1:zaf A1 (some ⟨bn,0,Option.none⟩)=some nv:=zab (hE.trans hE1) (zac hn rfl)
 refine rq ?_;intro gd K hgd hK
 try simp (disch:=first|omega|assumption|rfl) only[go_sem,p0,q1,Nat.add_zero]
 refine Fn.mono (zcQ _ _ _ _ _ (a1.ext (hE0.trans (hE.trans hE1))) (hrn.ext (hE.trans hE1)) (hoks r hr).lb hok.lb (by have:=(hoks r hr).len;omega) (by have:=hok.len;omega)) ?_
 rintro _ A2 ⟨rfl,hE2⟩
 try simp only[go_sem]
 refine hK _ _ ?_;clear hK hgd;clear K;try clear gd
 repeat refine c_r ?_
 refine rt0 Tryz.ntmps132 ?_
 exact⟨rfl,hE1.trans hE2⟩
theorem zhV{w0 w:World}{bn:Nat}{nv:Value}{n:Nm}{R:List RecL}(hE0:Ext w0 w)(hn:w.heap[bn]? =some (.cells #[nv] 23 (0,0)))(hrn:Row w nv (n.map vs))(hok:NmS n)(hoks:∀r∈R,zbn r):
  Tell w0 w 135 [.pointer (some ⟨bn,0,Option.none⟩)] (fun r=>decide (zaq r.owner=zaq n)) R:=by
 refine⟨rfl,fun A cs r hE hr hcs=>?_⟩
 obtain⟨ow,ds,rfl,a1,a2⟩:=hcs.ex
 obtain⟨nm,nu,tx,rw',rfl,_⟩:=a2.ex
 refine enter Tryz.func135 Tryz.ntmps135 rfl rfl ?_
 repeat refine c_r ?_
 refine rg0 ?_
 repeat refine c_r ?_
 refine zaA ?_
 intro A1 hE1 hs1 hA
 have p0:zaf A1 (some ⟨A.heap.size,0,Option.none⟩)=some ow:=zac hA rfl
 have q1:zaf A1 (some ⟨bn,0,Option.none⟩)=some nv:=zab (hE.trans hE1) (zac hn rfl)
 refine rq ?_;intro gd K hgd hK
 try simp (disch:=first|omega|assumption|rfl) only[go_sem,p0,q1,Nat.add_zero]
 refine Fn.mono (zdJ _ _ _ _ _ (a1.ext (hE0.trans (hE.trans hE1))) (hrn.ext (hE.trans hE1)) (hoks r hr).lb hok.lb (by have:=(hoks r hr).len;omega) (by have:=hok.len;omega)) ?_
 rintro _ A2 ⟨rfl,hE2⟩
 try simp only[go_sem]
 refine hK _ _ ?_;clear hK hgd;clear K;try clear gd
 repeat refine c_r ?_
 refine rt0 Tryz.ntmps135 ?_
 exact⟨rfl,hE1.trans hE2⟩
theorem zhT{w0 w:World}{ov lv nv:Value}{o n:Nm}{R:List RecL}(hz:ZnAt w0 w ov lv o R)(hn:Row w nv (n.map vs))(hok:NmS n):
  Fn Tryz.prog 63 #[.agg #[ov,lv],nv] w (fun v w'=>v= .bool (zaM o R n)∧Ext w w'):=by
 obtain⟨ao,co,hov,hrest⟩:=id hz.org
 obtain⟨al,cl,hlv,_⟩:=hz.recs.open
 obtain⟨an,cn,hnv,_⟩:=id hn
 rw[List.length_map]at hov hnv
 rw[hov,hlv,hnv]
 refine enter Tryz.func63 Tryz.ntmps63 rfl rfl ?_
 repeat refine c_r ?_
 refine rg0 ?_
 repeat refine c_r ?_
 rw[←hov,←hlv,←hnv]
 simp only[zam]
 refine zaH ?_
 intro w1 hE1 hs1 hA hB
 have p0:zaf w1 (some ⟨w.heap.size,0,Option.none⟩)=some ov:=zac hA rfl
 have q0:zaf w1 (some ⟨w.heap.size+1,0,Option.none⟩)=some nv:=zac hB rfl
 have hz1:=hz.ext hE1
 refine rq ?_;intro gd K hgd hK
 try simp (disch:=first|omega|assumption|rfl) only[go_sem,p0,q0,Nat.add_zero]
 refine Fn.mono (zcQ _ _ _ _ _ (hn.ext hE1) hz1.org hok.lb hz.lb (by have:=hok.len;omega) (by have:=hz.ol;omega)) ?_
 rintro _ w2 ⟨rfl,hE2⟩
 try simp only[go_sem]
 refine hK _ _ ?_;clear hK hgd;clear K;try clear gd
 repeat refine c_r ?_
 refine wc0 ?_ ?_
 ·intro hu
  simp only[Bool.not_eq_true']at hu
  repeat (first|refine c_r ?_|refine rg0 ?_)
  refine rt0 Tryz.ntmps63 ?_
  exact⟨by unfold zaM;rw[hu,Bool.false_and],hE1.trans hE2⟩
 ·intro hu
  simp only[Bool.not_eq_false']at hu
  have p0':=zab hE2 p0
  have p1':zaf w2 (some ⟨w.heap.size,1,Option.none⟩)=some lv:=zab hE2 (zac hA rfl)
  have q0':=zab hE2 q0
  rw[hov]at p0'
  rw[hnv]at q0'
  have hz2:=hz1.ext hE2
  repeat refine c_r ?_
  by_cases hlen:(n.length:Int)=(o.length:Int)
  ·refine rq ?_;intro gd K hgd hK
   have hg6:∀n σ b,zas gd n σ (some (6,b))=zal (ev n σ (.tmp 16)) b:=(fun n σ b=>by rw[zad,show gd 6=some 16 from(by rw[hgd];rfl)];rfl)
   try simp (disch:=first|omega|assumption|rfl) only[go_sem,p0',q0',Nat.add_zero,decide_eq_true hlen,↓hg6]
   refine hK _ _ ?_;clear hK hgd;clear K;try clear gd
   repeat refine c_r ?_
   refine rt0 Tryz.ntmps63 ?_
   refine⟨?_,hE1.trans hE2⟩
   unfold zaM
   rw[hu,show decide (n.length=o.length)=true from decide_eq_true (by omega)];rfl
  ·refine rq ?_;intro gd K hgd hK
   have hg6:∀n σ b,zas gd n σ (some (6,b))=zal (ev n σ (.tmp 16)) b:=(fun n σ b=>by rw[zad,show gd 6=some 16 from(by rw[hgd];rfl)];rfl)
   try simp (disch:=first|omega|assumption|rfl) only[go_sem,p0',p1',q0',Nat.add_zero,Nat.zero_add,decide_eq_false hlen,↓hg6]
   refine Fn.mono (zdK (cap:=[.pointer (some ⟨w.heap.size+1,0,Option.none⟩)]) hz2.recs (zhW hz2.e0 (hE2.at hB) (hn.ext (hE1.trans hE2)) hok hz.ok) hz.rl) ?_
   rintro _ w3 ⟨rfl,hE3⟩
   try simp only[go_sem]
   refine hK _ _ ?_;clear hK hgd;clear K;try clear gd
   repeat refine c_r ?_
   refine rt0 Tryz.ntmps63 ?_
   refine⟨?_,(hE1.trans hE2).trans hE3⟩
   unfold zaM
   rw[hu,show decide (n.length=o.length)=false from decide_eq_false (by omega)];rfl
end Go.Proofs.YtopbbjdembnfdaaGreat
namespace Go.Proofs.YtopbbjdembnfdaaGreat.P_cs
open Go Go.Proofs.YtopbbjdembnfdaaGreat
set_option maxRecDepth 10000
theorem Clip_ok{w:World}{a:Option Addr}{n c:Nat}(hc:n≤c):Fn Tryz.prog 83 #[.slice a n c] w (fun u w'=>u= .slice a n n∧w'=w):=by
 refine enter Tryz.func83 Tryz.ntmps83 rfl rfl ?_
 repeat refine c_r ?_
 refine rg0 ?_
 repeat refine c_r ?_
 refine rq ?_;intro gd K hgd hK
 try simp only[go_sem]
 have hcl:slD Tryz.prog (some (TypeDesc.slice 9)) (Value.slice a n c) Option.none (some (Value.int IntKind.i64 ↑n)) (some (Value.int IntKind.i64 ↑n))=some (.slice a n n):=ze6 hc (by rfl)
 rw[hcl]
 try simp only[go_sem]
 refine hK _ _ ?_;clear hK hgd;clear K;try clear gd
 repeat refine c_r ?_
 refine rt0 Tryz.ntmps83 ?_
 exact⟨rfl,rfl⟩
end Go.Proofs.YtopbbjdembnfdaaGreat.P_cs
