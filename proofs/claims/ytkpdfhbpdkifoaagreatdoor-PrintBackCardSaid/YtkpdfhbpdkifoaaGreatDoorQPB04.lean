/-
  Texts of a proof, joined: D8, E1, K22, E2, E3, Y1, E4, E5, B4, K23, B0, L9, R4, GA, GB, GC, GD, K27, KC, KN, K32, GE, GF, HC, K25, HA, HD, GG, K28, GH, GI.
  Conditions: none.
-/
import Derived.Test.YtkpdfhbpdkifoaaGreatDoorQPB03
import Derived.Test.YtkpdfhbpdkifoaaGreatDoorQPB02
import Derived.Lib.Builder
import Derived.Lib.AppendStr
import Derived.Lib.UnsafeStr
import Derived.Test.YtkpdfhbpdkifoaaGreatDoorQPB01
import Derived.Test.YtkpdfhbpdkifoaaGreatDoorProg
import Derived.Shelf.LaysM
import Derived.Ground.MpProg
import Derived.Shelf.Strings.Cut
import Derived.Shelf.Strings.SlTrimAscii
import Derived.Shelf.Pu.ErrVarParseUint
import Derived.Shelf.Strings.Prefix
import Derived.Shelf.Small.Wraps
import Derived.Shelf.Strings.Split
import Derived.Shelf.Strconv.Itoa4
import Derived.Shelf.Bits.Mul64
import Derived.Lib.IndexMore
import Derived.Lib.ItoaNum
import Derived.ProofKit
import Derived.OpenShut
import Derived.SizedLaws
import Derived.Deep.Slices
import Derived.Lib.LaidTab
import Derived.Lib.ConvBytes
import Derived.Lib.BufferWrite
import Derived.Deep.WholeRow
import Derived.WalkKit
import Derived.Lib.MakeNoZero
set_option linter.unusedVariables false
set_option linter.unusedSimpArgs false
set_option linter.defProp false
set_option linter.unnecessarySimpa false
set_option maxHeartbeats 8000000
namespace Go.Proofs.YtkpdfhbpdkifoaaGreatDoor
open Go
set_option maxRecDepth 10000
section
variable {α : Type} {cf : α → α → Int} {jn : α → α → α}
def tst(O:List α)(k:Nat)(p:α→Bool):Bool:=match O[k]? with
 |some x=>p x
 |Option.none=>false
theorem zgx{O:List α}{k:Nat}(h:k<O.length)(p:α→Bool):tst O k p=p O[k]:=by unfold tst;rw[List.getElem?_eq_getElem h]
theorem zgY{O:List α}{k:Nat}(h:¬k<O.length)(p:α→Bool):tst O k p=false:=by unfold tst;rw[List.getElem?_eq_none (by omega)]
theorem zjI{r:α}:∀{O:List α} {k:Nat} (hk:k<O.length),(∀j (h:j<O.length),j<k→cf O[j] r<0)→cf O[k] r=0→putC cf jn r O=O.set k (jn O[k] r)
 | [],_,h,_,_=>absurd h (by simp)
 |x::O,0,_,_,h0=>by
  have h0':cf x r=0:=h0
  simp only[putC]
  rw[if_neg (by omega),if_pos h0'];rfl
 |x::O,k+1,hk,h,h0=>by
  have hx:cf x r<0:=h 0 (by simp) (by omega)
  have ih:=zjI (r:=r) (O:=O) (k:=k) (by simpa using hk) (fun j hj hjk=>h (j+1) (by simpa using hj) (by omega)) h0
  simp only[putC]
  rw[if_pos hx,ih];rfl
theorem zhW{r:α}:∀{O:List α} {k:Nat},k≤O.length→(∀j (h:j<O.length),j<k→cf O[j] r<0)→(∀h:k<O.length,¬cf O[k] r<0∧¬cf O[k] r=0)→putC cf jn r O=O.take k++ [r]++O.drop k
 | [],k,h,_,_=>by
  have:k=0:=by simpa using h
  subst this;rfl
 |x::O,0,_,_,hn=>by
  obtain⟨h1,h2⟩:=hn (by simp)
  have h1':¬cf x r<0:=h1
  have h2':¬cf x r=0:=h2
  simp only[putC]
  rw[if_neg h1',if_neg h2'];rfl
 |x::O,k+1,hk,h,hn=>by
  have hx:cf x r<0:=h 0 (by simp) (by omega)
  have ih:=zhW (r:=r) (O:=O) (k:=k) (by simpa using hk) (fun j hj hjk=>h (j+1) (by simpa using hj) (by omega)) (fun h=>hn (by simpa using h))
  simp only[putC]
  rw[if_pos hx,ih];rfl
end
theorem zbi(w:World):zgf 7 (RecAt w):=⟨fun h=>h.len,fun h=>h.ones⟩
theorem RecAt.ttl{w:World}{cs:List Value}{r:RecL}(h:RecAt w cs r):cs[1]? =some (v32 r.ttl):=by
 obtain⟨ow,ds,rfl,_⟩:=h.ex
 rfl
theorem znm(w0 w:World)(hE0:Ext w0 w){v:Value}{R:List RecL}(hR:Rows 7 (RecAt w0) w v R)(hok:∀r∈R,zby r)(hlen:R.length≤1000000000):
  Fn Tryz.prog 13 #[v] w (fun u w'=>Owns 7 (RecAt w0) w.heap.size w' 57 u (zbw R)∧Ext w w'):=by
 obtain⟨aR,cR,rfl,hcR,hgR⟩:=hR.open
 refine enter Tryz.func13 Tryz.ntmps13 rfl rfl ?_
 repeat refine c_r ?_
 refine rg0 ?_
 repeat refine c_r ?_
 refine rg0 ?_
 repeat refine c_r ?_
 refine rg0 ?_
 repeat refine c_r ?_
 refine zaD (fun m σ ds A=>ds=[]∧∃(i:Nat) (vO:Value) (O:List RecL),i+m=R.length∧σ 4=vi i∧σ 0= .slice aR R.length cR∧σ 3=vO∧Owns 7 (RecAt w0) w.heap.size A 57 vO O∧O=zdd zaA minT (fun x:RecL=>x) (R.take i) []∧Ext w A∧(∀o∈O,zby o)∧O.length≤i) R.length ?_ ?_
 ·exact⟨rfl,0,_,[],by omega,vr0,vq0,vq0,Owns.nil _ _ _ _ _,rfl,Keep.refl _ _,fun o h=>absurd h (by simp),by simp⟩
 rintro m σ ds A ⟨rfl,i,vO,O,him,h4,h0,h3,hO,hOf,hEA,hOok,hOi⟩
 repeat refine c_r ?_
 refine rg2 h4 h0 ?_
 repeat refine c_r ?_
 refine wc0 ?_ ?_
 ·intro hlt
  simp only[decide_eq_true_eq]at hlt
  have hiR:i<R.length:=by omega
  have hi0:(0:Int)≤(i:Int):=by omega
  have hi1:(i:Int)<(R.length:Int):=by omega
  have hi1':(i:Int)+1=((i+1:Nat):Int):=by push_cast;rfl
  obtain⟨cr,hcr,hRr⟩:=hgR i hiR
  obtain⟨r,hr⟩:∃r,R[i]=r:=⟨_,rfl⟩
  rw[hr]at hRr
  have hrok:zby r:=hr▸hok _ (List.getElem_mem hiR)
  obtain⟨xR,rfl⟩:=Option.isSome_iff_exists.1 (zav hcr)
  have hf1:zdd zaA minT (fun x:RecL=>x) (R.take (i+1)) []=putC zaA minT r O:=by
   rw[zak hiR,hr,hOf];unfold zdd;rw[List.foldl_append];rfl
  have hn3:∀o∈putC zaA minT r O,zby o:=zei (fun x hx _=>⟨hx.lb,hx.len,hx.dat⟩) hrok hOok
  obtain⟨aO,cO,hvO,hcO,hgO⟩:=hO.rows.open
  rw[hvO]at h3 hO
  clear hvO
  repeat refine c_r ?_
  refine rg0 ?_
  repeat refine c_r ?_
  refine zaD (fun m2 σ2 ds2 A2=>ds2=[]∧∃(k:Nat),k+m2=O.length∧σ2 5=vi k∧σ2 4=vi i∧σ2 0= .slice (some xR) R.length cR∧σ2 3= .slice aO O.length cO∧Ext A A2∧∀j (h:j<O.length),j<k→zaA O[j] r<0) O.length ?_ ?_
  ·exact⟨rfl,0,by omega,vr0,(vq1 h4),(vq1 h0),(vq1 h3),Keep.refl _ _,fun j h hj=>absurd hj (by omega)⟩
  clear h3 h4 h0
  rintro m2 σ ds A2 ⟨rfl,k,hkm,h5,h4,h0,h3,hE2,hlow⟩
  repeat refine c_r ?_
  refine zas (Q:=fun e σ' ds' v'=>e= .normal∧ds'=[]∧σ' 5=vi k∧σ' 4=vi i∧σ' 0= .slice (some xR) R.length cR∧σ' 3= .slice aO O.length cO∧Ext A2 v'∧σ' 28= .bool (tst O k fun x=>decide (zaA x r<0))) ?_ ?_
  ·by_cases hk:k<O.length
   ·rw[zgx hk]
    obtain⟨ck,hck,hRk⟩:=hgO k hk
    obtain⟨xO,rfl⟩:=Option.isSome_iff_exists.1 (zav hck)
    have hkd:decide ((k:Int)<(O.length:Int))=true:=decide_eq_true (by omega)
    have hk0:(0:Int)≤(k:Int):=by omega
    have hk1:(k:Int)<(O.length:Int):=by omega
    refine zaF (fun _=>false) [(0,true),(1,true),(2,true),(3,true),(4,true),(5,true),(6,true),(7,true),(8,true),(9,true),(10,true),(11,true),(12,true),(13,false),(14,true),(15,true)] NoS mixed (by kernel_rfl) ?_;intro gd K x hgd hx hxe hK;clear hxe
    have hg4:∀n σ b,zaE gd n σ (some (4,b))=zap (ev n σ (.tmp 17)) b:=(fun n σ b=>by rw[zag,show gd 4=some 17 from(by rw[hgd];rfl)];rfl)
    have d1:=zah (hE2.trans hx) hck
    have d2:=zah ((hEA.trans hE2).trans hx) hcr
    simp (disch:=first|omega|assumption|rfl) only[go_sem,h5,h4,h0,h3,hkd,decide_true,hk0,hk1,hi0,hi1,d1,d2,↓hg4]
    refine Fn.mono (zdR x _ _ O[k] r (hRk.ext (((hE0.trans hEA).trans hE2).trans hx)) (hRr.ext (((hE0.trans hEA).trans hE2).trans hx)) (hOok _ (List.getElem_mem hk)) hrok) ?_
    rintro _ x2 ⟨rfl,hx2⟩
    refine⟨.inr hx2,?_⟩
    simp (disch:=first|omega|assumption|rfl) only[go_sem,↓hg4]
    refine hK _ _ ?_;clear hK hgd;clear K;try clear gd
    exact⟨rfl,rfl,(vq1 h5),(vq1 h4),(vq1 h0),(vq1 h3),hx.trans hx2,vq0⟩
   ·rw[zgY hk]
    have hkd:decide ((k:Int)<(O.length:Int))=false:=decide_eq_false (by omega)
    refine zaF (fun _=>false) [(0,true),(1,true),(2,true),(3,true),(4,true),(5,true),(6,true),(7,true),(8,true),(9,true),(10,true),(11,true),(12,true),(13,false),(14,true),(15,true)] NoS mixed (by kernel_rfl) ?_;intro gd K x hgd hx hxe hK;clear hxe
    have hg4:∀n σ b,zaE gd n σ (some (4,b))=zap (ev n σ (.tmp 17)) b:=(fun n σ b=>by rw[zag,show gd 4=some 17 from(by rw[hgd];rfl)];rfl)
    simp (disch:=first|omega|assumption|rfl) only[go_sem,h5,h4,h0,h3,hkd,↓hg4]
    refine hK _ _ ?_;clear hK hgd;clear K;try clear gd
    exact⟨rfl,rfl,(vq1 h5),(vq1 h4),(vq1 h0),(vq1 h3),hx,vq0⟩
  clear h5 h4 h0 h3
  rintro _ σ1 _ A3 ⟨rfl,rfl,h5,h4,h0,h3,hE3,h28⟩
  repeat refine c_r ?_
  refine zbK (t:=tst O k fun x=>decide (zaA x r<0)) ((vq1 h28)) ?_ ?_
  ·intro ht
   have hk:k<O.length:=Classical.byContradiction fun h=>by rw[zgY h]at ht;cases ht
   rw[zgx hk,decide_eq_true_eq]at ht
   have hk1':(k:Int)+1=((k+1:Nat):Int):=by push_cast;rfl
   repeat refine c_r ?_
   refine rg2 h5 hk1' ?_
   repeat refine c_r ?_
   refine⟨m2 - 1,by omega,rfl,k+1,by omega,vq0,(vq1 h4),(vq1 h0),(vq1 h3),hE2.trans hE3,fun j hj hjk=>?_⟩
   by_cases hj2:j=k
   ·subst hj2;exact ht
   ·exact hlow j hj (by omega)
  intro ht
  have hstop:∀h:k<O.length,¬zaA O[k] r<0:=fun h h2=>by
   rw[zgx h]at ht
   exact of_decide_eq_false ht h2
  have hkO:k≤O.length:=by omega
  have hE23:=hE2.trans hE3
  clear h28 ht hE3 hE2
  repeat refine c_r ?_
  have hEA3:=hEA.trans hE23
  have hO3:=hO.ext hE23
  refine zas (Q:=fun e σ' ds' v'=>e= .normal∧ds'=[]∧σ' 5=vi k∧σ' 4=vi i∧σ' 0= .slice (some xR) R.length cR∧σ' 3= .slice aO O.length cO∧Ext A3 v'∧σ' 45= .bool (tst O k fun x=>decide (zaA x r=0))) ?_ ?_
  ·by_cases hk:k<O.length
   ·rw[zgx hk]
    obtain⟨ck,hck,hRk⟩:=hgO k hk
    obtain⟨xO,rfl⟩:=Option.isSome_iff_exists.1 (zav hck)
    have hkd:decide ((k:Int)<(O.length:Int))=true:=decide_eq_true (by omega)
    have hk0:(0:Int)≤(k:Int):=by omega
    have hk1:(k:Int)<(O.length:Int):=by omega
    refine zaF (fun _=>false) [(0,true),(1,true),(2,true),(3,true),(4,true),(5,true),(6,true),(7,true),(8,true),(9,true),(10,true),(11,true),(12,true),(13,false),(14,true)] NoS mixed (by kernel_rfl) ?_;intro gd K x hgd hx hxe hK;clear hxe
    have hg4:∀n σ b,zaE gd n σ (some (4,b))=zap (ev n σ (.tmp 35)) b:=(fun n σ b=>by rw[zag,show gd 4=some 35 from(by rw[hgd];rfl)];rfl)
    have d1:=zah (hE23.trans hx) hck
    have d2:=zah (hEA3.trans hx) hcr
    simp (disch:=first|omega|assumption|rfl) only[go_sem,h5,h4,h0,h3,hkd,decide_true,hk0,hk1,hi0,hi1,d1,d2,↓hg4]
    refine Fn.mono (zgh x _ _ O[k] r (hRk.ext ((hE0.trans hEA3).trans hx)) (hRr.ext ((hE0.trans hEA3).trans hx)) (hOok _ (List.getElem_mem hk)) hrok) ?_
    rintro _ x2 ⟨rfl,hx2⟩
    refine⟨.inr hx2,?_⟩
    simp (disch:=first|omega|assumption|rfl) only[go_sem,↓hg4]
    refine hK _ _ ?_;clear hK hgd;clear K;try clear gd
    exact⟨rfl,rfl,(vq1 h5),(vq1 h4),(vq1 h0),(vq1 h3),hx.trans hx2,vq0⟩
   ·rw[zgY hk]
    have hkd:decide ((k:Int)<(O.length:Int))=false:=decide_eq_false (by omega)
    refine zaF (fun _=>false) [(0,true),(1,true),(2,true),(3,true),(4,true),(5,true),(6,true),(7,true),(8,true),(9,true),(10,true),(11,true),(12,true),(13,false),(14,true)] NoS mixed (by kernel_rfl) ?_;intro gd K x hgd hx hxe hK;clear hxe
    have hg4:∀n σ b,zaE gd n σ (some (4,b))=zap (ev n σ (.tmp 35)) b:=(fun n σ b=>by rw[zag,show gd 4=some 35 from(by rw[hgd];rfl)];rfl)
    simp (disch:=first|omega|assumption|rfl) only[go_sem,h5,h4,h0,h3,hkd,↓hg4]
    refine hK _ _ ?_;clear hK hgd;clear K;try clear gd
    exact⟨rfl,rfl,(vq1 h5),(vq1 h4),(vq1 h0),(vq1 h3),hx,vq0⟩
  clear h5 h4 h0 h3
  rintro _ σ1 _ A4 ⟨rfl,rfl,h5,h4,h0,h3,hE4,h45⟩
  have hEA4:=hEA3.trans hE4
  have hO4:=hO3.ext hE4
  repeat refine c_r ?_
  refine zbK (t:=tst O k fun x=>decide (zaA x r=0)) ((vq1 h45)) ?_ ?_
  ·intro ht
   have hk:k<O.length:=Classical.byContradiction fun h=>by rw[zgY h]at ht;cases ht
   rw[zgx hk,decide_eq_true_eq]at ht
   have hput:=zjI (jn:=minT) hk hlow ht
   obtain⟨ck,hck,hRk⟩:=hgO k hk
   obtain⟨xO,rfl⟩:=Option.isSome_iff_exists.1 (zav hck)
   have hk0:(0:Int)≤(k:Int):=by omega
   have hk1:(k:Int)<(O.length:Int):=by omega
   rcases hO4.cases with ⟨hv0,_⟩| ⟨b,cap,LO,hvb,hbB,hbc,hbm,hSD,hLl,hLat⟩
   ·cases hv0
   have hxb:xO=⟨b,0,Option.none⟩:=by injection hvb with e;injection e
   have hcap:cO=cap:=by injection hvb
   subst hxb hcap
   have hgk:=hSD.get (j:=k) (by omega)
   have hRk:=hLat k (by omega) hk
   have f1:zad A4 (some ⟨b,k*7+1,Option.none⟩)=some (v32 (O[k]).ttl):=by
    have h1:=zaN hgk (j:=1) (by rw[hRk.len];omega)
    have h2:=hRk.ttl
    rw[List.getElem?_eq_getElem (by rw[hRk.len];omega)]at h2
    rw[Option.some.inj h2]at h1;exact h1
   have f2:zad A4 (adr (adr (some xR) (i*7)) 1)=some (v32 r.ttl):=by
    have h1:=zaN (zah hEA4 hcr) (j:=1) (by rw[hRr.len];omega)
    have h2:=hRr.ttl
    rw[List.getElem?_eq_getElem (by rw[hRr.len];omega)]at h2
    rw[Option.some.inj h2]at h1;exact h1
   obtain⟨xi,hxi⟩:∃xi,adr (some xR) (i*7)=some xi:=⟨_,rfl⟩
   rw[hxi]at f2
   repeat refine c_r ?_
   refine zaF (fun _=>false) [(0,true),(1,true),(2,true),(3,true),(4,true),(5,true),(6,true),(7,true),(8,true),(9,true),(10,true)] NoS mixed (by kernel_rfl) ?_;intro gd K x hgd hx hxe hK;clear hxe
   have f1':=zab hx f1
   have f2':=zab hx f2
   simp (disch:=first|omega|assumption|rfl) only[go_sem,h5,h4,h0,h3,hk0,hk1,hi0,hi1,f1',f2',hxi,Nat.zero_add]
   refine hK _ _ ?_;clear hK hgd;clear K;try clear gd
   repeat refine c_r ?_
   have hnext:∀{v'},Ext w v'→SD 7 v' b 57 cO (LO.set k (LO[k].set 1 (v32 (min O[k].ttl r.ttl))))→Owns 7 (RecAt w0) w.heap.size v' 57 (.slice (some ⟨b,0,Option.none⟩) O.length cO) (putC zaA minT r O):=fun {v'} _ hD=>by
    rw[hput]
    have:=Owns.of_sd (C:=RecAt w0) (xs:=O.set k (minT O[k] r)) hD hbB (by simpa using hbc) hbm (by simp[hLl]) (all_set hLl hLat hRk.minT)
    simpa using this
   refine wc0 ?_ ?_
   ·intro hlt2
    simp only[decide_eq_true_eq]at hlt2
    have hmin:min O[k].ttl r.ttl=r.ttl:=Int.min_eq_right (by omega)
    rw[hmin]at hnext
    repeat refine c_r ?_
    refine rq ?_;intro gd K hgd hK
    have g2:=zab hx f2
    try simp (disch:=first|omega|assumption|rfl) only[go_sem,h5,h4,h0,h3,hk0,hk1,hi0,hi1,g2,hxi,Nat.zero_add]
    refine SD.setAt (P:=Tryz.prog) (t:=42) (hSD.ext hx) (j:=k) (i:=1) (by omega) (by decide) rfl rfl rfl ?_
    intro v4 hv4 hL4 hk4
    try simp only[go_sem]
    refine hK _ _ ?_;clear hK hgd;clear K;try clear gd
    have hE5:Ext w v4:=Keep.to_ext (hEA4.trans hx) rfl (fun i hi=>by omega) hk4
    repeat refine c_r ?_
    refine rg2 h4 hi1' ?_
    repeat refine c_r ?_
    exact⟨m - 1,by omega,rfl,i+1,_,_,by omega,vq0,(vq1 h0),(vq1 h3),hnext hE5 hL4,hf1.symm,hE5,hn3,by rw[hput];simp;omega⟩
   ·intro hlt2
    simp only[decide_eq_false_iff_not]at hlt2
    have hmin:min O[k].ttl r.ttl=O[k].ttl:=Int.min_eq_left (by omega)
    rw[hmin]at hnext
    have hsame:LO[k].set 1 (v32 O[k].ttl)=LO[k]:=by
     have h2:=hRk.ttl
     apply List.ext_getElem?
     intro j
     rw[List.getElem?_set]
     split
     ·rename_i hj;subst hj
      rw[if_pos (by rw[hRk.len];omega),h2]
     ·rfl
    rw[hsame,List.set_getElem_self]at hnext
    repeat refine c_r ?_
    refine rg2 h4 hi1' ?_
    repeat refine c_r ?_
    exact⟨m - 1,by omega,rfl,i+1,_,_,by omega,vq0,(vq1 h0),(vq1 h3),hnext (hEA4.trans hx) (hSD.ext hx),hf1.symm,hEA4.trans hx,hn3,by rw[hput];simp;omega⟩
  ·intro ht
   have hmiss:∀h:k<O.length,¬zaA O[k] r<0∧¬zaA O[k] r=0:=fun h=>by
    rw[zgx h,decide_eq_false_iff_not]at ht
    exact⟨hstop h,ht⟩
   have hput:=zhW (jn:=minT) hkO hlow hmiss
   have hk0:(0:Int)≤(k:Int):=by omega
   have hk1:(k:Int)≤(O.length:Int):=by omega
   have hcutlo:=hO4.rows.cut (lo:=0) (hi:=k) (by omega) hkO
   have hcuthi:=hO4.rows.cut (lo:=k) (hi:=O.length) hkO (Nat.le_refl _)
   rw[List.drop_zero,Nat.sub_zero]at hcutlo
   rw[List.take_of_length_le (by simp)]at hcuthi
   repeat refine c_r ?_
   refine zas (Q:=fun e σ' ds' v'=>e= .normal∧ds'=[]∧σ' 5=vi k∧σ' 4=vi i∧σ' 0= .slice (some xR) R.length cR∧σ' 3= .slice aO O.length cO∧Ext A4 v'∧∃xv,σ' 6=xv∧Owns 7 (RecAt w0) A4.heap.size v' 57 xv (O.take k++ [r])) ?_ ?_
   ·refine znd (fun _=>false) (.run [(1,true),(2,true),(3,true),(5,true),(6,true),(7,true),(8,true)] (.fork 4 [0,9] (fun i=>if i=0 then(.run [] (.fork 3 [4,9] (fun i=>if i=4 then(.run [(9,false),(10,false),(11,true)] .fin) else(.run [(4,false),(10,false),(11,true)] .fin)))) else(.run [(0,false),(4,false),(10,false),(11,true)] .fin)))) (zcK A4.heap.size) mixed (by kernel_rfl) ?_;intro gd K x hgd hx hxe hK;clear hxe
    have hx0:Ext A4 x:=⟨hx.os,hx.tape,hx.output,hx.size,fun b hb _=>hx.block b hb (by unfold zcK;omega),hx.drawn⟩
    have hxs:=hx.size
    have d2:=zah (hEA4.trans hx0) hcr
    simp (disch:=first|omega|assumption|rfl) only[go_sem,h5,h4,h0,h3,hk0,hk1,hi0,hi1,d2]
    refine⟨fun a ha hb=>by have:=zkc hcr (by decide) ha;have:=hEA4.size;unfold zcK at hb;omega,?_⟩
    simp only[zeC,zfu];refine⟨?_,?_⟩
    ·simp (disch:=first|omega|assumption|rfl) only[go_sem]
     refine zm7 (k:=7) (C:=RecAt w0) rfl rfl rfl rfl ?_
     intro w3 hE3 hs3 ho3
     refine⟨.inr hE3.keep,?_⟩
     simp (disch:=first|omega|assumption|rfl) only[go_sem]
     simp only[zeC,zfu];refine⟨?_,?_⟩
     ·simp (disch:=first|omega|assumption|rfl) only[go_sem]
      refine zbU (zbi w0) ho3 (hcutlo.ext (hx0.trans hE3)) rfl rfl rfl rfl rfl rfl (by decide) (vr0) (vr0) (by simp;omega) (by decide) (by omega) ?_
      intro v4 w4 ho4 hE4' hk4 _
      refine⟨.inr (hk4.mono fun b _ hb=>by have:=(ho3.ge hb).1;show _≤_;omega),?_⟩
      have hE4'':=hE4' _ hE3 (Nat.le_refl _)
      have hs4:=hk4.size
      simp (disch:=first|omega|assumption|rfl) only[go_sem]
      refine zc2 (zbi w0) rfl rfl rfl rfl hRr (by decide) ?_
      intro w5 hE5 hs5 ho5
      refine⟨.inr hE5.keep,?_⟩
      simp (disch:=first|omega|assumption|rfl) only[go_sem]
      refine zbU (zbi w0) (ho4.ext hE5) ho5.rows rfl rfl rfl rfl rfl rfl (by decide) (vr0) (vr0) (by simp;omega) (by decide) (by omega) ?_
      intro v6 w6 ho6 hE6 hk6 _
      refine⟨.inr (hk6.mono fun b _ hb=>by have:=(ho4.ge hb).1;show _≤_;omega),?_⟩
      simp (disch:=first|omega|assumption|rfl) only[go_sem]
      refine hK _ _ ⟨rfl,rfl,(vq1 h5),(vq1 h4),(vq1 h0),(vq1 h3),hx0.trans (hE6 _ (hE4''.trans hE5) (Nat.le_refl _)),_,by simp only[go_sem];rfl,?_⟩
      exact ho6.mono hxs
     ·simp (disch:=first|omega|assumption|rfl) only[go_sem]
      refine zc2 (zbi w0) rfl rfl rfl rfl hRr (by decide) ?_
      intro w5 hE5 hs5 ho5
      refine⟨.inr hE5.keep,?_⟩
      simp (disch:=first|omega|assumption|rfl) only[go_sem]
      refine zbU (zbi w0) (ho3.ext hE5) (hcutlo.ext ((hx0.trans hE3).trans hE5)) rfl rfl rfl rfl rfl rfl (by decide) (vr0) (vr0) (by simp;omega) (by decide) (by omega) ?_
      intro v4 w4 ho4 hE4' hk4 _
      have hs4:=hk4.size
      refine⟨.inr (hk4.mono fun b _ hb=>by have:=(ho3.ge hb).1;show _≤_;omega),?_⟩
      have ho5':=ho5.keep hk4 (fun b hb hb2=>by have:=(ho5.ge hb).1;have:=(ho3.ge hb2).2;omega)
      simp (disch:=first|omega|assumption|rfl) only[go_sem]
      refine zbU (zbi w0) ho4 ho5'.rows rfl rfl rfl rfl rfl rfl (by decide) (vr0) (vr0) (by simp;omega) (by decide) (by omega) ?_
      intro v6 w6 ho6 hE6 hk6 _
      refine⟨.inr (hk6.mono fun b _ hb=>by have:=(ho4.ge hb).1;show _≤_;omega),?_⟩
      simp (disch:=first|omega|assumption|rfl) only[go_sem]
      refine hK _ _ ⟨rfl,rfl,(vq1 h5),(vq1 h4),(vq1 h0),(vq1 h3),hx0.trans (hE6 _ (hE4' _ (hE3.trans hE5) (Nat.le_refl _)) (Nat.le_refl _)),_,by simp only[go_sem];rfl,?_⟩
      exact ho6.mono hxs
    ·simp (disch:=first|omega|assumption|rfl) only[go_sem]
     refine zc2 (zbi w0) rfl rfl rfl rfl hRr (by decide) ?_
     intro w5 hE5 hs5 ho5
     refine⟨.inr hE5.keep,?_⟩
     simp (disch:=first|omega|assumption|rfl) only[go_sem]
     refine zm7 (k:=7) (C:=RecAt w0) rfl rfl rfl rfl ?_
     intro w3 hE3 hs3 ho3
     refine⟨.inr hE3.keep,?_⟩
     simp (disch:=first|omega|assumption|rfl) only[go_sem]
     refine zbU (zbi w0) ho3 (hcutlo.ext ((hx0.trans hE5).trans hE3)) rfl rfl rfl rfl rfl rfl (by decide) (vr0) (vr0) (by simp;omega) (by decide) (by omega) ?_
     intro v4 w4 ho4 hE4' hk4 _
     refine⟨.inr (hk4.mono fun b _ hb=>by have:=(ho3.ge hb).1;show _≤_;omega),?_⟩
     have hE4'':=hE4' _ hE3 (Nat.le_refl _)
     have hs4:=hk4.size
     simp (disch:=first|omega|assumption|rfl) only[go_sem]
     refine zbU (zbi w0) ho4 (ho5.ext hE4'').rows rfl rfl rfl rfl rfl rfl (by decide) (vr0) (vr0) (by simp;omega) (by decide) (by omega) ?_
     intro v6 w6 ho6 hE6 hk6 _
     refine⟨.inr (hk6.mono fun b _ hb=>by have:=(ho4.ge hb).1;show _≤_;omega),?_⟩
     simp (disch:=first|omega|assumption|rfl) only[go_sem]
     refine hK _ _ ⟨rfl,rfl,(vq1 h5),(vq1 h4),(vq1 h0),(vq1 h3),hx0.trans (hE6 _ (hE5.trans hE4'') (by omega)),_,by simp only[go_sem];rfl,?_⟩
     exact ho6.mono (by omega)
   clear h5 h4 h0 h3
   rintro _ σ6 _ v6 ⟨rfl,rfl,h5,h4,h0,h3,hE6,xv,h6,hox⟩
   repeat refine c_r ?_
   refine rq ?_;intro gd K hgd hK
   try simp (disch:=first|omega|assumption|rfl) only[go_sem,h5,h4,h0,h3,h6,hk0,hk1]
   refine zbU (zbi w0) hox (hcuthi.ext hE6) rfl rfl rfl rfl rfl rfl (by decide) ((vq1 h6)) (vr0) (by simp;omega) (by decide) hE6.size ?_
   intro v7 w7 ho7 hE7 _ _
   have hE7':=hE7 _ hE6 (Nat.le_refl _)
   try simp only[go_sem]
   refine hK _ _ ?_;clear hK hgd;clear K;try clear gd
   repeat refine c_r ?_
   refine rg2 h4 hi1' ?_
   repeat refine c_r ?_
   exact⟨m - 1,by omega,rfl,i+1,v7,putC zaA minT r O,by omega,vq0,(vq1 h0),vq0,by rw[hput];exact ho7.mono hEA4.size,hf1.symm,hEA4.trans hE7',hn3,by rw[hput];simp;omega⟩
 ·intro hge
  simp only[decide_eq_false_iff_not]at hge
  have hiR:i=R.length:=by omega
  rw[hiR,List.take_length]at hOf
  repeat refine c_r ?_
  refine rg1 h3 ?_
  repeat refine c_r ?_
  refine rt1 h3 Tryz.ntmps13 ?_
  have hfin:O=zbw R:=hOf
  rw[←hfin]
  exact⟨hO,hEA⟩
theorem RecAt.cells{w0:World}{cs:List Value}{r:RecL}(h:RecAt w0 cs r):∃ow ds,cs=[ow,v32 r.ttl]++ds∧Row w0 ow (r.owner.map vs)∧DatAt w0 ds r.dat∧cs[0]? =some ow∧cs[1]? =some (v32 r.ttl)∧cs[2]? =some (vi r.dat.ty)∧cs.drop 2=ds:=by
 obtain⟨ow,ds,rfl,h1,h2⟩:=h.ex
 obtain⟨nm,nu,tx,rw',rfl,_⟩:=h2.ex
 exact⟨ow,_,rfl,h1,h2,rfl,rfl,rfl,rfl⟩
theorem zhy{P:Program}{w:World}{f:Option Nat}{n:Nat}{c:Code}{Q:Post}{σ:Sto}{ds:List Deferred}{A B C:Obj}(h:∀w1,Ext w w1→w1.heap.size=w.heap.size+3→w1.heap[w.heap.size]? =some A→w1.heap[w.heap.size+1]? =some B→w1.heap[w.heap.size+1+1]? =some C→W P f n c Q σ ds w1):W P f n c Q σ ds (((w.alloc A).alloc B).alloc C):=by
 obtain⟨h1,h2,h3,h4,h5⟩:=zgc w A B C
 exact h _ h1 h2 h3 h4 h5
section
variable {P : Program} {n : Nat} {σ : Sto} {w : World} {l : List ResultVar} {r : List Value}
theorem zae:resV P n σ w []=some []:=rfl
theorem zac{t:Tmp}{v:Value}(hv:ev n σ (.tmp t)=v)(h:resV P n σ w l=some r):resV P n σ w (.tmp t::l)=some (v::r):=by
 unfold resV
 rw[h,←hv];rfl
theorem zaW{a:Tmp}{t:TypeId}{x:Addr}{k:Nat}{cs:List Value}(hv:ev n σ (.tmp a)= .pointer (some x))(hA:tyA P t=true)(hk:tyS P t=k)(hc:zar w (some x) k=some cs)(h:resV P n σ w l=some r):resV P n σ w (.cell a t::l)=some (.agg cs.toArray::r):=by
 subst hk
 unfold resV
 rw[show (if a<n then σ a else undef)= .pointer (some x) from hv]
 have:ldV P w t x=some (.agg cs.toArray):=by
  unfold ldV
  rw[hA,cond_true,show zaQ w x 0 (tyS P t)=some cs from hc];rfl
 simp only[this,h]
theorem zcP{a:Tmp}{t:TypeId}{x:Addr}{v:Value}(hv:ev n σ (.tmp a)= .pointer (some x))(hA:tyA P t=false)(hU:(tyU P t).isSome=true)(hc:zad w (some x)=some v)(h:resV P n σ w l=some r):resV P n σ w (.cell a t::l)=some (v::r):=by
 unfold resV
 rw[show (if a<n then σ a else undef)= .pointer (some x) from hv]
 have:ldV P w t x=some v:=by
  unfold ldV
  rw[hA,cond_false,hU,cond_true];exact hc
 simp only[this,h]
theorem zaf{fn:Func}{R:Value→World→Prop}{e:Exit}(he:e= .normal∨e= .ret)(hm:fn.ntmps=n){rs:List ResultVar}(hl:fn.results.toList=rs)(hr:resV P n σ w rs=some r)(h:R (resT r) w):retQ P fn R e σ [] w:=by
 subst hm hl
 exact⟨he,trivial,r,hr,h⟩
theorem zdC{fn:Func}{R:Value→World→Prop}{e:Exit}{D:Nat}(he:e= .normal∨e= .ret)(hm:fn.ntmps=n){rs:List ResultVar}(hl:fn.results.toList=rs)(hD:w.heap[D]? =some (.deferred (some [])))
  (h:∀w',Keep (fun b=>b=D) w w'→w'.heap.size=w.heap.size→∃r,resV P n σ w' rs=some r∧R (resT r) w'):retQ P fn R e σ [{target:= .collected D,args:=#[]}] w:=by
 subst hm hl
 obtain⟨r,h1,h2⟩:=h (w.putObj D (.deferred Option.none)) (zaK rfl) (by simp)
 exact⟨he,⟨D,rfl,hD,trivial⟩,r,h1,h2⟩
end
theorem zif{w0 w x:World}{n0:Nat}{C:Nat→Prop}(hE:Ext w0 w)(hk:KeepB n0 C w x)(hn:w0.heap.size≤n0)(hC:∀b,C b→w0.heap.size≤b):Ext w0 x:=
 ⟨hk.os.trans hE.os,hk.tape.trans hE.tape,hk.output.trans hE.output,Nat.le_trans hE.size hk.size,fun b hb h=>by
  rw[hk.block b (by omega) (fun h=>by have:=hC b h;omega)]
  exact hE.block b hb (fun h=>h),Nat.le_trans hE.drawn hk.drawn⟩
theorem Own.blk{B:Nat}{w:World}{e:TypeId}{v:Value}{l:List Value}(h:Own B w e v l):BlkB B w v:=fun a n c hv=>(h.rowB).2 a n c hv
theorem znB{w:World}{v:Value}{n:Nm}(hr:Row w v (n.map vs))(hlen:n.length≤1000000000000):
  Fn Tryz.prog 175 #[v] w (fun u w'=>Own w.heap.size w' 9 u (n.map vs)∧Ext w w'):=by
 have hr':=hr
 obtain⟨a,c,rfl,hc,hl⟩:=hr
 refine enter Tryz.func175 Tryz.ntmps175 rfl rfl ?_
 repeat refine c_r ?_
 refine rg0 ?_
 repeat refine c_r ?_
 refine rq ?_;intro gd K hgd hK
 try simp only[go_sem]
 refine zje (by rfl) (by rfl) (by rfl) ?_
 try simp only[go_sem]
 refine hK _ _ ?_;clear hK hgd;clear K;try clear gd
 repeat refine c_r ?_
 cases a with
 |none=>
  have:n=[]:=by
   cases n with
   |nil=>rfl
   |cons x L=>have:=hl 0 (by simp);simp[zad,adr]at this
  subst this
  refine wc0 ?_ ?_
  ·intro _
   repeat refine c_r ?_
   refine rg0 ?_
   repeat refine c_r ?_
   refine rt0 Tryz.ntmps175 ?_
   exact⟨Own.nil _ _ _,Keep.refl _ _⟩
  ·intro h;cases h
 |some a=>
  refine wc0 ?_ ?_
  ·intro h;cases h
  intro _
  repeat refine c_r ?_
  refine rq ?_;intro gd K hgd hK
  try simp only[go_sem]
  refine zkf (z:=vs []) (by rfl) (by rfl) (by rfl) (by rfl) ?_
  intro w1 hE1 hs1 ho1
  try simp only[go_sem]
  refine za8 (B:=w.heap.size) ho1 (hr'.ext hE1) (by rfl) (by rfl) (by rfl) (by rfl) (by rfl) (by rfl) (by rfl) (by rfl) (ones_vs _) (by simp;omega) (by decide) (by omega) ?_
  intro v' w2 ho2 hE2 _ _
  try simp only[go_sem]
  refine hK _ _ ?_;clear hK hgd;clear K;try clear gd
  repeat refine c_r ?_
  refine rt0 Tryz.ntmps175 ?_
  exact⟨by simpa using ho2,hE2 w hE1 (Nat.le_refl _)⟩
theorem findL_at{α:Type}{p:α→Bool}{l pre suf:List α}{x:α}(h:l=pre++x::suf)(hp:∀y∈pre,p y=false)(hx:p x=true):l.find? p=some x:=by
 rw[h,List.find?_append]
 have:pre.find? p=Option.none:=by
  rw[List.find?_eq_none]
  intro y hy
  rw[hp y hy];exact Bool.false_ne_true
 rw[this]
 simp[hx]
theorem zkT{α:Type}{p:α→Bool}{l:List α}(hp:∀y∈l,p y=false):l.find? p=Option.none:=by
 rw[List.find?_eq_none]
 intro y hy
 rw[hp y hy];exact Bool.false_ne_true
def errL(l:Lab):Int:=if l=[] then 8 else if 63<l.length then 3 else 0
def lenN(n:Nm):Nat:=1+(n.map fun l=>1+l.length).sum
def zaL(n:Nm):Int:=match n.find? (fun l=>decide (errL l≠0)) with
 |some l=>errL l
 |Option.none=>if 255<lenN n then 3 else 0
theorem ziN(w:World)(l:Lab)(hl:l.length≤9000000000000000000):Fn Tryz.prog 202 #[vs l] w (fun v w'=>v=vi (errL l)∧Ext w w'):=by
 refine enter Tryz.func202 Tryz.ntmps202 rfl rfl ?_
 repeat refine c_r ?_
 refine rg0 ?_
 repeat refine c_r ?_
 refine rg0 ?_
 repeat refine c_r ?_
 refine wc0 ?_ ?_
 ·intro h
  simp only[decide_eq_true_eq]at h
  repeat (first|refine c_r ?_|refine rg0 ?_)
  refine rt0 Tryz.ntmps202 ?_
  exact⟨by unfold errL;rw[if_pos h],Keep.refl _ _⟩
 intro h
 simp only[decide_eq_false_iff_not]at h
 repeat refine c_r ?_
 refine rg0 ?_
 repeat refine c_r ?_
 refine wc0 ?_ ?_
 ·intro h2
  simp only[decide_eq_true_eq]at h2
  repeat (first|refine c_r ?_|refine rg0 ?_)
  refine rt0 Tryz.ntmps202 ?_
  exact⟨by unfold errL;rw[if_neg h,if_pos (by omega)],Keep.refl _ _⟩
 ·intro h2
  simp only[decide_eq_false_iff_not]at h2
  repeat (first|refine c_r ?_|refine rg0 ?_)
  refine rt0 Tryz.ntmps202 ?_
  exact⟨by unfold errL;rw[if_neg h,if_neg (by omega)],Keep.refl _ _⟩
theorem zgv(w:World)(l:Lab)(hl:l.length≤9000000000000000000):Fn Tryz.prog 49 #[vs l] w (fun v w'=>v=vi (errL l)∧Ext w w'):=by
 refine enter Tryz.func49 Tryz.ntmps49 rfl rfl ?_
 repeat refine c_r ?_
 refine rg0 ?_
 repeat refine c_r ?_
 refine rg0 ?_
 repeat refine c_r ?_
 refine wc0 ?_ ?_
 ·intro h
  simp only[decide_eq_true_eq]at h
  repeat (first|refine c_r ?_|refine rg0 ?_)
  refine rt0 Tryz.ntmps49 ?_
  exact⟨by unfold errL;rw[if_pos h],Keep.refl _ _⟩
 intro h
 simp only[decide_eq_false_iff_not]at h
 repeat refine c_r ?_
 refine rg0 ?_
 repeat refine c_r ?_
 refine wc0 ?_ ?_
 ·intro h2
  simp only[decide_eq_true_eq]at h2
  repeat (first|refine c_r ?_|refine rg0 ?_)
  refine rt0 Tryz.ntmps49 ?_
  exact⟨by unfold errL;rw[if_neg h,if_pos (by omega)],Keep.refl _ _⟩
 ·intro h2
  simp only[decide_eq_false_iff_not]at h2
  repeat (first|refine c_r ?_|refine rg0 ?_)
  refine rt0 Tryz.ntmps49 ?_
  exact⟨by unfold errL;rw[if_neg h,if_neg (by omega)],Keep.refl _ _⟩
theorem sum_take{n:Nm}{i:Nat}(hi:i<n.length)(f:Lab→Nat):((n.take (i+1)).map f).sum=((n.take i).map f).sum+f n[i]:=by
 rw[zak hi,List.map_append,List.sum_append,List.map_cons,List.map_nil,List.sum_cons,List.sum_nil,Nat.add_zero]
theorem zfD:∀(k:Nm),(∀l∈k,l.length≤1000000000)→(k.map fun l=>1+l.length).sum≤1000000001*k.length
 | [],_=>by simp
 |x::k,h=>by
  have h3:=zfD k (fun l hl=>h l (List.mem_cons_of_mem _ hl))
  have h4:=h x (List.mem_cons_self ..)
  rw[List.map_cons,List.sum_cons,List.length_cons];omega
theorem RLen_ok(w:World)(nv:Value)(n:Nm)(hn:Row w nv (n.map vs))(hl:∀l∈n,l.length≤1000000000)(hnl:n.length≤1000000000):
  Fn Tryz.prog 50 #[nv] w (fun v w'=>v=vi (lenN n)∧Ext w w'):=by
 obtain⟨an,cn,rfl,hcn,hgn⟩:=hn
 simp only[List.length_map]at hcn hgn
 rw[List.length_map]
 refine enter Tryz.func50 Tryz.ntmps50 rfl rfl ?_
 repeat refine c_r ?_
 refine rg0 ?_
 repeat refine c_r ?_
 refine rg0 ?_
 repeat refine c_r ?_
 refine rg0 ?_
 repeat refine c_r ?_
 refine zaD (fun m σ ds A=>ds=[]∧∃(i:Nat),i+m=n.length∧σ 4=vi i∧σ 0= .slice an n.length cn∧σ 3=vi (lenN (n.take i))∧Ext w A) n.length ?_ ?_
 ·exact⟨rfl,0,by omega,vr0,vq0,vr0,Keep.refl _ _⟩
 rintro m σ ds A ⟨rfl,i,him,h4,h0,h3,hEA⟩
 repeat refine c_r ?_
 refine rg2 h4 h0 ?_
 repeat refine c_r ?_
 refine wc0 ?_ ?_
 ·intro hlt
  simp only[decide_eq_true_eq]at hlt
  have hi:i<n.length:=by omega
  have hi0:(0:Int)≤(i:Int):=by omega
  have hi1:(i:Int)<(n.length:Int):=by omega
  have hi1':(i:Int)+1=((i+1:Nat):Int):=by push_cast;rfl
  have hg:=zab hEA (hgn i (by simpa using hi))
  rw[List.getElem_map]at hg
  obtain⟨xn,rfl⟩:=Option.isSome_iff_exists.1 (zai hg)
  have hb:=zfD (n.take i) (fun l hl'=>hl l (List.mem_of_mem_take hl'))
  rw[List.length_take]at hb
  have hb2:=hl n[i] (List.getElem_mem hi)
  have hs:((n.take (i+1)).map fun l=>1+l.length).sum=((n.take i).map fun l=>1+l.length).sum+(1+n[i].length):=sum_take hi _
  have hlen:((lenN (n.take i):Nat):Int)+1+((n[i]).length:Int)=((lenN (n.take (i+1)):Nat):Int):=by unfold lenN;rw[hs];omega
  have hln:lenN (n.take i)≤2000000000000000000:=by
   unfold lenN
   have:min i n.length≤1000000000:=by omega
   omega
  repeat refine c_r ?_
  refine rg7 h0 h3 h4 hi0 hi1 hg hlen ?_
  repeat refine c_r ?_
  refine rg2 h4 hi1' ?_
  repeat refine c_r ?_
  exact⟨m - 1,by omega,rfl,i+1,by omega,vq0,(vq1 h0),vq0,hEA⟩
 ·intro hge
  simp only[decide_eq_false_iff_not]at hge
  rw[List.take_of_length_le (by omega)]at h3
  repeat refine c_r ?_
  refine rg1 h3 ?_
  repeat refine c_r ?_
  refine rt1 h3 Tryz.ntmps50 ?_
  exact⟨rfl,hEA⟩
section
variable {P : Program} {d : Option Tmp} {ty : TypeId} {ps : String} {af : Array Edge} {g : Option (Nat × Bool)} {ρ : Operand → Value} {w : World} {K : Value → World → Prop}
theorem zl5{op:BinOp}{t yt:TypeId}{x y:Operand}{u v r:Value}(hx:ρ x=u)(hy:ρ y=v)(hr:(do eqGuard op t x y u v;binOp op t u v:Sem Value).run P w= .ok r w)(h:K r w):
  opW P ⟨d,.binOp op t x y yt,ty,ps,af,g⟩ ρ w K:=by
 have:=zaC (P:=P) (K:=K) hr h
 rw[←hx,←hy]at this
 exact this
theorem zia{t te yt:TypeId}{j:TypeInfo}{x y:Operand}{a:Addr}(ht:tyU P t=some (.pointer te))(hj:P.info? te=some j)(hx:ρ x= .pointer (some a))(hy:ρ y= .pointer (some a))(h:K (.bool false) w):
  opW P ⟨d,.binOp .neq t x y yt,ty,ps,af,g⟩ ρ w K:=by
 refine zl5 hx hy ?_ h
 simp[eqGuard,Lib.run_neq_ptr_same (P:=P) w a (show P.underlying t=_ from ht) hj]
theorem zl7{s t:TypeId}{x:Operand}{u v:Value}{w':World}(hx:ρ x=u)(hr:(convert s t u).run P w= .ok v w')(h:K v w'):opW P ⟨d,.convert s t x,ty,ps,af,g⟩ ρ w K:=by
 show opR P K ((do pure (.value (←convert s t (ρ x))):Sem Next).run P w)
 rw[hx]
 exact zaC hr h
theorem op_appS{B:Nat}{s x:Operand}{t tu e:TypeId}{inf:TypeInfo}{v:Value}{l:List Value}{bs:List UInt8}(hown:Own B w e v l)(ht:tyU P t=some (.slice e))(hu:tyU P tu=some .string)(hi:P.info? e=some inf)(hz:inf.zero=some (.int .u8 0))
  (hsize:inf.size=1) (hby:inf.bytes=1) (hv:ρ s=v) (hx:ρ x=vs bs) (hlen:l.length+bs.length≤100000000000) (hB:B≤w.heap.size)
  (h:∀v' w',Own B w' e v' (l++bs.map zao)→Keep (fun b=>some b=v.ownBlock) w w'→K v' w'):
  opW P ⟨d,.call ⟨.builtin .append,#[s,x],#[t,tu]⟩,ty,ps,af,g⟩ ρ w K:=by
 have hs:(⟨bs.toArray⟩:ByteArray).size=bs.length:=by simp[ByteArray.size]
 obtain⟨v',w',hr,h2,h3,h4⟩:=Lib.run_append_own_string (P:=P) w B t tu ty e inf (show P.underlying t=_ from ht) (show P.underlying tu=_ from hu) hi hz hsize hby v l.length l hown ⟨bs.toArray⟩ (by rw[hs];simp[maxLen];omega) (by rw[hs];omega) hB
 have hc:Lib.strCells ⟨bs.toArray⟩=bs.map zao:=by simp[Lib.strCells,zao]
 rw[hs,hc]at h2
 refine zce (b:= .append) (r:= .ok v' w') (fun v2 w2 h'=>?_) ⟨v',w',by rw[hv,hx];exact hr⟩
 rw[hv,hx]at h'
 have e1:(Builtin.append_ #[t,tu] ty #[v,.string ⟨bs.toArray⟩]).run P w= .ok v2 w2:=h'
 rw[hr]at e1
 cases e1
 have hl:l.length+bs.length=(l++bs.map zao).length:=by simp
 rw[hl]at h2
 exact h v' w' h2 (zeS h3 (zaS _ _ _ _ hr))
theorem zbf{x:Operand}{ts:Array TypeId}{u v:Value}{w':World}(hx:ρ x=u)(hr:(Builtin.unsafeSliceData_ ts ty #[u]).run P w= .ok v w')(h:K v w'):
  opW P ⟨d,.call ⟨.builtin .unsafeSliceData,#[x],ts⟩,ty,ps,af,g⟩ ρ w K:=by
 simp only[opW,execOp,Sem.run_bind,resolve]
 simp only[Sem.run_pure,Result.andThen_ok,invoke,builtin]
 exact zaC (s:=Builtin.unsafeSliceData_ ts ty (Array.map ρ #[x])) (by simpa [hx] using hr) h
theorem zaO{x y:Operand}{ts:Array TypeId}{u z v:Value}{w':World}(hx:ρ x=u)(hy:ρ y=z)(hr:(Builtin.unsafeString_ ts ty #[u,z]).run P w= .ok v w')(h:K v w'):
  opW P ⟨d,.call ⟨.builtin .unsafeString,#[x,y],ts⟩,ty,ps,af,g⟩ ρ w K:=by
 simp only[opW,execOp,Sem.run_bind,resolve]
 simp only[Sem.run_pure,Result.andThen_ok,invoke,builtin]
 exact zaC (s:=Builtin.unsafeString_ ts ty (Array.map ρ #[x,y])) (by simpa [hx,hy] using hr) h
end
structure Bld(B:Nat)(w:World)(b:Nat)(bs:List UInt8):Prop where
 ex:∃p v,(p= .pointer Option.none∨p= .pointer (some ⟨b,0,Option.none⟩))∧w.heap[b]? =some (.cells #[p,v] 63 (0,0))∧Own B w 5 v (bs.map zao)
theorem zfn{B:Nat}{w:World}{e:TypeId}{v:Value}{l:List Value}(h:Own B w e v l){b:Nat}(hb:some b=v.ownBlock):∃cur fr,w.heap[b]? =some (.cells cur e fr):=by
 rcases h.2 with ⟨rfl,_⟩| ⟨g,cap,cur,rfl,_,hg,_⟩
 ·cases hb
 ·cases hb;exact⟨_,_,hg⟩
theorem zm8{B:Nat}{w:World}{v p:Value}{l:List Value}{b:Nat}(h:Own B w 5 v l)(hb:w.heap[b]? =some (.cells #[p,v] 63 (0,0))):some b≠v.ownBlock:=fun he=>by
 obtain⟨cur,fr,h1⟩:=zfn h he
 rw[hb]at h1
 injection h1 with h1
 injection h1 with _ h2
 revert h2;decide
theorem zh5(l:List UInt8):∀q∈l.map zao,one q=true:=fun q hq=>by
 obtain⟨c,_,rfl⟩:=List.mem_map.1 hq;rfl
theorem zcr{w:World}{b:Nat}{p v:Value}(hp:p= .pointer Option.none∨p= .pointer (some ⟨b,0,Option.none⟩))(hb:w.heap[b]? =some (.cells #[p,v] 63 (0,0))):
  Fn Tryz.prog 51 #[.pointer (some ⟨b,0,Option.none⟩)] w (fun _ w'=>w'.heap[b]? =some (.cells #[.pointer (some ⟨b,0,Option.none⟩),v] 63 (0,0))∧Keep (fun i=>i=b) w w'∧w'.heap.size=w.heap.size):=by
 have c0:zad w (some ⟨b,0,Option.none⟩)=some p:=zaa hb rfl
 obtain⟨j,hj,hjs⟩:∃j,Tryz.prog.info? 63=some j∧j.size≠0:=by
  have:(Tryz.prog.info? 63).map (·.size)=some 2:=by kernel_rfl
  obtain⟨j,h1,h2⟩:=Option.map_eq_some_iff.1 this
  exact⟨j,h1,by rw[h2];decide⟩
 rcases hp with rfl|rfl
 ·refine enter Tryz.func51 Tryz.ntmps51 rfl rfl ?_
  repeat refine c_r ?_
  refine rq ?_;intro gd K hgd hK
  try simp (disch:=first|omega|assumption|rfl) only[go_sem,c0,Nat.add_zero]
  refine hK _ _ ?_;clear hK hgd;clear K;try clear gd
  repeat refine c_r ?_
  refine wc0 ?_ ?_
  ·intro _
   have hsh:w.shape? b=some (63,2):=by simp[World.shape?,hb]
   repeat refine c_r ?_
   refine rq ?_;intro gd K hgd hK
   try simp only[go_sem]
   refine zl7 (by rfl) (Lib.run_to_unsafe w ⟨b,0,Option.none⟩ (by rfl) (by rfl) hj hjs hsh (Nat.zero_lt_succ 1)) ?_
   try simp only[go_sem]
   refine⟨.pointer (some ⟨b,0,Option.none⟩),w,?_,?_⟩
   ·rw[run_callFunc_extern (show Tryz.prog.funcs[78]? =_ from Tryz.func78) (by kernel_rfl) (by kernel_rfl) (by kernel_rfl) (e:=Extern.AbiNoEscape.same) (by kernel_rfl)]
    rw[Lib.run_noEscape]
    rfl
   try simp only[go_sem]
   refine zl7 (by rfl) (Lib.run_from_unsafe w ⟨b,0,Option.none⟩ (by rfl) (by rfl) hj hsh (by kernel_rfl)) ?_
   try simp only[go_sem]
   refine zdc (P:=Tryz.prog) (t:=61) (j:=0) (l:=[.pointer Option.none,v]) hb (by simp) rfl rfl rfl ?_
   intro w1 hs1 hb1 hk1
   try simp only[go_sem]
   refine hK _ _ ?_;clear hK hgd;clear K;try clear gd
   repeat refine c_r ?_
   exact zaw (by simp) rfl ⟨by simpa using hb1,hk1,hs1⟩
  ·intro h;cases h
 ·refine enter Tryz.func51 Tryz.ntmps51 rfl rfl ?_
  repeat refine c_r ?_
  refine rq ?_;intro gd K hgd hK
  try simp (disch:=first|omega|assumption|rfl) only[go_sem,c0,Nat.add_zero]
  refine hK _ _ ?_;clear hK hgd;clear K;try clear gd
  repeat refine c_r ?_
  refine wc0 ?_ ?_
  ·intro h;cases h
  intro _
  repeat refine c_r ?_
  refine rq ?_;intro gd K hgd hK
  try simp (disch:=first|omega|assumption|rfl) only[go_sem,c0,Nat.add_zero]
  refine zia (by rfl) hj (by rfl) (by rfl) ?_
  try simp only[go_sem]
  refine hK _ _ ?_;clear hK hgd;clear K;try clear gd
  repeat refine c_r ?_
  refine wc0 ?_ ?_
  ·intro h;cases h
  intro _
  repeat refine c_r ?_
  exact zaw (by simp) rfl ⟨hb,Keep.refl _ _,rfl⟩
theorem zaU{B:Nat}{w:World}{b:Nat}{bs s:List UInt8}(h:Bld B w b bs)(hB:B≤w.heap.size)(hlen:bs.length+s.length≤100000000000):
  Fn Tryz.prog 23 #[.pointer (some ⟨b,0,Option.none⟩),vs s] w (fun _ w'=>Bld B w' b (bs++s)∧Keep (fun i=>i=b∨B≤i) w w'):=by
 obtain⟨p,v,hp,hb,hown⟩:=h.ex
 have hne:=zm8 hown hb
 obtain⟨inf,hi,hz,hsz,hby⟩:=info_parts (P:=Tryz.prog) (e:=5) (z:= .int .u8 0) (size:=1) (bytes:=1) (by kernel_rfl)
 refine enter Tryz.func23 Tryz.ntmps23 rfl rfl ?_
 repeat refine c_r ?_
 refine rg0 ?_
 repeat refine c_r ?_
 refine rq ?_;intro gd K hgd hK
 try simp only[go_sem]
 refine Fn.mono (zcr hp hb) ?_
 rintro _ w1 ⟨hb1,hk1,hs1⟩
 try simp only[go_sem]
 refine hK _ _ ?_;clear hK hgd;clear K;try clear gd
 have hown1:=hown.keep hk1 (fun i hi he=>hne (he▸hi))
 have c1:zad w1 (some ⟨b,1,Option.none⟩)=some v:=zaa hb1 rfl
 repeat refine c_r ?_
 refine rq ?_;intro gd K hgd hK
 try simp (disch:=first|omega|assumption|rfl) only[go_sem,c1,Nat.zero_add]
 refine op_appS hown1 (by rfl) (by rfl) hi hz hsz hby (by rfl) (by rfl) (by simpa using hlen) (by omega) ?_
 intro v2 w2 hown2 hk2
 try simp only[go_sem]
 have hb2:=(hk2.block b (Array.getElem?_eq_some_iff.1 hb1).1 hne).trans hb1
 have hne2:some b≠v2.ownBlock:=fun he=>by
  obtain⟨cur,fr,h1⟩:=zfn hown2 he
  rw[hb2]at h1
  injection h1 with h1
  injection h1 with _ h2
  revert h2;decide
 obtain⟨a2,c2,hv2⟩:=hown2.slice
 refine zdc (P:=Tryz.prog) (t:=43) (j:=1) (l:=[.pointer (some ⟨b,0,Option.none⟩),v]) hb2 (by simp) (by rw[hv2];rfl) rfl rfl ?_
 intro w3 hs3 hb3 hk3
 try simp only[go_sem]
 refine hK _ _ ?_;clear hK hgd;clear K;try clear gd
 have hown3:=hown2.keep hk3 (fun i hi he=>hne2 (he▸hi))
 repeat refine c_r ?_
 refine rg0 ?_
 repeat refine c_r ?_
 refine zaf (.inr rfl) Tryz.ntmps23 rfl (zac rfl (zac rfl zae)) ?_
 refine⟨⟨⟨_,v2,.inr rfl,by simpa using hb3,by rw[List.map_append];exact hown3⟩⟩,?_⟩
 exact((hk1.mono (fun i _ h=> .inl h)).trans (hk2.mono (fun i _ h=> .inr (hown1.ge h).1))).trans (hk3.mono (fun i _ h=> .inl h))
theorem zbb{B:Nat}{w:World}{b:Nat}{bs:List UInt8}{c:UInt8}(h:Bld B w b bs)(hB:B≤w.heap.size)(hlen:bs.length+1≤100000000000):
  Fn Tryz.prog 76 #[.pointer (some ⟨b,0,Option.none⟩),zao c] w (fun _ w'=>Bld B w' b (bs++ [c])∧Keep (fun i=>i=b∨B≤i) w w'):=by
 obtain⟨p,v,hp,hb,hown⟩:=h.ex
 have hne:=zm8 hown hb
 refine enter Tryz.func76 Tryz.ntmps76 rfl rfl ?_
 repeat refine c_r ?_
 refine rg0 ?_
 repeat refine c_r ?_
 refine rq ?_;intro gd K hgd hK
 try simp only[go_sem]
 refine Fn.mono (zcr hp hb) ?_
 rintro _ w1 ⟨hb1,hk1,hs1⟩
 try simp only[go_sem]
 refine hK _ _ ?_;clear hK hgd;clear K;try clear gd
 have hown1:=hown.keep hk1 (fun i hi he=>hne (he▸hi))
 have c1:zad w1 (some ⟨b,1,Option.none⟩)=some v:=zaa hb1 rfl
 repeat refine c_r ?_
 refine rq ?_;intro gd K hgd hK
 try simp (disch:=first|omega|assumption|rfl) only[go_sem,c1,Nat.zero_add]
 refine zbk (z:= .int .u8 0) (v:=zao c) (by rfl) (by rfl) (by rfl) (by rfl) (by rfl) ?_
 intro x1 hX1 hXs hXo
 try simp only[go_sem]
 refine za8 (B:=B) (hown1.ext hX1) hXo.row (by rfl) (by rfl) (by rfl) (by rfl) (by rfl) (by rfl) (by rfl) (by rfl) (zh5 [c]) (by simp;omega) (by decide) (by have:=hX1.size;omega) ?_
 intro v2 w2 hown2 _ hk2 hfr
 try simp only[go_sem]
 have hb2:=(hk2.block b (by have:=(Array.getElem?_eq_some_iff.1 hb1).1;have:=hX1.size;omega) hne).trans (Ext.at hX1 hb1)
 have hne2:some b≠v2.ownBlock:=fun he=>by
  obtain⟨cur,fr,h1⟩:=zfn hown2 he
  rw[hb2]at h1
  injection h1 with h1
  injection h1 with _ h2
  revert h2;decide
 obtain⟨a2,c2,hv2⟩:=hown2.slice
 refine zdc (P:=Tryz.prog) (t:=43) (j:=1) (l:=[.pointer (some ⟨b,0,Option.none⟩),v]) hb2 (by simp) (by rw[hv2];rfl) rfl rfl ?_
 intro w3 hs3 hb3 hk3
 try simp only[go_sem]
 refine hK _ _ ?_;clear hK hgd;clear K;try clear gd
 have hown3:=hown2.keep hk3 (fun i hi he=>hne2 (he▸hi))
 repeat refine c_r ?_
 refine rg0 ?_
 repeat refine c_r ?_
 refine zaf (.inr rfl) Tryz.ntmps76 rfl (zac rfl zae) ?_
 refine⟨⟨⟨_,v2,.inr rfl,by simpa using hb3,by rw[List.map_append];exact hown3⟩⟩,?_⟩
 exact(((hk1.mono (fun i _ h=> .inl h)).trans (hX1.mono (fun i _ h=>h.elim))).trans (hk2.mono (fun i _ h=> .inr (hown1.ge h).1))).trans (hk3.mono (fun i _ h=> .inl h))
theorem zdX(w:World)(p:Addr)(n:Nat):Keep (fun i=>i=p.block) w (w.freeze p n):=by
 unfold World.freeze
 split
 ·exact Keep.refl _ _
 ·exact⟨rfl,rfl,rfl,by simp,fun k hk hne=>by
   simp only[Array.getElem?_modify]
   rw[if_neg (fun h=>hne h.symm)],Nat.le_refl _⟩
theorem zcL{B:Nat}{w:World}{b:Nat}{bs:List UInt8}(h:Bld B w b bs)(hlen:bs.length≤100000000000):
  Fn Tryz.prog 31 #[.pointer (some ⟨b,0,Option.none⟩)] w (fun v w'=>v=vs bs∧Keep (fun i=>B≤i) w w'):=by
 obtain⟨p,v,hp,hb,hown⟩:=h.ex
 rcases hown.2 with ⟨rfl,hl⟩| ⟨g,cap,cur,rfl,hgB,hg,hn,hcap,hcs,hx⟩
 ·have h0:bs=[]:=by simpa using hl
  subst h0
  refine enter Tryz.func31 Tryz.ntmps31 rfl rfl ?_
  repeat refine c_r ?_
  refine rg0 ?_
  repeat refine c_r ?_
  refine zaF (fun _=>false) [(0,true),(1,true),(2,true),(3,true),(5,true),(6,true),(7,true),(8,true),(9,true),(4,false),(10,false),(11,true)] NoS mixed (by kernel_rfl) ?_;intro gd K x hgd hx hxe hK;have hx0:=zaT hxe;clear hxe
  have c1:zad x (some ⟨b,1,Option.none⟩)=some (.slice Option.none 0 0):=zaa (Ext.at hx0 hb) rfl
  simp (disch:=first|omega|assumption|rfl) only[go_sem,c1,Nat.zero_add]
  refine zbf (u:= .slice Option.none 0 0) (vq0) (Lib.run_unsafeSliceData_nil _ _ _ _ _) ?_
  refine⟨.inr (Keep.refl _ _),?_⟩
  refine zaO (u:= .pointer Option.none) (z:=vi 0) (vq0) (vr0) (Lib.run_unsafeString_none (P:=Tryz.prog) _ _ _ _ _) ?_
  refine⟨.inr (Keep.refl _ _),?_⟩
  refine hK _ _ ?_;clear hK hgd;clear K;try clear gd
  repeat refine c_r ?_
  refine zaf (.inr rfl) Tryz.ntmps31 rfl (zac (vr0) zae) ?_
  exact⟨rfl,hx0.mono (fun i _ h=>h.elim)⟩
 by_cases h0:bs=[]
 ·subst h0
  refine enter Tryz.func31 Tryz.ntmps31 rfl rfl ?_
  repeat refine c_r ?_
  refine rg0 ?_
  repeat refine c_r ?_
  refine zaF (fun _=>false) [(0,true),(1,true),(2,true),(3,true),(5,true),(6,true),(7,true),(8,true),(9,true),(4,false),(10,false),(11,true)] NoS mixed (by kernel_rfl) ?_;intro gd K x hgd hx hxe hK;have hx0:=zaT hxe;clear hxe
  have c1:zad x (some ⟨b,1,Option.none⟩)=some (.slice (some ⟨g,0,Option.none⟩) 0 cap):=zaa (Ext.at hx0 hb) rfl
  have hgx:=Ext.at hx0 hg
  simp (disch:=first|omega|assumption|rfl) only[go_sem,c1,Nat.zero_add]
  by_cases hc0:cap=0
  ·subst hc0
   refine zbf (u:= .slice (some ⟨g,0,Option.none⟩) 0 0) (vq0) (Lib.run_unsafeSliceData_zero (P:=Tryz.prog) _ _ _ 5 (by rfl) _ _ _ (by simp only[World.shape?,hgx];rfl)) ?_
   refine⟨.inr (Ext.alloc x _),?_⟩
   refine zaO (u:= .pointer (some ⟨x.heap.size,0,Option.none⟩)) (z:=vi 0) (vq0) (vr0) (Lib.run_unsafeString_none (P:=Tryz.prog) _ _ _ _ _) ?_
   refine⟨.inr (Keep.refl _ _),?_⟩
   refine hK _ _ ?_;clear hK hgd;clear K;try clear gd
   repeat refine c_r ?_
   refine zaf (.inr rfl) Tryz.ntmps31 rfl (zac (vr0) zae) ?_
   exact⟨rfl,(hx0.trans (Ext.alloc x _)).mono (fun i _ h=>h.elim)⟩
  ·refine zbf (u:= .slice (some ⟨g,0,Option.none⟩) 0 cap) (vq0) (Lib.run_unsafeSliceData_row _ _ _ _ _ _ hc0) ?_
   refine⟨.inr (Keep.refl _ _),?_⟩
   refine zaO (u:= .pointer (some ⟨g,0,Option.none⟩)) (z:=vi 0) (vq0) (vr0) (Lib.run_unsafeString_none (P:=Tryz.prog) _ _ _ _ _) ?_
   refine⟨.inr (Keep.refl _ _),?_⟩
   refine hK _ _ ?_;clear hK hgd;clear K;try clear gd
   repeat refine c_r ?_
   refine zaf (.inr rfl) Tryz.ntmps31 rfl (zac (vr0) zae) ?_
   exact⟨rfl,hx0.mono (fun i _ h=>h.elim)⟩
 simp only[List.length_map,Nat.mul_one]at hn hx hb hcs
 have hlen0:0<bs.length:=List.length_pos_iff.2 h0
 refine enter Tryz.func31 Tryz.ntmps31 rfl rfl ?_
 repeat refine c_r ?_
 refine rg0 ?_
 repeat refine c_r ?_
 have hbg:b≠g:=fun he=>by
  subst he
  rw[hb]at hg
  injection hg with hg
  injection hg with _ h2
  revert h2;decide
 have hc0:cap≠0:=by omega
 refine zaF (fun _=>false) [(0,true),(1,true),(2,true),(3,true),(5,true),(6,true),(7,true),(8,true),(9,true),(4,false),(10,false),(11,true)] ((fun i=>i=g)) mixed (by kernel_rfl) ?_;intro gd K x hgd hx hxe hK;have hx0:=zaT hxe;clear hxe
 have c1:zad x (some ⟨b,1,Option.none⟩)=some (.slice (some ⟨g,0,Option.none⟩) bs.length cap):=zaa (Ext.at hx0 hb) rfl
 have hgx:=Ext.at hx0 hg
 simp (disch:=first|omega|assumption|rfl) only[go_sem,c1,Nat.zero_add]
 refine⟨fun a ha hb=>(by cases ha;exact hbg hb),fun a ha hb=>(by cases ha;exact hbg hb),?_⟩
 refine zbf (u:= .slice (some ⟨g,0,Option.none⟩) bs.length cap) (vq0) (Lib.run_unsafeSliceData_row _ _ _ _ _ _ hc0) ?_
 refine⟨.inr (Keep.refl _ _),?_⟩
 refine zaO (u:= .pointer (some ⟨g,0,Option.none⟩)) (z:=vi bs.length) (vq0) (vq0) (Lib.run_unsafeString_row (P:=Tryz.prog) _ _ _ _ 5 (by rfl) (by rfl) g (cap*1) (by simp[World.shape?,hgx,hcs]) bs h0 (by omega) (by omega) ?_) ?_
 ·intro j y hj
  obtain⟨hj1,hj2⟩:=List.getElem?_eq_some_iff.1 hj
  have hcell:=hown.row
  obtain⟨a,c,e,hc,hgt⟩:=hcell.ext hx0
  injection e with e1 e2 e3
  have h2:=hgt j (by simpa using hj1)
  rw[←e1,List.getElem_map,hj2]at h2
  exact h2
 have hfk:Keep (fun i=>i=g) x (x.freeze ⟨g,0,Option.none⟩ bs.length):=zdX x ⟨g,0,Option.none⟩ bs.length
 refine⟨.inr hfk,?_⟩
 refine hK _ _ ?_;clear hK hgd;clear K;try clear gd
 repeat refine c_r ?_
 refine zaf (.inr rfl) Tryz.ntmps31 rfl (zac (vr0) zae) ?_
 exact⟨rfl,(hx0.mono (fun i _ h=>h.elim)).trans (hfk.mono (fun i _ h=>h▸hgB))⟩
end Go.Proofs.YtkpdfhbpdkifoaaGreatDoor
namespace Go.Proofs
open Go.Shelf
def Tryz.lays145_ren:Go.Shelf.Ren:=⟨fun|145=>124|220=>152|219=>170|217=>114|225=>196|224=>197|267=>198|266=>148|314=>228|n=>n,fun|9=>9|4=>4|59=>188|3=>3|5=>5|46=>181|146=>283|51=>42|n=>n,fun|1=>1|n=>n⟩
theorem Tryz.lays145:Go.Proofs.Lays.n145 Tryz.prog Tryz.lays145_ren:={
 mixed:=by kernel_rfl
 f145:=Tryz.func124.trans (congrArg some (by kernel_rfl))
 f217:=Tryz.func114.trans (congrArg some (by kernel_rfl))
 f219:=Tryz.func170.trans (congrArg some (by kernel_rfl))
 f220:=Tryz.func152.trans (congrArg some (by kernel_rfl))
 f224:=Tryz.func197.trans (congrArg some (by kernel_rfl))
 f225:=Tryz.func196.trans (congrArg some (by kernel_rfl))
 f266:=Tryz.func148.trans (congrArg some (by kernel_rfl))
 f267:=Tryz.func198.trans (congrArg some (by kernel_rfl))
 f314:=Tryz.func228.trans (congrArg some (by kernel_rfl))
 t3:=Tryz.underlying3
 a3:=Tryz.isAgg3
 z3:=Tryz.sizeOf3
 v3:=Tryz.zeroValue3
 t4:=Tryz.underlying4
 a4:=Tryz.isAgg4
 z4:=Tryz.sizeOf4
 v4:=Tryz.zeroValue4
 t5:=Tryz.underlying5
 a5:=Tryz.isAgg5
 z5:=Tryz.sizeOf5
 v5:=Tryz.zeroValue5
 t9:=Tryz.underlying9
 a9:=Tryz.isAgg9
 z9:=Tryz.sizeOf9
 v9:=Tryz.zeroValue9
 t46:=Tryz.underlying181
 a46:=Tryz.isAgg181
 z46:=Tryz.sizeOf181
 v46:=Tryz.zeroValue181
 t51:=Tryz.underlying42
 a51:=Tryz.isAgg42
 z51:=Tryz.sizeOf42
 v51:=Tryz.zeroValue42
 t59:=Tryz.underlying188
 a59:=Tryz.isAgg188
 z59:=Tryz.sizeOf188
 v59:=Tryz.zeroValue188
 t146:=Tryz.underlying283
 a146:=Tryz.isAgg283
 z146:=Tryz.sizeOf283
 v146:=Tryz.zeroValue283
 g1:=by kernel_rfl}
def Tryz.lays160_ren:Go.Shelf.Ren:=⟨fun|160=>163|232=>183|231=>182|227=>184|234=>186|233=>185|236=>188|235=>187|228=>211|271=>214|151=>213|197=>212|120=>238|152=>237|260=>236|137=>75|119=>261|224=>197|225=>196|217=>114|266=>148|n=>n,fun|9=>9|4=>4|3=>3|5=>5|117=>246|116=>245|0=>0|124=>249|21=>21|105=>269|46=>181|119=>312|139=>315|138=>314|n=>n,fun|3=>4|4=>5|n=>n⟩
theorem Tryz.lays160:Go.Proofs.Lays.n160 Tryz.prog Tryz.lays160_ren:={
 mixed:=by kernel_rfl
 f119:=Tryz.func261.trans (congrArg some (by kernel_rfl))
 f120:=Tryz.func238.trans (congrArg some (by kernel_rfl))
 f137:=Tryz.func75.trans (congrArg some (by kernel_rfl))
 f151:=Tryz.func213.trans (congrArg some (by kernel_rfl))
 f152:=Tryz.func237.trans (congrArg some (by kernel_rfl))
 f160:=Tryz.func163.trans (congrArg some (by kernel_rfl))
 f197:=Tryz.func212.trans (congrArg some (by kernel_rfl))
 f217:=Tryz.func114.trans (congrArg some (by kernel_rfl))
 f224:=Tryz.func197.trans (congrArg some (by kernel_rfl))
 f225:=Tryz.func196.trans (congrArg some (by kernel_rfl))
 f227:=Tryz.func184.trans (congrArg some (by kernel_rfl))
 f228:=Tryz.func211.trans (congrArg some (by kernel_rfl))
 f231:=Tryz.func182.trans (congrArg some (by kernel_rfl))
 f232:=Tryz.func183.trans (congrArg some (by kernel_rfl))
 f233:=Tryz.func185.trans (congrArg some (by kernel_rfl))
 f234:=Tryz.func186.trans (congrArg some (by kernel_rfl))
 f235:=Tryz.func187.trans (congrArg some (by kernel_rfl))
 f236:=Tryz.func188.trans (congrArg some (by kernel_rfl))
 f260:=Tryz.func236.trans (congrArg some (by kernel_rfl))
 f266:=Tryz.func148.trans (congrArg some (by kernel_rfl))
 f271:=Tryz.func214.trans (congrArg some (by kernel_rfl))
 t0:=Tryz.underlying0
 a0:=Tryz.isAgg0
 z0:=Tryz.sizeOf0
 v0:=Tryz.zeroValue0
 t3:=Tryz.underlying3
 a3:=Tryz.isAgg3
 z3:=Tryz.sizeOf3
 v3:=Tryz.zeroValue3
 t4:=Tryz.underlying4
 a4:=Tryz.isAgg4
 z4:=Tryz.sizeOf4
 v4:=Tryz.zeroValue4
 t5:=Tryz.underlying5
 a5:=Tryz.isAgg5
 z5:=Tryz.sizeOf5
 v5:=Tryz.zeroValue5
 t9:=Tryz.underlying9
 a9:=Tryz.isAgg9
 z9:=Tryz.sizeOf9
 v9:=Tryz.zeroValue9
 t21:=Tryz.underlying21
 a21:=Tryz.isAgg21
 z21:=Tryz.sizeOf21
 v21:=Tryz.zeroValue21
 t46:=Tryz.underlying181
 a46:=Tryz.isAgg181
 z46:=Tryz.sizeOf181
 v46:=Tryz.zeroValue181
 t105:=Tryz.underlying269
 a105:=Tryz.isAgg269
 z105:=Tryz.sizeOf269
 v105:=Tryz.zeroValue269
 t116:=Tryz.underlying245
 a116:=Tryz.isAgg245
 z116:=Tryz.sizeOf245
 t117:=Tryz.underlying246
 a117:=Tryz.isAgg246
 z117:=Tryz.sizeOf246
 v117:=Tryz.zeroValue246
 t119:=Tryz.underlying312
 a119:=Tryz.isAgg312
 z119:=Tryz.sizeOf312
 t124:=Tryz.underlying249
 a124:=Tryz.isAgg249
 z124:=Tryz.sizeOf249
 v124:=Tryz.zeroValue249
 t138:=Tryz.underlying314
 a138:=Tryz.isAgg314
 z138:=Tryz.sizeOf314
 v138:=Tryz.zeroValue314
 t139:=Tryz.underlying315
 a139:=Tryz.isAgg315
 z139:=Tryz.sizeOf315
 v139:=Tryz.zeroValue315
 g3:=by kernel_rfl
 g4:=by kernel_rfl}
def Tryz.lays99_ren:Go.Shelf.Ren:=⟨fun|99=>95|206=>130|n=>n,fun|9=>9|4=>4|3=>3|n=>n,fun|n=>n⟩
theorem Tryz.lays99:Go.Proofs.Lays.n99 Tryz.prog Tryz.lays99_ren:={
 mixed:=by kernel_rfl
 f99:=Tryz.func95.trans (congrArg some (by kernel_rfl))
 f206:=Tryz.func130.trans (congrArg some (by kernel_rfl))
 t3:=Tryz.underlying3
 a3:=Tryz.isAgg3
 z3:=Tryz.sizeOf3
 v3:=Tryz.zeroValue3
 t4:=Tryz.underlying4
 a4:=Tryz.isAgg4
 z4:=Tryz.sizeOf4
 v4:=Tryz.zeroValue4
 t9:=Tryz.underlying9
 a9:=Tryz.isAgg9
 z9:=Tryz.sizeOf9
 v9:=Tryz.zeroValue9}
def Tryz.lays103_ren:Go.Shelf.Ren:=⟨fun|103=>192|210=>217|206=>130|n=>n,fun|9=>9|4=>4|24=>107|3=>3|n=>n,fun|n=>n⟩
theorem Tryz.lays103:Go.Proofs.Lays.n103 Tryz.prog Tryz.lays103_ren:={
 mixed:=by kernel_rfl
 f103:=Tryz.func192.trans (congrArg some (by kernel_rfl))
 f206:=Tryz.func130.trans (congrArg some (by kernel_rfl))
 f210:=Tryz.func217.trans (congrArg some (by kernel_rfl))
 t3:=Tryz.underlying3
 a3:=Tryz.isAgg3
 z3:=Tryz.sizeOf3
 v3:=Tryz.zeroValue3
 t4:=Tryz.underlying4
 a4:=Tryz.isAgg4
 z4:=Tryz.sizeOf4
 v4:=Tryz.zeroValue4
 t9:=Tryz.underlying9
 a9:=Tryz.isAgg9
 z9:=Tryz.sizeOf9
 v9:=Tryz.zeroValue9
 t24:=Tryz.underlying107
 a24:=Tryz.isAgg107
 z24:=Tryz.sizeOf107
 v24:=Tryz.zeroValue107}
def Tryz.lays146_ren:Go.Shelf.Ren:=⟨fun|146=>205|221=>231|268=>252|138=>253|143=>254|195=>266|197=>212|218=>267|219=>170|260=>236|217=>114|225=>196|224=>197|267=>198|266=>148|314=>228|n=>n,fun|9=>9|31=>23|3=>3|4=>4|0=>0|105=>269|21=>21|5=>5|46=>181|119=>312|139=>315|138=>314|146=>283|51=>42|n=>n,fun|1=>1|3=>4|4=>5|n=>n⟩
theorem Tryz.lays146:Go.Proofs.Lays.n146 Tryz.prog Tryz.lays146_ren:={
 mixed:=by kernel_rfl
 f138:=Tryz.func253.trans (congrArg some (by kernel_rfl))
 f143:=Tryz.func254.trans (congrArg some (by kernel_rfl))
 f146:=Tryz.func205.trans (congrArg some (by kernel_rfl))
 f195:=Tryz.func266.trans (congrArg some (by kernel_rfl))
 f197:=Tryz.func212.trans (congrArg some (by kernel_rfl))
 f217:=Tryz.func114.trans (congrArg some (by kernel_rfl))
 f218:=Tryz.func267.trans (congrArg some (by kernel_rfl))
 f219:=Tryz.func170.trans (congrArg some (by kernel_rfl))
 f221:=Tryz.func231.trans (congrArg some (by kernel_rfl))
 f224:=Tryz.func197.trans (congrArg some (by kernel_rfl))
 f225:=Tryz.func196.trans (congrArg some (by kernel_rfl))
 f260:=Tryz.func236.trans (congrArg some (by kernel_rfl))
 f266:=Tryz.func148.trans (congrArg some (by kernel_rfl))
 f267:=Tryz.func198.trans (congrArg some (by kernel_rfl))
 f268:=Tryz.func252.trans (congrArg some (by kernel_rfl))
 f314:=Tryz.func228.trans (congrArg some (by kernel_rfl))
 t0:=Tryz.underlying0
 a0:=Tryz.isAgg0
 z0:=Tryz.sizeOf0
 v0:=Tryz.zeroValue0
 t3:=Tryz.underlying3
 a3:=Tryz.isAgg3
 z3:=Tryz.sizeOf3
 v3:=Tryz.zeroValue3
 t4:=Tryz.underlying4
 a4:=Tryz.isAgg4
 z4:=Tryz.sizeOf4
 v4:=Tryz.zeroValue4
 t5:=Tryz.underlying5
 a5:=Tryz.isAgg5
 z5:=Tryz.sizeOf5
 v5:=Tryz.zeroValue5
 t9:=Tryz.underlying9
 a9:=Tryz.isAgg9
 z9:=Tryz.sizeOf9
 v9:=Tryz.zeroValue9
 t21:=Tryz.underlying21
 a21:=Tryz.isAgg21
 z21:=Tryz.sizeOf21
 v21:=Tryz.zeroValue21
 t31:=Tryz.underlying23
 a31:=Tryz.isAgg23
 z31:=Tryz.sizeOf23
 v31:=Tryz.zeroValue23
 t46:=Tryz.underlying181
 a46:=Tryz.isAgg181
 z46:=Tryz.sizeOf181
 v46:=Tryz.zeroValue181
 t51:=Tryz.underlying42
 a51:=Tryz.isAgg42
 z51:=Tryz.sizeOf42
 v51:=Tryz.zeroValue42
 t105:=Tryz.underlying269
 a105:=Tryz.isAgg269
 z105:=Tryz.sizeOf269
 v105:=Tryz.zeroValue269
 t119:=Tryz.underlying312
 a119:=Tryz.isAgg312
 z119:=Tryz.sizeOf312
 t138:=Tryz.underlying314
 a138:=Tryz.isAgg314
 z138:=Tryz.sizeOf314
 v138:=Tryz.zeroValue314
 t139:=Tryz.underlying315
 a139:=Tryz.isAgg315
 z139:=Tryz.sizeOf315
 v139:=Tryz.zeroValue315
 t146:=Tryz.underlying283
 a146:=Tryz.isAgg283
 z146:=Tryz.sizeOf283
 v146:=Tryz.zeroValue283
 g1:=by kernel_rfl
 g3:=by kernel_rfl
 g4:=by kernel_rfl}
def Tryz.laysPu14_ren:Go.Shelf.Ren:=⟨fun|14=>189|16=>215|17=>216|19=>239|20=>240|21=>241|22=>242|23=>243|24=>244|25=>262|27=>58|26=>263|28=>84|29=>121|30=>80|31=>81|32=>82|33=>83|35=>117|34=>116|36=>118|37=>119|38=>120|39=>149|40=>150|n=>n,fun|9=>9|3=>3|22=>71|24=>65|25=>250|4=>4|34=>296|5=>5|36=>181|37=>43|0=>0|39=>299|21=>21|44=>318|47=>112|50=>327|48=>325|2=>2|52=>143|55=>146|59=>179|60=>42|20=>20|61=>180|65=>230|66=>231|67=>79|n=>n,fun|0=>6|1=>7|2=>0|3=>2|4=>3|n=>n⟩
theorem Tryz.laysPu14:Go.Proofs.LaysPu.n14 Tryz.prog Tryz.laysPu14_ren:={
 mixed:=by kernel_rfl
 f14:=Tryz.func189.trans (congrArg some (by kernel_rfl))
 f16:=Tryz.func215.trans (congrArg some (by kernel_rfl))
 f17:=Tryz.func216.trans (congrArg some (by kernel_rfl))
 f19:=Tryz.func239.trans (congrArg some (by kernel_rfl))
 f20:=Tryz.func240.trans (congrArg some (by kernel_rfl))
 f21:=Tryz.func241.trans (congrArg some (by kernel_rfl))
 f22:=Tryz.func242.trans (congrArg some (by kernel_rfl))
 f23:=Tryz.func243.trans (congrArg some (by kernel_rfl))
 f24:=Tryz.func244.trans (congrArg some (by kernel_rfl))
 f25:=Tryz.func262.trans (congrArg some (by kernel_rfl))
 f26:=Tryz.func263.trans (congrArg some (by kernel_rfl))
 f27:=Tryz.func58.trans (congrArg some (by kernel_rfl))
 f28:=Tryz.func84.trans (congrArg some (by kernel_rfl))
 f29:=Tryz.func121.trans (congrArg some (by kernel_rfl))
 f30:=Tryz.func80.trans (congrArg some (by kernel_rfl))
 f31:=Tryz.func81.trans (congrArg some (by kernel_rfl))
 f32:=Tryz.func82.trans (congrArg some (by kernel_rfl))
 f33:=Tryz.func83.trans (congrArg some (by kernel_rfl))
 f34:=Tryz.func116.trans (congrArg some (by kernel_rfl))
 f35:=Tryz.func117.trans (congrArg some (by kernel_rfl))
 f36:=Tryz.func118.trans (congrArg some (by kernel_rfl))
 f37:=Tryz.func119.trans (congrArg some (by kernel_rfl))
 f38:=Tryz.func120.trans (congrArg some (by kernel_rfl))
 f39:=Tryz.func149.trans (congrArg some (by kernel_rfl))
 f40:=Tryz.func150.trans (congrArg some (by kernel_rfl))
 t0:=Tryz.underlying0
 a0:=Tryz.isAgg0
 z0:=Tryz.sizeOf0
 v0:=Tryz.zeroValue0
 i0:=by kernel_rfl
 t2:=Tryz.underlying2
 a2:=Tryz.isAgg2
 z2:=Tryz.sizeOf2
 v2:=Tryz.zeroValue2
 i2:=by kernel_rfl
 t3:=Tryz.underlying3
 a3:=Tryz.isAgg3
 z3:=Tryz.sizeOf3
 v3:=Tryz.zeroValue3
 i3:=by kernel_rfl
 t4:=Tryz.underlying4
 a4:=Tryz.isAgg4
 z4:=Tryz.sizeOf4
 v4:=Tryz.zeroValue4
 i4:=by kernel_rfl
 t5:=Tryz.underlying5
 a5:=Tryz.isAgg5
 z5:=Tryz.sizeOf5
 v5:=Tryz.zeroValue5
 i5:=by kernel_rfl
 t9:=Tryz.underlying9
 a9:=Tryz.isAgg9
 z9:=Tryz.sizeOf9
 v9:=Tryz.zeroValue9
 i9:=by kernel_rfl
 t20:=Tryz.underlying20
 a20:=Tryz.isAgg20
 z20:=Tryz.sizeOf20
 v20:=Tryz.zeroValue20
 i20:=by kernel_rfl
 t21:=Tryz.underlying21
 a21:=Tryz.isAgg21
 z21:=Tryz.sizeOf21
 v21:=Tryz.zeroValue21
 i21:=by kernel_rfl
 t22:=Tryz.underlying71
 a22:=Tryz.isAgg71
 z22:=Tryz.sizeOf71
 v22:=Tryz.zeroValue71
 i22:=by kernel_rfl
 t24:=Tryz.underlying65
 a24:=Tryz.isAgg65
 z24:=Tryz.sizeOf65
 v24:=Tryz.zeroValue65
 i24:=by kernel_rfl
 t25:=Tryz.underlying250
 a25:=Tryz.isAgg250
 z25:=Tryz.sizeOf250
 v25:=Tryz.zeroValue250
 i25:=by kernel_rfl
 t34:=Tryz.underlying296
 a34:=Tryz.isAgg296
 z34:=Tryz.sizeOf296
 v34:=Tryz.zeroValue296
 i34:=by kernel_rfl
 c34:=by kernel_rfl
 t36:=Tryz.underlying181
 a36:=Tryz.isAgg181
 z36:=Tryz.sizeOf181
 v36:=Tryz.zeroValue181
 i36:=by kernel_rfl
 t37:=Tryz.underlying43
 a37:=Tryz.isAgg43
 z37:=Tryz.sizeOf43
 v37:=Tryz.zeroValue43
 i37:=by kernel_rfl
 t39:=Tryz.underlying299
 a39:=Tryz.isAgg299
 z39:=Tryz.sizeOf299
 v39:=Tryz.zeroValue299
 i39:=by kernel_rfl
 t44:=Tryz.underlying318
 a44:=Tryz.isAgg318
 z44:=Tryz.sizeOf318
 v44:=Tryz.zeroValue318
 i44:=by kernel_rfl
 t47:=Tryz.underlying112
 a47:=Tryz.isAgg112
 z47:=Tryz.sizeOf112
 v47:=Tryz.zeroValue112
 i47:=by kernel_rfl
 t48:=Tryz.underlying325
 a48:=Tryz.isAgg325
 z48:=Tryz.sizeOf325
 v48:=Tryz.zeroValue325
 i48:=by kernel_rfl
 t50:=Tryz.underlying327
 a50:=Tryz.isAgg327
 z50:=Tryz.sizeOf327
 v50:=Tryz.zeroValue327
 i50:=by kernel_rfl
 t52:=Tryz.underlying143
 a52:=Tryz.isAgg143
 z52:=Tryz.sizeOf143
 v52:=Tryz.zeroValue143
 i52:=by kernel_rfl
 t55:=Tryz.underlying146
 a55:=Tryz.isAgg146
 z55:=Tryz.sizeOf146
 v55:=Tryz.zeroValue146
 i55:=by kernel_rfl
 t59:=Tryz.underlying179
 a59:=Tryz.isAgg179
 z59:=Tryz.sizeOf179
 v59:=Tryz.zeroValue179
 i59:=by kernel_rfl
 t60:=Tryz.underlying42
 a60:=Tryz.isAgg42
 z60:=Tryz.sizeOf42
 v60:=Tryz.zeroValue42
 i60:=by kernel_rfl
 t61:=Tryz.underlying180
 a61:=Tryz.isAgg180
 z61:=Tryz.sizeOf180
 t65:=Tryz.underlying230
 a65:=Tryz.isAgg230
 z65:=Tryz.sizeOf230
 v65:=Tryz.zeroValue230
 i65:=by kernel_rfl
 t66:=Tryz.underlying231
 a66:=Tryz.isAgg231
 z66:=Tryz.sizeOf231
 v66:=Tryz.zeroValue231
 i66:=by kernel_rfl
 t67:=Tryz.underlying79
 a67:=Tryz.isAgg79
 z67:=Tryz.sizeOf79
 v67:=Tryz.zeroValue79
 i67:=by kernel_rfl
 g0:=by kernel_rfl
 m0:=by kernel_rfl
 g1:=by kernel_rfl
 m1:=by kernel_rfl
 g2:=by kernel_rfl
 m2:=by kernel_rfl
 g3:=by kernel_rfl
 m3:=by kernel_rfl
 g4:=by kernel_rfl
 m4:=by kernel_rfl}
def Tryz.laysM171_ren:Go.Shelf.Ren:=⟨fun|171=>58|243=>84|246=>121|283=>80|284=>81|285=>82|286=>83|129=>117|317=>116|318=>118|319=>119|320=>120|337=>149|338=>150|n=>n,fun|3=>3|9=>9|2=>2|4=>4|171=>143|0=>0|53=>71|37=>43|5=>5|173=>146|212=>179|51=>42|20=>20|213=>180|46=>181|232=>230|233=>231|n=>n,fun|17=>0|18=>2|19=>3|n=>n⟩
theorem Tryz.laysM171:Go.Proofs.LaysM.n171 Tryz.prog Tryz.laysM171_ren:={
 mixed:=by kernel_rfl
 f129:=Tryz.func117.trans (congrArg some (by kernel_rfl))
 f171:=Tryz.func58.trans (congrArg some (by kernel_rfl))
 f243:=Tryz.func84.trans (congrArg some (by kernel_rfl))
 f246:=Tryz.func121.trans (congrArg some (by kernel_rfl))
 f283:=Tryz.func80.trans (congrArg some (by kernel_rfl))
 f284:=Tryz.func81.trans (congrArg some (by kernel_rfl))
 f285:=Tryz.func82.trans (congrArg some (by kernel_rfl))
 f286:=Tryz.func83.trans (congrArg some (by kernel_rfl))
 f317:=Tryz.func116.trans (congrArg some (by kernel_rfl))
 f318:=Tryz.func118.trans (congrArg some (by kernel_rfl))
 f319:=Tryz.func119.trans (congrArg some (by kernel_rfl))
 f320:=Tryz.func120.trans (congrArg some (by kernel_rfl))
 f337:=Tryz.func149.trans (congrArg some (by kernel_rfl))
 f338:=Tryz.func150.trans (congrArg some (by kernel_rfl))
 t0:=Tryz.underlying0
 a0:=Tryz.isAgg0
 z0:=Tryz.sizeOf0
 v0:=Tryz.zeroValue0
 t2:=Tryz.underlying2
 a2:=Tryz.isAgg2
 z2:=Tryz.sizeOf2
 v2:=Tryz.zeroValue2
 t3:=Tryz.underlying3
 a3:=Tryz.isAgg3
 z3:=Tryz.sizeOf3
 v3:=Tryz.zeroValue3
 t4:=Tryz.underlying4
 a4:=Tryz.isAgg4
 z4:=Tryz.sizeOf4
 v4:=Tryz.zeroValue4
 t5:=Tryz.underlying5
 a5:=Tryz.isAgg5
 z5:=Tryz.sizeOf5
 v5:=Tryz.zeroValue5
 t9:=Tryz.underlying9
 a9:=Tryz.isAgg9
 z9:=Tryz.sizeOf9
 v9:=Tryz.zeroValue9
 t20:=Tryz.underlying20
 a20:=Tryz.isAgg20
 z20:=Tryz.sizeOf20
 v20:=Tryz.zeroValue20
 t37:=Tryz.underlying43
 a37:=Tryz.isAgg43
 z37:=Tryz.sizeOf43
 v37:=Tryz.zeroValue43
 t46:=Tryz.underlying181
 a46:=Tryz.isAgg181
 z46:=Tryz.sizeOf181
 v46:=Tryz.zeroValue181
 t51:=Tryz.underlying42
 a51:=Tryz.isAgg42
 z51:=Tryz.sizeOf42
 v51:=Tryz.zeroValue42
 t53:=Tryz.underlying71
 a53:=Tryz.isAgg71
 z53:=Tryz.sizeOf71
 v53:=Tryz.zeroValue71
 t171:=Tryz.underlying143
 a171:=Tryz.isAgg143
 z171:=Tryz.sizeOf143
 v171:=Tryz.zeroValue143
 t173:=Tryz.underlying146
 a173:=Tryz.isAgg146
 z173:=Tryz.sizeOf146
 v173:=Tryz.zeroValue146
 t212:=Tryz.underlying179
 a212:=Tryz.isAgg179
 z212:=Tryz.sizeOf179
 v212:=Tryz.zeroValue179
 t213:=Tryz.underlying180
 a213:=Tryz.isAgg180
 z213:=Tryz.sizeOf180
 t232:=Tryz.underlying230
 a232:=Tryz.isAgg230
 z232:=Tryz.sizeOf230
 v232:=Tryz.zeroValue230
 t233:=Tryz.underlying231
 a233:=Tryz.isAgg231
 z233:=Tryz.sizeOf231
 v233:=Tryz.zeroValue231
 g17:=by kernel_rfl
 g18:=by kernel_rfl
 g19:=by kernel_rfl
 i0:=by kernel_rfl
 i2:=by kernel_rfl
 i3:=by kernel_rfl
 i4:=by kernel_rfl
 i5:=by kernel_rfl
 i9:=by kernel_rfl
 i20:=by kernel_rfl
 i37:=by kernel_rfl
 i46:=by kernel_rfl
 i51:=by kernel_rfl
 i53:=by kernel_rfl
 i171:=by kernel_rfl
 i173:=by kernel_rfl
 i212:=by kernel_rfl
 i232:=by kernel_rfl
 i233:=by kernel_rfl
 m17:=by kernel_rfl
 m18:=by kernel_rfl
 m19:=by kernel_rfl}
end Go.Proofs
namespace Go.Proofs.YtkpdfhbpdkifoaaGreatDoor
open Go
set_option maxRecDepth 10000
def digB(c:UInt8):Bool:=decide (48≤c.toNat) && decide (c.toNat≤57)
def valD(l:Lab):Nat:=l.foldl (fun n c=>10*n+(c.toNat - 48)) 0
def zik(l:Lab):Bool:=!l.isEmpty && (l.all digB && !(decide (1<l.length) && decide (l.head? =some 48)))
theorem valD_app(l:Lab)(c:UInt8):valD (l++ [c])=10*valD l+(c.toNat - 48):=by
 unfold valD
 rw[List.foldl_append]
 rfl
def cutB(c:UInt8):Lab→Lab×Lab×Bool
 | []=>([],[],false)
 |b::l=>if b=c then([],l,true) else(b::(cutB c l).1,(cutB c l).2.1,(cutB c l).2.2)
theorem zkL(b c:UInt8)(l:Lab):Lib.index (b::l) [c]=if b=c then 0 else if Lib.index l [c]= -1 then -1 else Lib.index l [c]+1:=by
 rw[Lib.index]
 have e:[c].isPrefixOf (b::l)=decide (b=c):=by
  simp only[List.isPrefixOf,Bool.and_true]
  by_cases h:b=c
  ·subst h;simp
  ·rw[decide_eq_false h];simpa using fun h'=>h h'.symm
 rw[e]
 by_cases h:b=c
 ·simp[h]
 ·simp[h]
theorem zmX(c:UInt8):∀s:Lab,Lib.cut s [c]=cutB c s
 | []=>by unfold Lib.cut cutB;simp[Lib.index]
 |b::l=>by
  have ih:=zmX c l
  have hg:=Lib.index_ge l [c]
  unfold Lib.cut at ih ⊢
  unfold cutB
  rw[zkL]
  by_cases h:b=c
  ·rw[if_pos h,if_pos h];simp
  ·rw[if_neg h,if_neg h]
   by_cases hi:Lib.index l [c]= -1
   ·rw[if_pos hi]
    rw[hi]at ih
    rw[←ih]
    simp
   ·rw[if_neg hi]
    have h0:0≤Lib.index l [c]:=by omega
    rw[if_pos h0]at ih
    rw[if_pos (by omega),←ih]
    obtain⟨k,hk⟩:=Int.eq_ofNat_of_zero_le h0
    rw[hk]
    have e:((k:Int)+1).toNat=k+1:=by omega
    rw[e,Int.toNat_natCast]
    simp[Nat.add_right_comm]
theorem zhu(c:UInt8):∀s:Lab,(cutB c s).1.length≤s.length∧(cutB c s).2.1.length≤s.length
 | []=>by simp[cutB]
 |b::l=>by
  have ih:=zhu c l
  unfold cutB
  split
  ·simp
  ·simp only[List.length_cons];omega
theorem zhs{k:Nat}(h:k<10):(UInt8.ofNat (48+k)).toNat=48+k:=by
 rw[UInt8.toNat_ofNat']
 show(48+k) % 256=_
 omega
theorem valD_dec(u:Nat):valD (Lib.decDigits u)=u:=by
 induction u using Nat.strongRecOn with
 |_ u ih=>
  rw[Lib.decDigits]
  by_cases h:u<10
  ·rw[dif_pos h]
   show 10*0+((UInt8.ofNat (48+u)).toNat - 48)=u
   rw[zhs h];omega
  ·rw[dif_neg h,valD_app,ih (u / 10) (by omega),zhs (by omega)]
   omega
theorem zbY(u:Nat):∀c∈Lib.decDigits u,digB c=true:=by
 induction u using Nat.strongRecOn with
 |_ u ih=>
  have one:∀k,k<10→digB (UInt8.ofNat (48+k))=true:=fun k hk=>by
   unfold digB
   rw[zhs hk,decide_eq_true (by omega),decide_eq_true (by omega)];rfl
  intro c hc
  rw[Lib.decDigits]at hc
  by_cases h:u<10
  ·rw[dif_pos h]at hc
   rw[List.mem_singleton.1 hc]
   exact one u h
  ·rw[dif_neg h]at hc
   rcases List.mem_append.1 hc with hc|hc
   ·exact ih (u / 10) (by omega) c hc
   ·rw[List.mem_singleton.1 hc]
    exact one _ (by omega)
theorem zfY(u:Nat):Lib.decDigits u≠ []:=by
 rw[Lib.decDigits]
 split<;>simp
theorem dec_head(u:Nat)(hu:1≤u):(Lib.decDigits u).head?≠some 48:=by
 induction u using Nat.strongRecOn with
 |_ u ih=>
  rw[Lib.decDigits]
  by_cases h:u<10
  ·rw[dif_pos h]
   intro e
   have e2:UInt8.ofNat (48+u)=48:=by simpa using e
   have e3:=congrArg UInt8.toNat e2
   rw[zhs h]at e3
   have:(48:UInt8).toNat=48:=rfl
   omega
  ·rw[dif_neg h]
   have h1:=ih (u / 10) (by omega) (by omega)
   have h2:=zfY (u / 10)
   cases hd:Lib.decDigits (u / 10) with
   |nil=>exact absurd hd h2
   |cons a l=>rw[hd]at h1;simpa using h1
theorem zmK(u:Nat):zik (Lib.decDigits u)=true:=by
 unfold zik
 have h1:(Lib.decDigits u).isEmpty=false:=by
  cases h:Lib.decDigits u with
  |nil=>exact absurd h (zfY u)
  |cons=>rfl
 have h2:(Lib.decDigits u).all digB=true:=List.all_eq_true.2 (zbY u)
 rw[h1,h2]
 by_cases hu:1≤u
 ·rw[decide_eq_false (dec_head u hu)];simp
 ·have:u=0:=by omega
  subst this
  rw[Lib.decDigits_one (by decide)];rfl
def decP(most:Nat)(s:Lab):Nat×Int:=if zik s then(if valD s≤most then(valD s,0) else(0,7)) else(0,2)
theorem zcq{most u:Nat}(h:u≤most):decP most (Lib.decDigits u)=(u,0):=by
 unfold decP
 rw[zmK,valD_dec,if_pos rfl,if_pos h]
def zaH:Nat:=2147483647
def zbS(s:Lab):(Nat×Nat×Nat)×Int:=
 let x:=cutB 47 s
 let y:=cutB 45 x.1
 let a:=decP zaH y.1
 let b:=decP zaH y.2.1
 let d:=decP zaH (if x.2.2 then x.2.1 else [49])
 if y.2.2=false then((0,0,0),2)
 else if a.2=2∨b.2=2∨d.2=2 then((0,0,0),2)
 else if a.2=7∨b.2=7∨d.2=7 then((0,0,0),7)
 else if a.1≤b.1∧1≤d.1 then((a.1,b.1,d.1),0) else((0,0,0),1)
def zcS(a b d:Nat):List Int:=(List.range ((b - a) / d+1)).map fun i=>((a+i*d:Nat):Int)
theorem zfO(a b d:Nat):(zcS a b d).length=(b - a) / d+1:=by unfold zcS;simp
theorem zmd{a b d i:Nat}(h:i<(zcS a b d).length):(zcS a b d)[i]=((a+i*d:Nat):Int):=by unfold zcS;simp
theorem zmb{a b d i:Nat}(hd:1≤d)(hi:a+i*d≤b):i≤(b - a) / d:=by
 rw[Nat.le_div_iff_mul_le (by omega)]
 omega
theorem zmc{a b d i:Nat}(hd:1≤d)(hab:a≤b)(hi:i≤(b - a) / d):a+i*d≤b:=by
 rw[Nat.le_div_iff_mul_le (by omega)]at hi
 omega
section
variable {A B C D E F G H I : Prop}
theorem an2(a:A)(b:B):A∧B:=⟨a,b⟩
theorem an3(a:A)(b:B)(c:C):A∧B∧C:=⟨a,b,c⟩
theorem an4(a:A)(b:B)(c:C)(d:D):A∧B∧C∧D:=⟨a,b,c,d⟩
theorem an5(a:A)(b:B)(c:C)(d:D)(e:E):A∧B∧C∧D∧E:=⟨a,b,c,d,e⟩
theorem an6(a:A)(b:B)(c:C)(d:D)(e:E)(f:F):A∧B∧C∧D∧E∧F:=⟨a,b,c,d,e,f⟩
theorem an7(a:A)(b:B)(c:C)(d:D)(e:E)(f:F)(g:G):A∧B∧C∧D∧E∧F∧G:=⟨a,b,c,d,e,f,g⟩
theorem an8(a:A)(b:B)(c:C)(d:D)(e:E)(f:F)(g:G)(h:H):A∧B∧C∧D∧E∧F∧G∧H:=⟨a,b,c,d,e,f,g,h⟩
theorem an9(a:A)(b:B)(c:C)(d:D)(e:E)(f:F)(g:G)(h:H)(i:I):A∧B∧C∧D∧E∧F∧G∧H∧I:=⟨a,b,c,d,e,f,g,h,i⟩
end
def gdOk:List (Nat×Nat)→(Nat→Option Tmp)→Prop
 | [],_=>True
 |p::l,gd=>gd p.1=some p.2∧gdOk l gd
theorem zjc{L:List Oper}:∀{gs:List (Nat×Nat)},(gs.all fun p=>dstL L p.1==some p.2)=true→gdOk gs (dstL L)
 | [],_=>trivial
 |p::l,h=>by
  simp only[List.all_cons,Bool.and_eq_true,beq_iff_eq]at h
  exact⟨h.1,zjc h.2⟩
theorem zhv(b:Bool):zap undef b=false:=nr rfl
def Rest(P:Program)(Q:Post)(ds:List Deferred)(L:List Oper)(F:(Nat→Option Tmp)→(Sto→World→Prop)→Prop):Prop:=
 ∀(gd:Nat→Option Tmp) (K:Sto→World→Prop),gd=dstL L→(∀σ' w',Q .normal σ' ds w'→K σ' w')→F gd K
section
variable {P : Program} {r : Option Nat} {n : Nat} {Q : Post} {σ : Sto} {ds : List Deferred} {w : World} {p : Prop} {L : List Oper} {F : (Nat → Option Tmp) → (Sto → World → Prop) → Prop}
theorem wt{c:Operand}{x y:Code}(h:p)(ht:W P r n x Q σ ds w)(hc:p→ev n σ c= .bool true:=by intro h1;first| (simp only[go_sem,h1];done)| (simp only[go_sem,h1];rfl)):W P r n (.cond c x y) Q σ ds w:=zbK (hc h) (fun _=>ht) (fun h=>by cases h)
theorem wf{c:Operand}{x y:Code}(h:p)(ht:W P r n y Q σ ds w)(hc:p→ev n σ c= .bool false:=by intro h1;first| (simp only[go_sem,h1];done)| (simp only[go_sem,h1];rfl)):W P r n (.cond c x y) Q σ ds w:=zbK (hc h) (fun h=>by cases h) (fun _=>ht)
theorem ro{id:Nat}{ops:Array Oper}(h:Rest P Q ds ops.toList (fun gd K=>opsV P gd n ops.toList σ w K))(hd:zbd ops=true:=by rfl):W P r n (.region id ops false) Q σ ds w:=zd4 hd fun gd K hgd hK=>h gd K hgd hK
theorem rd{f:FuncId}{args:Array Value}{w1:World}{R:Value→World→Prop}{C:(Nat→Option Tmp)→(Sto→World→Prop)→Value→World→Prop}(h:p)(hF:Fn P f args w1 R)(hr:∀v w',R v w'→Rest P Q ds L (fun gd K=>C gd K v w'))
  (hs:p→∀(gd:Nat→Option Tmp) (K:Sto→World→Prop),F gd K=Fn P f args w1 (fun v w'=>C gd K v w'):=by intro h1 gd K;(simp (disch:=first|omega|assumption|rfl) only[go_sem,h1])<;>exact rfl):Rest P Q ds L F:=
 fun gd K hgd hK=>(hs h gd K).mpr (Fn.mono hF fun v w' hR=>hr v w' hR gd K hgd hK)
theorem rc{id:Nat}{ops:Array Oper}{f:FuncId}{args:Array Value}{w1:World}{R:Value→World→Prop}{C:(Nat→Option Tmp)→(Sto→World→Prop)→Value→World→Prop}(h:p)(hF:Fn P f args w1 R)(hr:∀v w',R v w'→Rest P Q ds ops.toList (fun gd K=>C gd K v w'))
  (hs:p→∀(gd:Nat→Option Tmp) (K:Sto→World→Prop),opsV P gd n ops.toList σ w K=Fn P f args w1 (fun v w'=>C gd K v w'):=by intro h1 gd K;(simp (disch:=first|omega|assumption|rfl) only[go_sem,h1])<;>exact rfl)
  (hd:zbd ops=true:=by rfl):W P r n (.region id ops false) Q σ ds w:=ro (rd h hF hr hs) hd
theorem re{σ1:Sto}{w1:World}(h:p)(hq:Q .normal σ1 ds w1)
  (hs:p→∀(gd:Nat→Option Tmp) (K:Sto→World→Prop),F gd K=K σ1 w1:=by intro h1 gd K;(first| (simp (disch:=first|omega|assumption|rfl) only[go_sem,h1])|skip)<;>exact rfl):Rest P Q ds L F:=
 fun gd K _ hK=>(hs h gd K).mpr (hK _ _ hq)
theorem rdg(gs:List (Nat×Nat)){f:FuncId}{args:Array Value}{w1:World}{R:Value→World→Prop}{C:(Nat→Option Tmp)→(Sto→World→Prop)→Value→World→Prop}(h:p)(hF:Fn P f args w1 R)(hr:∀v w',R v w'→Rest P Q ds L (fun gd K=>C gd K v w'))
  (hs:p→∀(gd:Nat→Option Tmp) (K:Sto→World→Prop),gdOk gs gd→F gd K=Fn P f args w1 (fun v w'=>C gd K v w'):=by intro h1 gd K hg;simp only[gdOk]at hg;(simp (disch:=first|omega|assumption|rfl) only[go_sem,zag,zb8,zhv,hg,h1])<;>exact rfl)
  (hg:(gs.all fun p=>dstL L p.1==some p.2)=true:=by exact rfl):Rest P Q ds L F:=
 fun gd K hgd hK=>(hs h gd K (hgd▸zjc hg)).mpr (Fn.mono hF fun v w' hR=>hr v w' hR gd K hgd hK)
theorem rcg(gs:List (Nat×Nat)){id:Nat}{ops:Array Oper}{f:FuncId}{args:Array Value}{w1:World}{R:Value→World→Prop}{C:(Nat→Option Tmp)→(Sto→World→Prop)→Value→World→Prop}(h:p)(hF:Fn P f args w1 R)(hr:∀v w',R v w'→Rest P Q ds ops.toList (fun gd K=>C gd K v w'))
  (hs:p→∀(gd:Nat→Option Tmp) (K:Sto→World→Prop),gdOk gs gd→opsV P gd n ops.toList σ w K=Fn P f args w1 (fun v w'=>C gd K v w'):=by intro h1 gd K hg;simp only[gdOk]at hg;(simp (disch:=first|omega|assumption|rfl) only[go_sem,zag,zb8,zhv,hg,h1])<;>exact rfl)
  (hg:(gs.all fun p=>dstL ops.toList p.1==some p.2)=true:=by exact rfl) (hd:zbd ops=true:=by rfl):W P r n (.region id ops false) Q σ ds w:=ro (rdg gs h hF hr hs hg) hd
theorem reg(gs:List (Nat×Nat)){σ1:Sto}{w1:World}(h:p)(hq:Q .normal σ1 ds w1)
  (hs:p→∀(gd:Nat→Option Tmp) (K:Sto→World→Prop),gdOk gs gd→F gd K=K σ1 w1:=by intro h1 gd K hg;simp only[gdOk]at hg;(first| (simp (disch:=first|omega|assumption|rfl) only[go_sem,zag,zb8,zhv,hg,h1])|skip)<;>exact rfl)
  (hg:(gs.all fun p=>dstL L p.1==some p.2)=true:=by exact rfl):Rest P Q ds L F:=
 fun gd K hgd hK=>(hs h gd K (hgd▸zjc hg)).mpr (hK _ _ hq)
theorem rgg(gs:List (Nat×Nat)){id:Nat}{ops:Array Oper}{σ1:Sto}{w1:World}(h:p)(hq:Q .normal σ1 ds w1)
  (hs:p→∀(gd:Nat→Option Tmp) (K:Sto→World→Prop),gdOk gs gd→opsV P gd n ops.toList σ w K=K σ1 w1:=by intro h1 gd K hg;simp only[gdOk]at hg;(simp (disch:=first|omega|assumption|rfl) only[go_sem,zag,zb8,zhv,hg,h1])<;>exact rfl)
  (hg:(gs.all fun p=>dstL ops.toList p.1==some p.2)=true:=by exact rfl) (hd:zbd ops=true:=by rfl):W P r n (.region id ops false) Q σ ds w:=ro (reg gs h hq hs hg) hd
end
end Go.Proofs.YtkpdfhbpdkifoaaGreatDoor
namespace Go.Proofs.YtkpdfhbpdkifoaaGreatDoor
open Go Go.ChangeShapes Go.WideShapes Go.ChangeAt Go.RowKit Go.WideElems
theorem Ext.below{w x:World}(h:Ext w x):RowKit.Below w.heap.size w x:=⟨h.os,h.tape,h.output,h.size,fun k hk=>h.block k hk (fun h=>h)⟩
theorem Ext.kept{w x:World}(h:Ext w x)(may:MemPlace→Prop):w.keptBut x may:=by
 refine⟨h.os,h.output,fun i hi=>?_⟩
 rw[h.block i hi (fun h=>h)]
 cases hw:w.heap[i]? with
 |none=>trivial
 |some o=>cases o<;>simp
theorem zd8{H:Type}{enc:TypeId×Value→H}{P:Program}(hl:laidOutB P=true){W W':World}{sp:Nat→Bool}(hE:Ext W W'):
  ∀{ts:List TypeId} {vs:List Value} {ds:List (DataW H)} {ps:List MemPlace},(∀t∈ts,P.readableRec t=true∧t<P.types.size)→DataW.TrodAll enc P W 0 (fun _=>true) true ts vs ds ps→(∀x∈ps,x.block<W.heap.size)→(∀x∈ps,sp x.block=true)→
   DataW.TrodAll enc P W' 0 sp true ts vs ds ps
 | [],_,_,_,_,h,_,_=>by
  obtain⟨rfl,rfl,rfl⟩:=trodAll_nil h
  exact trodAll_mk0
 |_::_,_,_,_,ht,h,hlt,hs=>by
  obtain⟨v,vs1,d,ds1,a,b,rfl,rfl,rfl,h1,h2⟩:=trodAll_cons h
  obtain⟨hr,hrow⟩:=ht _ (List.mem_cons_self ..)
  exact trodAll_cons_mk (WideElems.Trod_stays hl hr hrow h1 (fun x hx=>hE.below.same (hlt x (List.mem_append_left _ hx))) (fun x hx=>hs x (List.mem_append_left _ hx)))
   (zd8 hl hE (fun t h=>ht t (List.mem_cons_of_mem _ h)) h2 (fun x hx=>hlt x (List.mem_append_right _ hx)) (fun x hx=>hs x (List.mem_append_right _ hx)))
theorem zkP{w x:World}(h:Ext w x){b:Nat}(hb:b<w.heap.size)(o:Nat):x.frozen? ⟨b,o,Option.none⟩=w.frozen? ⟨b,o,Option.none⟩:=by
 unfold World.frozen?
 rw[h.block b hb (fun h=>h)]
theorem law_post{H:Type}{enc:TypeId×Value→H}{P:Program}{f:Func}{s:ChangeSpec}{apart fresh handsOn again:Bool}{W W':World}{args:Array Value}{ds gs:List (DataW H)}{before:List MemPlace}
  (hW:DataW.Whole enc P f.params.toList s.vars apart W args.toList ds gs before) (hvn:s.vars=[]) (hspec:s.fn H ds={results:=[.lit (.bool true)],args:=ds}) {tb:TypeId} (hrt:f.resultTypes=#[tb]) (htb:P.underlying tb=some .bool)
  (hl:laidOutB P=true) (hrd:∀t∈f.params.toList,P.readableRec t=true∧t<P.types.size) (hE:Ext W W'):s.post enc P f apart fresh handsOn again W args (.bool true) W':=by
 have hlt:=hW.lt
 have hW0:=hW
 obtain⟨p,q,hA,hV,hpq,hfz,hnd⟩:=hW
 have hq:gs=[]∧q=[]:=by
  rw[hvn]at hV
  cases gs with
  |nil=>exact⟨rfl,hV⟩
  |cons _ _=>exact hV.elim
 obtain⟨rfl,rfl⟩:=hq
 rw[List.append_nil]at hpq
 subst hpq
 have hres:∀(b:Nat) (sp:Nat→Bool) (hd:Bool),DataW.TrodAll enc P W' b sp hd f.resultTypes.toList ((Value.bool true).resultList f.resultTypes.size) (s.fn H (ds++ [])).results []:=fun b sp hd=>by
  rw[List.append_nil,hspec,hrt]
  exact trodAll_mk1 (shut_bool htb true)
 have hargs:∀sp:Nat→Bool,(∀x∈before,sp x.block=true)→DataW.TrodAll enc P W' 0 sp true f.params.toList args.toList (s.fn H (ds++ [])).args before:=fun sp hs=>by
  rw[List.append_nil,hspec]
  exact zd8 hl hE hrd hA hlt hs
 have hvars:∀sp:Nat→Bool,DataW.TrodVars enc P W' sp s.vars (s.fn H (ds++ [])).vars []:=fun sp=>by
  rw[List.append_nil,hspec,hvn];rfl
 have hold:∀x∈before,(fun b=>decide (b<W.heap.size)) x.block=true:=fun x hx=>by simpa using hlt x hx
 refine⟨ds,[],before,[],before,[],hW0,hres _ _ _,hargs _ hold,hvars _,hE.kept _,fun _=>?_⟩
 refine⟨fun j t r h1 h2=>?_,_,_,([]++before)++ [],⟨[]++before,[],trodAll_append (hargs _ (fun _ _=>rfl)) (hres _ _ _),hvars _,rfl,?_,?_⟩,?_⟩
 ·rw[hrt]at h1 h2
  match j with
  |0=>
   simp at h1
   subst h1
   have:r= .bool true:=by simpa [Value.resultList] using h2.symm
   subst this
   exact okWide_bool_mk htb true
  |j+1=>simp at h1
 ·intro b off hp
  have hp':MemPlace.cell b off∈before:=by simpa using hp
  rw[zkP hE (show b<W.heap.size from hlt _ hp')]
  exact hfz b off hp'
 ·intro ha
  simpa using hnd ha
 ·intro x hx _
  simpa using hx
/-! arguments -/
section
variable {H : Type} {enc : TypeId × Value → H} {P : Program} {w : World} {base : Nat} {sp : Nat → Bool} {held : Bool}
def Rd(enc:TypeId×Value→H)(P:Program)(w:World)(base:Nat)(sp:Nat→Bool)(held:Bool)(t:TypeId)(v:Value):Prop:=∃n x,DataW.trod enc P w base sp held n t [v]=some x∧∀k∈x.1.weights P t,k≤reachBytes
theorem zcN{e:TypeId}{d:DataW H}{k:Nat}:∀{l:List (DataW H)},d∈l→k∈d.weights P e→k∈DataW.weightsAll P e l
 |a::l,hd,hk=>by
  simp only[DataW.weightsAll,List.mem_append]
  rcases List.mem_cons.1 hd with rfl|hd
  ·exact .inl hk
  ·exact .inr (zcN hd hk)
theorem zg4{t e:TypeId}{v:Value}(h:Rd enc P w base sp held t v)(ht:P.underlying t=some (.slice e))(hc:P.cellsOf e=1):
  ∃vals,Row w v vals∧(∀u∈vals,Rd enc P w base sp held e u)∧vals.length*P.bytesOf e≤reachBytes:=by
 obtain⟨n,x,h,hw⟩:=h
 rcases Go.Deep.open_slice1 ht hc h with ⟨h1,_⟩| ⟨a,len,cap,m,k,V,D,Pl,h1,_,hl,hm,hmm,rfl,hx⟩
 ·simp only[List.cons.injEq,and_true]at h1
  subst h1
  exact⟨[],⟨Option.none,0,rfl,Nat.le_refl _,fun j h=>by simp at h⟩,fun u h=>(by cases h),by simp⟩
 ·simp only[List.cons.injEq,and_true]at h1
  subst h1
  have hml:len≤m:=by rw[hmm];split<;>omega
  simp only[DataW.weights,ht]at hw
  refine⟨(List.range len).map V,⟨some a,cap,by simp,by simpa using hl,fun j hj=>?_⟩,fun u hu=>?_,?_⟩
  ·simp at hj
   have:=(hx j (by omega)).1
   simpa [zad,adr] using this
  ·obtain⟨j,hj,rfl⟩:=List.mem_map.1 hu
   simp at hj
   refine⟨_,_,(hx j (by omega)).2,fun q hq=>hw q (List.mem_cons_of_mem _ (List.mem_append_left _ (zcN (d:=D j) ?_ hq)))⟩
   exact List.mem_map.2 ⟨j,by simpa using hj,rfl⟩
  ·have h1:=hw _ (List.mem_cons_self ..)
   have h2:((List.range len).map V).length*P.bytesOf e≤(((List.range len).map D).length+((List.range (m - len)).map fun j=>D (len+j)).length)*P.bytesOf e:=Nat.mul_le_mul (by simp) (Nat.le_refl _)
   omega
theorem zlS{t:TypeId}{v:Value}(h:Rd enc P w base sp held t v)(ht:P.underlying t=some .string):∃s:List UInt8,v=vs s∧s.length≤reachBytes:=by
 obtain⟨n,x,h,hw⟩:=h
 cases n with
 |zero=>cases h
 |succ n=>
  unfold DataW.trod at h
  rw[ht]at h
  cases v<;>simp at h
  rename_i s
  obtain⟨_,rfl⟩:=h
  exact⟨s.data.toList,by simp[vs],by simpa [DataW.weights,ByteArray.toList_eq] using hw⟩
theorem zeK{t:TypeId}{v:Value}{d:DataW H}{p:List MemPlace}{ts:List TypeId}{ds:List (DataW H)}(h:DataW.Trod enc P w base sp held t v d p)(hv:v.cells.toList=[v])
  (hw:∀x∈DataW.weightsEach P ts ds,x≤reachBytes) {j:Nat} (ht:ts[j]? =some t) (hd:ds[j]? =some d):Rd enc P w base sp held t v:=by
 obtain⟨n,h⟩:=h
 rw[hv]at h
 exact⟨n,_,h,fun k hk=>hw k (DataW.weights_mem_each ht hd k hk)⟩
theorem zi8{α β:Type}{f:α→β}{Q:α→Prop}:∀{l:List β},(∀u∈l,∃s,u=f s∧Q s)→∃m:List α,l=m.map f∧∀s∈m,Q s
 | [],_=>⟨[],rfl,fun s h=>by cases h⟩
 |b::l,h=>by
  obtain⟨s,rfl,hq⟩:=h b (List.mem_cons_self ..)
  obtain⟨m,rfl,hm⟩:=zi8 (fun u hu=>h u (List.mem_cons_of_mem _ hu))
  refine⟨s::m,rfl,fun x hx=>?_⟩
  rcases List.mem_cons.1 hx with rfl|hx
  ·exact hq
  ·exact hm x hx
end
end Go.Proofs.YtkpdfhbpdkifoaaGreatDoor
namespace Go.Proofs.YtkpdfhbpdkifoaaGreatDoor
open Go
section
variable {H : Type} {enc : TypeId × Value → H} {P : Program} {w : World} {base : Nat} {sp : Nat → Bool} {held : Bool}
structure NmOk(n:Nm):Prop where
 lb:LB n
 len:n.length≤8796093022207
theorem reach_lt:reachBytes<140737488355328:=by decide
theorem zfJ{t e:TypeId}{v:Value}(h:Rd enc P w base sp held t v)(ht:P.underlying t=some (.slice e))(hc:P.cellsOf e=1)(he:P.underlying e=some .string)(hb:P.bytesOf e=16):∃n:Nm,Row w v (n.map vs)∧NmOk n:=by
 obtain⟨vals,hr,hall,hl⟩:=zg4 h ht hc
 obtain⟨m,rfl,hm⟩:=zi8 (f:=vs) (fun u hu=>zlS (hall u hu) he)
 have:=reach_lt
 rw[hb]at hl
 exact⟨m,hr,fun l hl=>by have:=hm l hl;omega,by simp at hl;omega⟩
theorem rd_names{t ts tb:TypeId}{v:Value}(h:Rd enc P w base sp held t v)(ht:P.underlying t=some (.slice ts))(hc:P.cellsOf ts=1)(ht2:P.underlying ts=some (.slice tb))(hc2:P.cellsOf tb=1)(he:P.underlying tb=some .string)(hb:P.bytesOf tb=16):
  ∃L:List Nm,NamesAt w v L∧∀n∈L,NmOk n:=by
 obtain⟨vals,hr,hall,hlen0⟩:=zg4 h ht hc
 have:∃L:List Nm,(vals.length=L.length∧∀i (h:i<vals.length) (h':i<L.length),Row w vals[i] (L[i].map vs))∧∀n∈L,NmOk n:=by
  clear hr h hlen0
  induction vals with
  |nil=>exact⟨[],⟨rfl,fun i h=>by simp at h⟩,fun n h=>by cases h⟩
  |cons u vals ih=>
   obtain⟨n,hn,hok⟩:=zfJ (hall u (List.mem_cons_self ..)) ht2 hc2 he hb
   obtain⟨L,⟨h1,h2⟩,h3⟩:=ih (fun x hx=>hall x (List.mem_cons_of_mem _ hx))
   refine⟨n::L,⟨by simp[h1],fun i a b=>?_⟩,fun x hx=>?_⟩
   ·cases i with
    |zero=>exact hn
    |succ i=>exact h2 i (by simpa using a) (by simpa using b)
   ·rcases List.mem_cons.1 hx with rfl|hx
    ·exact hok
    ·exact h3 x hx
 obtain⟨L,⟨h1,h2⟩,h3⟩:=this
 exact⟨L,⟨vals,hr,h1,h2⟩,h3⟩
end
class Tr (p:World→Prop):Prop where
 tr:∀{w x:World},Ext w x→p w→p x
theorem tr{p:World→Prop}[h:Tr p]{w x:World}(hE:Ext w x)(hp:p w):p x:=h.tr hE hp
instance Tr.and{p q:World→Prop}[Tr p][Tr q]:Tr fun w=>p w∧q w:=⟨fun hE h=>⟨tr hE h.1,tr hE h.2⟩⟩
instance Tr.cell{a:Option Addr}{v:Value}:Tr fun w=>zad w a=some v:=⟨fun hE h=>zab hE h⟩
instance Tr.cells{a:Option Addr}{k:Nat}{l:List Value}:Tr fun w=>zar w a k=some l:=⟨fun hE h=>zah hE h⟩
instance Tr.ext{w0:World}:Tr fun w=>Ext w0 w:=⟨fun hE h=>h.trans hE⟩
instance Tr.row{v:Value}{l:List Value}:Tr fun w=>Row w v l:=⟨fun hE h=>h.ext hE⟩
instance Tr.obj{b:Nat}{o:Obj}:Tr fun w=>w.heap[b]? =some o:=⟨fun hE h=>Ext.at hE h⟩
instance Tr.const{p:Prop}:Tr fun _=>p:=⟨fun _ h=>h⟩
instance Tr.all{α:Sort _}{p:α→World→Prop}[∀a,Tr (p a)]:Tr fun w=>∀a,p a w:=⟨fun hE h a=>tr hE (h a)⟩
instance Tr.ex{α:Sort _}{p:α→World→Prop}[∀a,Tr (p a)]:Tr fun w=>∃a,p a w:=⟨fun hE h=>h.elim fun a h=>⟨a,tr hE h⟩⟩
attribute [go_sem] decide_true decide_false
theorem sc{p q:Prop}(h:p)(hs:p→q=True:=by intro h1;simp only[go_sem,h1]):q:=(hs h).mpr trivial
/-! many steps at once -/
structure Gto(p q:Prop):Prop where
 of:q→p
section
variable {P : Program} {r : Option Nat} {n : Nat} {Q : Post} {σ : Sto} {ds : List Deferred} {w : World} {p q s : Prop} {L : List Oper} {F : (Nat → Option Tmp) → (Sto → World → Prop) → Prop}
theorem zmG:Gto p p:=⟨id⟩
theorem gto_c(h:Ctl p q)(k:Gto q s):Gto p s:=⟨fun g=>c_r (k.of g) h⟩
theorem gto_r{id:Nat}{ops:Array Oper}{σ1:Sto}{w1:World}(hs:∀(gd:Nat→Option Tmp) (K:Sto→World→Prop),gd=dstL ops.toList→opsV P gd n ops.toList σ w K=K σ1 w1)(hd:zbd ops=true)(k:Gto (Q .normal σ1 ds w1) q):
  Gto (W P r n (.region id ops false) Q σ ds w) q:=⟨fun g=>zd4 hd fun gd K hgd hK=>(hs gd K hgd).mpr (hK _ _ (k.of g))⟩
theorem gto_t{c:Operand}{x y:Code}(hc:ev n σ c= .bool true)(k:Gto (W P r n x Q σ ds w) q):Gto (W P r n (.cond c x y) Q σ ds w) q:=⟨fun g=>zbK hc (fun _=>k.of g) (fun h=>by cases h)⟩
theorem gto_f{c:Operand}{x y:Code}(hc:ev n σ c= .bool false)(k:Gto (W P r n y Q σ ds w) q):Gto (W P r n (.cond c x y) Q σ ds w) q:=⟨fun g=>zbK hc (fun h=>by cases h) (fun _=>k.of g)⟩
theorem go(h:p)(hq:s)(hs:p→Gto q s:=by
  intro h1
  repeat (first
   | (apply gto_c;· (with_reducible constructor)<;>exact rfl)
   | (apply gto_r;(intro gd K hgd;(simp (disch:=first|omega|assumption|rfl) only[go_sem,h1])<;>with_reducible exact rfl);rfl)
   | (apply gto_t;· first| (simp only[go_sem,h1];done)| (simp only[go_sem,h1];exact rfl))
   | (apply gto_f;· first| (simp only[go_sem,h1];done)| (simp only[go_sem,h1];exact rfl)))
  exact zmG):q:=(hs h).of hq
theorem rgo{σ1:Sto}{w1:World}(h:p)(hq:s)
  (hs:p→∀(gd:Nat→Option Tmp) (K:Sto→World→Prop),F gd K=K σ1 w1:=by intro h1 gd K;(first| (simp (disch:=first|omega|assumption|rfl) only[go_sem,h1])|skip)<;>exact rfl)
  (hg:p→Gto (Q .normal σ1 ds w1) s:=by
   intro h1
   repeat (first
    | (apply gto_c;· (with_reducible constructor)<;>exact rfl)
    | (apply gto_r;(intro gd K hgd;(simp (disch:=first|omega|assumption|rfl) only[go_sem,h1])<;>with_reducible exact rfl);rfl)
    | (apply gto_t;· first| (simp only[go_sem,h1];done)| (simp only[go_sem,h1];exact rfl))
    | (apply gto_f;· first| (simp only[go_sem,h1];done)| (simp only[go_sem,h1];exact rfl)))
   exact zmG):Rest P Q ds L F:=
 re (p:=True) trivial ((hg h).of hq) fun _=>hs h
theorem zbq{c:Code}(N:Nat)(I:Nat→Sto→World→Prop)(h0:I 0 σ w)
  (hs:∀i σ w,i<N→(decide ((i:Int)<(N:Int))=true∧(0:Int)≤(i:Int)∧(i:Int)<(N:Int)∧(i:Int)+1=((i+1:Nat):Int))→I i σ w→W P r n c (zdU (fun σ ds w=>ds=[]∧I (i+1) σ w) Q) σ [] w)
  (he:∀σ w,decide ((N:Int)<(N:Int))=false→I N σ w→W P r n c (zdU (fun _ _ _=>False) Q) σ [] w):W P r n (.loop c) Q σ [] w:=by
 refine zaD (fun m σ ds w=>ds=[]∧∃i,i+m=N∧I i σ w) N ⟨rfl,0,by omega,h0⟩ ?_
 rintro m σ ds w ⟨rfl,i,him,hI⟩
 by_cases h:i<N
 ·refine zas (hs i σ w h ⟨decide_eq_true (by omega),by omega,by omega,by push_cast;rfl⟩ hI) ?_
  intro e σ' ds' w' hq
  cases e<;>first|exact hq|exact⟨m - 1,by omega,hq.1,i+1,by omega,hq.2⟩
 ·have e1:i=N:=by omega
  subst e1
  refine zas (he σ w (decide_eq_false (by omega)) hI) ?_
  intro e σ' ds' w' hq
  cases e<;>first|exact hq|exact hq.elim
end
set_option maxRecDepth 10000
structure WX(w:World):Prop where
 ml:∃m,w.cell? ⟨1,0,Option.none⟩=some (.int .i64 m)
 p10:∃t fr,w.heap[0]? =some (.cells (Lib.pow10Tab.map fun z=>Value.int .u64 z).toArray t fr)
 er:∃t p,w.cell? ⟨7,0,Option.none⟩=some (.iface t p)
 tz:∃x,w.cell? ⟨3,15,Option.none⟩=some (.int .u8 x)∧0≤x∧x<256
 tv:w.cell? ⟨3,15,Option.none⟩=some (.int .u8 4)
theorem WX.ext{w x:World}(h:WX w)(hE:Ext w x):WX x:=by
 obtain⟨m,h1⟩:=h.ml
 obtain⟨t,fr,h2⟩:=h.p10
 obtain⟨u,p,h3⟩:=h.er
 obtain⟨x,h4,h5⟩:=h.tz
 exact⟨⟨m,zc1 hE h1⟩,⟨t,fr,hE.at h2⟩,⟨u,p,zc1 hE h3⟩,⟨x,zc1 hE h4,h5⟩,zc1 hE h.tv⟩
instance WX.tr:Tr WX:=⟨fun hE h=>h.ext hE⟩
theorem zd0(w:World):∀n,(w.drewN n).drawn=w.drawn+n
 |0=>rfl
 |n+1=>by
  have:=zd0 w n
  simp only[World.drewN]at this ⊢
theorem Ext.drewN(w:World)(n:Nat):Ext w (w.drewN n):=⟨rfl,rfl,rfl,Nat.le_refl _,fun _ _ _=>rfl,by rw[zd0];omega⟩
theorem Ext.of_below{w w':World}(h:RowKit.Below w.heap.size w w')(hd:w.drawn≤w'.drawn):Ext w w':=⟨h.os,h.tape,h.output,h.size,fun b hb _=>h.block b hb,hd⟩
theorem Ext.grow(w:World)(n:Nat)(os:Array Obj):Ext w (Go.Sort.grow (w.drewN n) os):=
 ⟨rfl,rfl,rfl,by show w.heap.size≤(w.heap++os).size;rw[Array.size_append];omega,fun b hb _=>by
  show(w.heap++os)[b]? =_
  rw[Array.getElem?_append_left hb],by show w.drawn≤(w.drewN n).drawn;rw[zd0];omega⟩
theorem zij(w:World)(a:Addr)(n:Nat):(w.freeze a n).drawn=w.drawn:=by unfold World.freeze;split<;>rfl
theorem Ext.bytes(w:World)(e:TypeId)(s:ByteArray):Ext w (Lib.bytesWorld w e s):=
 Ext.of_below (Lib.bytesWorld_below _ _ _) (by
  unfold Lib.bytesWorld
  rw[zij]
  exact Nat.le_succ _)
/-! contracts -/
theorem znA{w:World}(hW:WX w)(s:Lab)(c:UInt8)(hs:s.length<4000000000):
  Fn Tryz.prog 124 #[vs s,vs [c]] w (fun v w'=>v= .tuple #[vs (cutB c s).1,vs (cutB c s).2.1,.bool (cutB c s).2.2]∧Ext w w'):=by
 obtain⟨m,hm⟩:=hW.ml
 refine Fn.of_calls (Calls.mono (Any.strings_Cut Tryz.lays145 ⟨s.toArray⟩ ⟨#[c]⟩ m w (show s.toArray.size<_ by simp;omega) hm) ?_)
 rintro _ w' ⟨he,n,rfl⟩
 refine⟨_,he,?_,Ext.drewN w n⟩
 rw[show Lib.cut (⟨s.toArray⟩:ByteArray).data.toList (⟨#[c]⟩:ByteArray).data.toList=cutB c s from zmX c s]
theorem ze7(w:World)(s p:Lab):Fn Tryz.prog 95 #[vs s,vs p] w (fun v w'=>v= .bool (p.isPrefixOf s)∧w'=w):=
 Fn.of_calls (Calls.mono (Any.strings_HasPrefix Tryz.lays99 ⟨s.toArray⟩ ⟨p.toArray⟩ w) fun _ _ ⟨he,hw⟩=>⟨_,he,rfl,hw⟩)
theorem ziR(w:World)(s p:Lab):Fn Tryz.prog 192 #[vs s,vs p] w (fun v w'=>v= .tuple #[vs (Lib.trimPrefix s p),.bool (p.isPrefixOf s)]∧w'=w):=
 Fn.of_calls (Calls.mono (Any.strings_CutPrefix Tryz.lays103 ⟨s.toArray⟩ ⟨p.toArray⟩ w) fun _ _ ⟨he,hw⟩=>⟨_,he,rfl,hw⟩)
/-! digits cut off both ends -/
def digs10:Lab:=[48,49,50,51,52,53,54,55,56,57]
theorem digs_has(c:UInt8):digs10.contains c=digB c:=by
 have:∀n,n<256→digs10.contains (UInt8.ofNat n)=digB (UInt8.ofNat n):=by decide+kernel
 have h:=this c.toNat c.toNat_lt
 rwa [UInt8.ofNat_toNat]at h
theorem zey{α:Type}(p:α→Bool):∀l:List α,(l.dropWhile p=[])↔l.all p=true
 | []=>by simp
 |a::l=>by
  rw[List.dropWhile_cons]
  cases h:p a with
  |true=>simpa [h] using zey p l
  |false=>simp[h]
theorem zd9(s:Lab):(Lib.trimS s digs10=[])↔s.all digB=true:=by
 have e:(fun b=>digs10.contains b)=digB:=funext digs_has
 unfold Lib.trimS Lib.trimLeftS Lib.trimRightS
 simp only[e]
 rw[zey,List.all_eq_true,List.all_eq_true]
 constructor
 ·intro h x hx
  by_cases hd:digB x=true
  ·exact hd
  ·refine h x (List.mem_reverse.2 ?_)
   have key:∀l:Lab,x∈l→x∈l.dropWhile digB:=by
    intro l
    induction l with
    |nil=>intro h;cases h
    |cons a l ih=>
     intro hm
     rw[List.dropWhile_cons]
     split
     ·rename_i ha
      rcases List.mem_cons.1 hm with rfl|hm
      ·exact absurd ha hd
      ·exact ih hm
     ·exact hm
   exact key _ (List.mem_reverse.2 hx)
 ·intro h x hx
  have h1:=List.mem_reverse.1 hx
  exact h x (List.mem_reverse.1 ((List.dropWhile_sublist _).subset h1))
theorem zne(w:World)(s:Lab)(h0:s≠ [])(hs:s.length≤9000000000000000000):Fn Tryz.prog 163 #[vs s,vs digs10] w (fun v w'=>v=vs (Lib.trimS s digs10)∧Ext w w'):=by
 refine Fn.of_calls (Calls.mono (Any.strings_Trim_set Tryz.lays160 (zero_of_info (n:=256) (by kernel_rfl)).1 (by kernel_rfl) ⟨s.toArray⟩ ⟨digs10.toArray⟩ w (by decide) (show 0<s.toArray.size by simpa using List.length_pos_iff.2 h0) (show s.toArray.size≤_ by simp;omega) (by decide) (ascii_of_all (by decide))) ?_)
 rintro _ w' ⟨he,q,rfl⟩
 exact⟨_,he,rfl,((Ext.alloc w _).trans (Ext.alloc _ _)).trans (Ext.drewN _ q)⟩
section
variable {P : Program} {d : Option Tmp} {ty : TypeId} {ps : String} {af : Array Edge} {g : Option (Nat × Bool)} {ρ : Operand → Value} {w : World} {K : Value → World → Prop}
theorem zjO{x y:Operand}{ts:Array TypeId}{u z v:Value}{w':World}(hx:ρ x=u)(hy:ρ y=z)(hr:(Builtin.copy_ ts ty #[u,z]).run P w= .ok v w')(h:K v w'):
  opW P ⟨d,.call ⟨.builtin .copy,#[x,y],ts⟩,ty,ps,af,g⟩ ρ w K:=by
 simp only[opW,execOp,Sem.run_bind,resolve]
 simp only[Sem.run_pure,Result.andThen_ok,invoke,builtin]
 exact zaC (s:=Builtin.copy_ ts ty (Array.map ρ #[x,y])) (by simpa [hx,hy] using hr) h
end
theorem Clone_ok(w:World)(s:Lab)(hs:s.length≤1000000000):Fn Tryz.prog 262 #[vs s] w (fun v w'=>v=vs s∧Ext w w'):=by
 refine enter Tryz.func262 Tryz.ntmps262 rfl rfl ?_
 refine go trivial ?_
 by_cases h0:s=[]
 ·subst h0
  refine wt (by decide:decide (((0:Nat):Int)=0)=true) ?_
  refine go trivial ?_
  refine rt0 Tryz.ntmps262 ?_
  exact⟨rfl,Keep.refl _ _⟩
 have hp:=List.length_pos_iff.2 h0
 have hd:decide ((s.length:Int)=0)=false:=decide_eq_false (by omega)
 refine wf hd ?_
 repeat refine c_r ?_
 refine rq ?_;intro gd K hgd hK
 try simp only[go_sem]
 refine zh2 (n:=s.length) rfl rfl rfl rfl (vq0) (vq0) (by show 1*_≤_;omega) (by omega) rfl ?_
 try simp only[go_sem]
 refine hK _ _ ?_;clear hK hgd;clear K;try clear gd
 repeat refine c_r ?_
 refine rq ?_;intro gd K hgd hK
 try simp only[go_sem]
 have hM:(madeCells #[Value.int .u8 0] s.length).size=s.length:=by simp[size_madeCells]
 refine zjO (u:= .slice (some ⟨w.heap.size,0,Option.none⟩) s.length s.length) (z:=vs s) (vq0) (vq0)
  (Lib.run_copy_row_string (P:=Tryz.prog) _ _ _ _ 5 w.heap.size 0 s.length s.length ⟨s.toArray⟩ _ 5 rfl (by kernel_rfl) (World.alloc_heap_new w _) (by simp[ByteArray.size]) (by rw[hM];simp[ByteArray.size])) ?_
 rw[World.setRow_alloc_new]
 have hY:((madeCells #[Value.int .u8 0] s.length).toList.take 0++Lib.byteCells (⟨s.toArray⟩:ByteArray).data.toList++(madeCells #[Value.int .u8 0] s.length).toList.drop (0+(⟨s.toArray⟩:ByteArray).size)).toArray=(s.map zao).toArray:=by
  rw[List.take_zero,List.nil_append,List.drop_of_length_le (by rw[Array.length_toList,hM];simp[ByteArray.size]),List.append_nil]
  rfl
 rw[hY]
 try simp only[go_sem]
 refine hK _ _ ?_;clear hK hgd;clear K;try clear gd
 have hb:(w.alloc (.cells (s.map zao).toArray 5)).heap[w.heap.size]? =some (.cells (s.map zao).toArray 5 (0,0)):=World.alloc_heap_new w _
 have hz0:(0:Int)≤0:=Int.le_refl _
 have hl1:(0:Int)<(s.length:Int):=by omega
 repeat refine c_r ?_
 refine rq ?_;intro gd K hgd hK
 try simp (disch:=first|omega|assumption|rfl) only[go_sem,hz0,hl1,Int.toNat_zero,Nat.zero_mul,zam]
 refine zaO (u:= .pointer (some ⟨w.heap.size,0,Option.none⟩)) (z:=vi s.length) (vq0) (vq0) (Lib.run_unsafeString_row (P:=Tryz.prog) _ _ _ _ 5 (by rfl) (by rfl) w.heap.size (s.map zao).toArray.size (by unfold World.shape?;rw[hb]) s h0 (by simp) (by omega) (fun j y hj=>Lib.cells_of_row hb (s.map zao).toArray.size j _ (by rw[List.take_of_length_le (by simp)];simp[hj,zao]))) ?_
 have hfk:=Keep.to_ext (Ext.alloc w (.cells (s.map zao).toArray 5)) rfl (fun b (hS:b=w.heap.size)=>by omega) (zdX (w.alloc (.cells (s.map zao).toArray 5)) ⟨w.heap.size,0,Option.none⟩ s.length)
 try simp only[go_sem]
 refine hK _ _ ?_;clear hK hgd;clear K;try clear gd
 repeat refine c_r ?_
 refine rt0 Tryz.ntmps262 ?_
 exact⟨rfl,hfk⟩
/-! where the number is too great:an error,whatever the variable holds -/
theorem zg5(w:World)(f s:Lab)(hs:s.length≤1000000000)(hv:∃t p,w.cell? ⟨7,0,Option.none⟩=some (.iface t p)):
  Calls Tryz.prog 242 #[vs f,vs s] w (fun e w'=>(∃N,e= .returned (.pointer (some ⟨N,0,Option.none⟩)))∧Ext w w'):=by
 obtain⟨te,pe,hv⟩:=hv
 have hvd:w.drew.cell? ⟨7,0,Option.none⟩=some (.iface te pe):=hv
 have hG:7<w.heap.size:=World.block_lt_of_cell? (w:=w) (h:=hv)
 have mx:=mixed
 go_enter Tryz.func242,Tryz.ntmps242
 go_wp2
 go_region_with_o (
  go_at_call 262
  refine(Fn.calls (Clone_ok _ s hs)).mono ?_
  rintro e w2 ⟨_,rfl,rfl,hbel⟩
  have hv2:w2.cell? ⟨7,0,Option.none⟩=some (.iface te pe):=zc1 hbel hvd)
 all_goals (
  go_wp2
  go_ret
  exact⟨⟨_,rfl⟩,((Keep.drew NoS w).trans hbel).trans (Ext.alloc _ _)⟩)
theorem zku(w:World)(f s:Lab)(hs:s.length≤1000000000)(hv:∃t p,w.cell? ⟨7,0,Option.none⟩=some (.iface t p)):
  Calls Tryz.prog 216 #[vs f,vs s,vi 10,vi 64,.iface 296 (.int .i64 1)] w (fun e w'=>(∃t p,e= .returned (.iface t p))∧Ext w w'):=by
 have mx:=mixed
 have hq12:∀W,(binOp .eql 65 (.iface 296 (.int .i64 1)) (.iface 296 (.int .i64 2))).run Tryz.prog W= .ok (.bool false) W:=fun W=>Lib.run_eql_iface_int W 1 2 Tryz.laysPu14.t24 Tryz.laysPu14.c34 Tryz.laysPu14.t34
 have hq11:∀W,(binOp .eql 65 (.iface 296 (.int .i64 1)) (.iface 296 (.int .i64 1))).run Tryz.prog W= .ok (.bool true) W:=fun W=>Lib.run_eql_iface_int W 1 1 Tryz.laysPu14.t24 Tryz.laysPu14.c34 Tryz.laysPu14.t34
 go_enter Tryz.func216,Tryz.ntmps216
 go_wp2_with (go_at_call 242;refine(zg5 _ f s hs hv).mono ?_)
 rintro e w2 ⟨⟨N,rfl⟩,hE⟩
 go_wp2
 go_ret
 exact⟨⟨_,_,rfl⟩,hE⟩
theorem zjK{M:Nat}(hM:M=18446744073709551615):∀(l:Lab) (acc:Nat),l.all digB=true→acc≤M→
  (l.foldl (fun n c=>10*n+(c.toNat - 48)) acc≤M→Lib.parseUintM M acc l= .ok (l.foldl (fun n c=>10*n+(c.toNat - 48)) acc))∧(M<l.foldl (fun n c=>10*n+(c.toNat - 48)) acc→Lib.parseUintM M acc l= .range)
 | [],acc,_,ha=>⟨fun _=>rfl,fun h=>absurd h (by simpa using ha)⟩
 |c::l,acc,hd,ha=>by
  simp only[List.all_cons,Bool.and_eq_true]at hd
  have hc:=hd.1
  unfold digB at hc
  simp only[Bool.and_eq_true,decide_eq_true_eq]at hc
  have mono:∀(l:Lab) (a:Nat),a≤l.foldl (fun n c=>10*n+(c.toNat - 48)) a:=by
   intro l
   induction l with
   |nil=>exact fun a=>Nat.le_refl _
   |cons c l ih=>exact fun a=>Nat.le_trans (show a≤10*a+(c.toNat - 48) by omega) (ih _)
  have hm:=mono l (10*acc+(c.toNat - 48))
  rw[List.foldl_cons]
  unfold Lib.parseUintM
  rw[if_pos hc,Nat.mul_comm acc 10]
  by_cases h1:M<10*acc+(c.toNat - 48)
  ·refine⟨fun h=>by omega,fun _=>?_⟩
   rw[if_pos h1]
   split<;>rfl
  ·by_cases h2:1844674407370955162≤acc
   ·omega
   rw[if_neg h2,if_neg h1]
   exact zjK hM l _ hd.2 (by omega)
theorem ziK{w:World}(hW:WX w)(s:Lab)(h0:s≠ [])(hd:s.all digB=true)(hs:s.length≤1000000000):
  Fn Tryz.prog 189 #[vs s,vi 10,vi 64] w (fun v w'=>(if valD s≤18446744073709551615 then v= .tuple #[.int .u64 (valD s),.nilIface] else∃n t p,v= .tuple #[.int .u64 n,.iface t p])∧Ext w w'):=by
 have hm:(2:Nat) ^ 64 - 1=18446744073709551615:=by decide
 obtain⟨p1,p2⟩:=zjK (M:=2 ^ 64 - 1) hm s 0 hd (Nat.zero_le _)
 have hsz:(⟨s.toArray⟩:ByteArray).size≤9223372036854775806:=by show s.toArray.size≤_;simp;omega
 by_cases hv:valD s≤18446744073709551615
 ·have e1:Lib.parseUintB 64 (⟨s.toArray⟩:ByteArray).data.toList= .ok (valD s):=by
   unfold Lib.parseUintB
   rw[if_neg (by simpa using h0)]
   exact p1 (by rw[hm];exact hv)
  refine Fn.of_calls (Calls.mono (Any.strconv_ParseUint_10_at64_ok Tryz.laysPu14 ⟨s.toArray⟩ hsz _ e1 w) ?_)
  rintro _ w' ⟨rfl,h⟩
  refine⟨_,rfl,by rw[if_pos hv],?_⟩
  rcases h with rfl|rfl
  ·exact Keep.refl _ _
  ·exact Ext.bytes _ _ _
 ·have e1:Lib.parseUintB 64 (⟨s.toArray⟩:ByteArray).data.toList= .range:=by
   unfold Lib.parseUintB
   rw[if_neg (by simpa using h0)]
   exact p2 (by rw[hm];exact Nat.lt_of_not_le hv)
  have hI:=AnyPu.internal_strconv_ParseUint_10_at64 {Tryz.laysPu14 with} ⟨s.toArray⟩ hsz w
  rw[e1]at hI
  have hI:Calls Tryz.prog 215 #[vs s,.int .i64 10,.int .i64 64] w fun e w'=>e= .returned (.tuple #[.int .u64 18446744073709551615,.iface 296 (.int .i64 1)])∧(w'=w∨w'=Lib.bytesWorld w 5 ⟨s.toArray⟩):=hI
  refine Fn.of_calls ?_
  simp only[if_neg hv]
  go_enter Tryz.func189,Tryz.ntmps189
  go_wp2_with (go_at_call 215;refine hI.mono ?_)
  rintro e W1 rfl hw
  have hE1:Ext w W1:=by
   rcases hw with rfl|rfl
   ·exact Keep.refl _ _
   ·exact Ext.bytes _ _ _
  clear hw
  have hW1:=hW.ext hE1
  go_wp2_with (go_at_call 216;refine(zku _ [80,97,114,115,101,85,105,110,116] s hs hW1.er).mono ?_)
  rintro e W2 ⟨⟨t,p,rfl⟩,hE2⟩
  go_wp2
  go_ret2
  exact⟨_,rfl,⟨_,_,_,rfl⟩,hE1.trans hE2⟩
theorem Bld.mono{B B':Nat}{w:World}{b:Nat}{bs:List UInt8}(h:Bld B w b bs)(hB:B'≤B):Bld B' w b bs:=by
 obtain⟨p,v,h1,h2,h3⟩:=h.ex
 exact⟨p,v,h1,h2,h3.mono hB⟩
theorem zle(w:World)(n:Nat)(hn:n≤100000000000):extC Tryz.prog 115 #[vi n] w (fun v w'=>∃cs:Array Value,v= .slice (some ⟨w.heap.size,0,Option.none⟩) n cs.size∧w'=w.drew.drew.alloc (.cells cs 5 (0,0))∧n≤cs.size∧cs.size≤maxLen):=by
 obtain⟨cs,hrun,hle,hmax⟩:=Lib.run_makeNoZero (P:=Tryz.prog) w #[3] 43 5 rfl n (by omega)
 refine⟨_,_,?_,cs,rfl,rfl,hle,hmax (by unfold maxLen;omega)⟩
 rw[run_callFunc_extern Tryz.func115 (by kernel_rfl) (by kernel_rfl) (by kernel_rfl) (e:=Extern.BytealgMakeNoZero.makeNoZero #[3] #[43]) (by kernel_rfl),hrun]
 rfl
section
variable {P : Program} {d : Option Tmp} {ty : TypeId} {ps : String} {af : Array Edge} {g : Option (Nat × Bool)} {ρ : Operand → Value} {w : World} {K : Value → World → Prop}
theorem v_cap(a:Array Operand)(t:Array TypeId):opV P ⟨d,.call ⟨.builtin .cap,a,t⟩,ty,ps,af,g⟩ ρ w K=opL P ⟨d,.call ⟨.builtin .cap,a,t⟩,ty,ps,af,g⟩ ρ w K .mk:=nr rfl
theorem op_cap{x:Operand}{t e:TypeId}{a:Option Addr}{n c:Nat}(ht:tyU P t=some (.slice e))(hx:ρ x= .slice a n c)(h:K (vi c) w):opW P ⟨d,.call ⟨.builtin .cap,#[x],#[t]⟩,ty,ps,af,g⟩ ρ w K:=by
 simp only[opW,execOp,Sem.run_bind,resolve]
 simp only[Sem.run_pure,Result.andThen_ok,invoke,builtin]
 refine zaC (s:=Builtin.cap_ #[t] ty (Array.map ρ #[x])) (v:=vi c) (w':=w) ?_ h
 simp[Builtin.cap_,hx,run_underlying (show P.underlying t=_ from ht),goInt]
end
attribute [go_sem ↓] v_cap
theorem zkO{w:World}{b n:Nat}(hb:w.heap[b]? =some (.cells #[.pointer (some ⟨b,0,Option.none⟩),.slice Option.none 0 0] 63 (0,0)))(hn:n≤100000000000):
  Fn Tryz.prog 79 #[.pointer (some ⟨b,0,Option.none⟩),vi n] w (fun _ w'=>Bld w.heap.size w' b []∧Keep (fun i=>i=b∨w.heap.size≤i) w w'):=by
 refine enter Tryz.func79 Tryz.ntmps79 rfl rfl ?_
 repeat refine c_r ?_
 refine zaF (fun _=>false) [(0,true),(1,true),(2,true),(3,true),(6,true),(9,true),(10,true),(11,true),(12,true),(13,true),(4,false),(5,true),(7,true),(8,false),(14,true),(15,true)] (zcK w.heap.size) mixed (by kernel_rfl) ?_;intro gd K x hgd hx hxe hK;have hx0:=zaT hxe;clear hxe
 have c1:zad x (some ⟨b,1,Option.none⟩)=some (.slice Option.none 0 0):=za2 (Ext.at hx0 hb) rfl
 simp (disch:=first|omega|assumption|rfl) only[go_sem,c1]
 have hbs:b<w.heap.size:=(Array.getElem?_eq_some_iff.1 hb).1
 refine⟨zbu hbs,zbu hbs,?_⟩
 refine op_cap rfl (vr0) ?_
 refine⟨.inr (Keep.refl _ _),?_⟩
 simp (disch:=first|omega|assumption|rfl) only[go_sem,c1]
 rw[show (2:Int)*((0:Nat):Int)+(n:Int)=(n:Int) by omega]
 obtain⟨_,y1,hr,cs,rfl,hy,hle,hmx⟩:=zle x n hn
 have hEy:Ext x y1:=hy▸((Keep.drew NoS x).trans (Keep.drew NoS _)).trans (Ext.alloc _ _)
 refine⟨_,y1,hr,.inr hEy.keep,?_⟩
 have c2:zad y1 (some ⟨b,1,Option.none⟩)=some (.slice Option.none 0 0):=za2 (Ext.at (hx0.trans hEy) hb) rfl
 have hnew:y1.heap[x.heap.size]? =some (.cells cs 5 (0,0)):=by rw[hy];exact zat _ _
 have hsy:y1.heap.size=x.heap.size+1:=by rw[hy];exact zax _ _
 have z0:(0:Int)≤((0:Nat):Int):=by omega
 simp (disch:=first|omega|assumption|rfl) only[go_sem,c2,z0,ite_self,Nat.sub_zero]
 refine hK _ _ ?_;clear hK hgd;clear K;try clear gd
 repeat refine c_r ?_
 refine rq ?_;intro gd K hgd hK
 try simp (disch:=first|omega|assumption|rfl) only[go_sem,c2]
 refine zjO (u:= .slice (some ⟨x.heap.size,0,Option.none⟩) 0 cs.size) (z:= .slice Option.none 0 0) (vr0) (vr0) (run_copy_none _ _ _ _ 5 _ _ _ _ _ _ (by kernel_rfl) (by kernel_rfl) rfl) ?_
 try simp only[go_sem]
 refine hK _ _ ?_;clear hK hgd;clear K;try clear gd
 repeat refine c_r ?_
 refine rq ?_;intro gd K hgd hK
 try simp only[go_sem]
 refine zdc (P:=Tryz.prog) (t:=43) (j:=1) (l:=[.pointer (some ⟨b,0,Option.none⟩),.slice Option.none 0 0]) (Ext.at (hx0.trans hEy) hb) (by simp) rfl rfl rfl ?_
 intro w3 hs3 hb3 hk3
 try simp only[go_sem]
 refine hK _ _ ?_;clear hK hgd;clear K;try clear gd
 repeat refine c_r ?_
 have hsx:=hx0.size
 have hn3:w3.heap[x.heap.size]? =some (.cells cs 5 (0,0)):=(hk3.block _ (by rw[hsy];omega) (fun h=>by have h:x.heap.size=b:=h;omega)).trans hnew
 refine zaf (.inl rfl) Tryz.ntmps79 rfl zae ?_
 refine⟨⟨⟨_,_,.inr rfl,by simpa using hb3,⟨rfl,.inr ⟨x.heap.size,cs.size,cs,rfl,hsx,hn3,Nat.zero_le _,hmx,by simp,rfl⟩⟩⟩⟩,?_⟩
 exact(((hx0.trans hEy).mono (fun i _ h=>h.elim)).trans (hk3.mono (fun i _ h=> .inl h)))
theorem zlh{w:World}{b n:Nat}(hb:w.heap[b]? =some (.cells #[.pointer Option.none,.slice Option.none 0 0] 63 (0,0)))(hn:n≤100000000000):
  Fn Tryz.prog 52 #[.pointer (some ⟨b,0,Option.none⟩),vi n] w (fun _ w'=>Bld w.heap.size w' b []∧Keep (fun i=>i=b∨w.heap.size≤i) w w'):=by
 have hbs:b<w.heap.size:=(Array.getElem?_eq_some_iff.1 hb).1
 have d0:decide ((n:Int)<0)=false:=decide_eq_false (by omega)
 refine enter Tryz.func52 Tryz.ntmps52 rfl rfl ?_
 repeat refine c_r ?_
 refine rq ?_;intro gd K hgd hK
 try simp only[go_sem]
 refine Fn.mono (zcr (.inl rfl) hb) ?_
 rintro _ w1 ⟨hb1,hk1,hs1⟩
 try simp only[go_sem]
 refine hK _ _ ?_;clear hK hgd;clear K;try clear gd
 refine go d0 ?_
 have hb1s:b<w1.heap.size:=by omega
 refine zaF (fun _=>false) [(0,true),(1,true),(2,true),(3,true),(5,true),(6,true),(7,true),(8,true),(9,true),(11,true),(4,false),(10,true),(12,true)] (zcK w1.heap.size) mixed (by kernel_rfl) ?_;intro gd K x hgd hx hxe hK;have hx0:=zaT hxe;clear hxe
 have hbx:=Ext.at hx0 hb1
 have c1:zad x (some ⟨b,1,Option.none⟩)=some (.slice Option.none 0 0):=za2 hbx rfl
 simp (disch:=first|omega|assumption|rfl) only[go_sem,c1]
 refine⟨zbu hb1s,zbu hb1s,?_⟩
 refine op_cap rfl (vr0) ?_
 refine⟨.inr (Keep.refl _ _),?_⟩
 simp (disch:=first|omega|assumption|rfl) only[go_sem,c1]
 refine hK _ _ ?_;clear hK hgd;clear K;try clear gd
 repeat refine c_r ?_
 have hkx:Keep (fun i=>i=b∨w.heap.size≤i) w x:=(hk1.mono fun i _ h=> .inl h).trans (hx0.mono fun i _ h=>h.elim)
 have hsx:=hx0.size
 refine wc0 ?_ ?_
 ·intro _
  refine go trivial ?_
  refine rc trivial (zkO hbx hn) ?_
  rintro _ w3 ⟨hB,hk3⟩
  refine rgo trivial ?_
  refine zaf (.inl rfl) Tryz.ntmps52 rfl zae ?_
  exact⟨hB.mono (by omega),hkx.trans (hk3.mono fun i _ h=>h.imp id fun h=>by omega)⟩
 ·intro _
  refine go trivial ?_
  refine zaf (.inl rfl) Tryz.ntmps52 rfl zae ?_
  exact⟨⟨⟨_,_,.inr rfl,hbx,Own.nil _ _ _⟩⟩,hkx⟩
section
variable {P : Program} {x : World} {e : TypeId} {K : Value → World → Prop}
theorem zbm{t:TypeId}{cur:Array Value}{l:List Value}(hl:l.length=cur.size)(h1:∀v∈l,one v=true)(hs:tyS P t=l.length)(hi:(P.info? t).isSome=true)
  (hK:∀w',Ext x w'→w'.heap.size=x.heap.size+1→w'.heap[x.heap.size]? =some (.cells l.toArray e (0,0))→K undef w'):stK P t (.pointer (some ⟨x.heap.size,0,Option.none⟩)) (.agg l.toArray) (x.alloc (.cells cur e (0,0))) K:=by
 have hB3:=zat x (.cells cur e (0,0))
 have hE4:=Ext.alloc x (.cells cur e (0,0))
 have hs4:=zax x (.cells cur e (0,0))
 refine zaR (P:=P) (t:=t) (l:=l) hB3 hl h1 hs hi ?_
 intro w5 hs5 hB5 hk5
 exact hK w5 (Keep.to_ext hE4 rfl (fun b hb=>by omega) hk5) (by omega) hB5
theorem Row.isOne{w:World}{v:Value}{l:List Value}(h:Row w v l):one v=true:=by
 obtain⟨a,c,rfl,_⟩:=h;rfl
theorem Rows.isOne{α:Type}{k:Nat}{C:List Value→α→Prop}{w:World}{v:Value}{l:List α}(h:Rows k C w v l):one v=true:=by
 obtain⟨a,c,rfl,_⟩:=h.open;rfl
end
def TyC(cs:List Value)(x:Int×Lab):Prop:=cs=[vi x.1,vs x.2]
theorem TyC.shape:zgf 2 TyC:=⟨fun h=>by rw[h];rfl,fun h=>by
 rw[h]
 intro q hq
 rcases List.mem_cons.1 hq with rfl|hq
 ·rfl
 ·rw[List.mem_singleton.1 hq];rfl⟩
def tyTab:List (Int×Lab):=[(1,[65]),(2,[78,83]),(5,[67,78,65,77,69]),(6,[83,79,65]),(12,[80,84,82]),(15,[77,88]),(16,[84,88,84]),(28,[65,65,65,65]),(39,[68,78,65,77,69])]
def zbV(k:Int):List (Int×Lab)→Lab×Bool
 | []=>([],false)
 |x::T=>if x.1=k then(x.2,true) else zbV k T
theorem bs_tab{P:Program}{t e:TypeId}{parts:List (Nat×Value)}{w:World}{K:Value→World→Prop}(hC:bsC P t 9 parts=some (e,(tyTab.flatMap fun x=>[vi x.1,vs x.2]).toArray))
  (h:∀w1,Ext w w1→Rows 2 TyC w1 (.slice (some ⟨w.heap.size,0,Option.none⟩) 9 9) tyTab→K (.slice (some ⟨w.heap.size,0,Option.none⟩) 9 9) w1):bsL P t 9 parts w K .mk:=by
 unfold bsL bsK
 rw[hC]
 refine h _ (Ext.alloc w _) (Rows.close (xs:=tyTab) (c:=9) (by decide) fun i hi=>?_)
 have hb:=zat w (.cells (tyTab.flatMap fun x=>[vi x.1,vs x.2]).toArray e (0,0))
 have hi9:i<9:=hi
 match i,hi9 with
 |0,_=>exact⟨_,zay (o:=0) (k:=2) hb (by decide),rfl⟩
 |1,_=>exact⟨_,zay (o:=2) (k:=2) hb (by decide),rfl⟩
 |2,_=>exact⟨_,zay (o:=4) (k:=2) hb (by decide),rfl⟩
 |3,_=>exact⟨_,zay (o:=6) (k:=2) hb (by decide),rfl⟩
 |4,_=>exact⟨_,zay (o:=8) (k:=2) hb (by decide),rfl⟩
 |5,_=>exact⟨_,zay (o:=10) (k:=2) hb (by decide),rfl⟩
 |6,_=>exact⟨_,zay (o:=12) (k:=2) hb (by decide),rfl⟩
 |7,_=>exact⟨_,zay (o:=14) (k:=2) hb (by decide),rfl⟩
 |8,_=>exact⟨_,zay (o:=16) (k:=2) hb (by decide),rfl⟩
theorem zfA(w:World):Fn Tryz.prog 57 #[] w (fun v w'=>Rows 2 TyC w' v tyTab∧Ext w w'):=by
 refine enter Tryz.func57 Tryz.ntmps57 rfl rfl ?_
 refine go trivial ?_
 refine rq ?_;intro gd K hgd hK
 try simp only[go_sem]
 iterate 9
  refine⟨by kernel_rfl,?_⟩
  rw[show ∀n s,bdV Tryz.prog 149 [(0,vi n),(1,.string s)]=some (.agg #[vi n,.string s]) from fun n s=>by kernel_rfl]
  try simp only[go_sem]
 refine bs_tab (e:=149) (by kernel_rfl) ?_
 intro w1 hE1 hR
 try simp only[go_sem]
 refine hK _ _ ?_;clear hK hgd;clear K;try clear gd
 repeat refine c_r ?_
 refine rt0 Tryz.ntmps57 ?_
 exact⟨hR,hE1⟩
theorem zmL{w:World}{v:Value}{T:List (Int×Lab)}(h:Rows 2 TyC w v T)(hT:T.length≤1000)(k:Int):
  Fn Tryz.prog 56 #[v,vi k] w (fun u w'=>u= .tuple #[vs (zbV k T).1,.bool (zbV k T).2]∧Ext w w'):=by
 obtain⟨a,c,rfl,hc,hg⟩:=h.open
 refine enter Tryz.func56 Tryz.ntmps56 rfl rfl ?_
 refine go trivial ?_
 refine zbq T.length (fun i σ x=>σ 9= .slice a T.length c∧σ 10=vi T.length∧σ 11=vi i∧σ 1=vi k∧zbV k T=zbV k (T.drop i)∧Ext w x) ?_ ?_ ?_
 ·exact⟨vr0,vr0,vr0,vr0,rfl,Keep.refl _ _⟩
 ·rintro i σ x hi p ⟨h9,h10,h11,h1,hf,hE⟩
  obtain⟨cs,g0,hcs⟩:=hg i hi
  have g:=zah hE g0
  obtain⟨y,hy⟩:∃y,T[i]=y:=⟨_,rfl⟩
  rw[hy]at hcs
  have hcs:cs=[vi y.1,vs y.2]:=hcs
  subst hcs
  obtain⟨xa,rfl⟩:=Option.isSome_iff_exists.1 (zav g)
  obtain⟨xi,hxi⟩:∃xi,adr (some xa) (i*2)=some xi:=⟨_,rfl⟩
  rw[hxi]at g
  have hi0:(0:Int)≤(i:Int):=by omega
  have hi1:(i:Int)<(T.length:Int):=by omega
  have hi2:(i:Int)+1=((i+1:Nat):Int):=by push_cast;rfl
  refine go (an4 h9 h10 h11 p) ?_
  refine rq ?_;intro gd K hgd hK
  try simp (disch:=first|omega|assumption|rfl) only[go_sem,h9,h11,hi0,hi1,hxi,g]
  refine zbm (P:=Tryz.prog) (l:=[vi y.1,vs y.2]) rfl ?_ rfl rfl ?_
  ·exact TyC.shape.ones (a:=y) rfl
  intro x1 hE1 hs1 hB1
  try simp only[go_sem]
  refine hK _ _ ?_;clear hK hgd;clear K;try clear gd
  have p0:=za2 (l:=[vi y.1,vs y.2]) (j:=0) hB1 rfl
  have p1:=za2 (l:=[vi y.1,vs y.2]) (j:=1) hB1 rfl
  rw[List.drop_eq_getElem_cons hi,hy]at hf
  by_cases he:y.1=k
  ·refine go (an5 p0 p1 h1 (decide_eq_true he) (Nat.zero_add 1)) ?_
   refine zaf (.inr rfl) Tryz.ntmps56 rfl (zac (v:=vs y.2) (vr0) (zac (v:= .bool true) (vr0) zae)) ?_
   rw[hf]
   unfold zbV
   rw[if_pos he]
   exact⟨rfl,hE.trans hE1⟩
  ·refine go (an8 p0 h1 (decide_eq_false he) h9 h10 h11 hi2 p) ?_
   refine⟨rfl,(vq1 h9),(vq1 h10),vq0,(vq1 h1),?_,hE.trans hE1⟩
   rw[hf]
   show(if y.1=k then _ else _)=_
   rw[if_neg he]
 ·rintro σ x p ⟨h9,h10,h11,h1,hf,hE⟩
  refine go (an4 h9 h10 h11 p) ?_
  refine zaf (.inr rfl) Tryz.ntmps56 rfl (zac (v:=vs []) (vr0) (zac (v:= .bool false) (vr0) zae)) ?_
  rw[hf,List.drop_length]
  exact⟨rfl,hE⟩
theorem zng(w:World)(k:Int):Fn Tryz.prog 88 #[vi k] w (fun u w'=>u= .bool (zbV k tyTab).2∧Ext w w'):=by
 refine enter Tryz.func88 Tryz.ntmps88 rfl rfl ?_
 refine go trivial ?_
 refine rc trivial (zfA w) ?_
 rintro v w1 ⟨hR,hE1⟩
 refine rd trivial (zmL hR (by decide) k) ?_
 rintro _ w2 ⟨rfl,hE2⟩
 refine rgo trivial ?_
 refine rt0 Tryz.ntmps88 ?_
 exact⟨rfl,hE1.trans hE2⟩
def zaM(sep:Lab):List Lab→Lab
 | []=>[]
 |x::r=>x++r.flatMap fun y=>sep++y
def zaG(xs:List Lab):Nat:=(xs.map List.length).sum
theorem zgE{xs:List Lab}{i:Nat}(h:i<xs.length):zaG (xs.take (i+1))=zaG (xs.take i)+xs[i].length:=by
 unfold zaG;rw[zak h,List.map_append,List.sum_append];simp
theorem zfo{xs:List Lab}(i:Nat):zaG (xs.take i)≤zaG xs:=by
 have h:=congrArg zaG (List.take_append_drop i xs)
 unfold zaG at*
 rw[List.map_append,List.sum_append]at h
 omega
theorem zhh(sep:Lab)(r:List Lab):(r.flatMap fun y=>sep++y).length=sep.length*r.length+zaG r:=by
 induction r with
 |nil=>simp[zaG]
 |cons y r ih=>
  have:zaG (y::r)=y.length+zaG r:=by simp[zaG]
  rw[List.flatMap_cons,List.length_append,List.length_append,ih,List.length_cons,this,Nat.mul_succ];omega
theorem zeZ{w:World}{v:Value}{xs:List Lab}(h:Row w v (xs.map vs)){sep:Lab}(hx:xs.length≤1000000)(hs:1≤sep.length)(hs2:sep.length≤1000)(hl:zaG xs≤1000000000):
  Fn Tryz.prog 24 #[v,vs sep] w (fun u w'=>u=vs (zaM sep xs)∧Ext w w'):=by
 obtain⟨a,c,rfl,hc,hg⟩:=h
 rw[List.length_map]at hc
 rw[List.length_map]
 obtain⟨L,hL⟩:∃L,xs.length=L:=⟨_,rfl⟩
 have hgx:∀i (hi:i<xs.length),zad w (adr a i)=some (vs xs[i]):=fun i hi=>by
  have:=hg i (by rw[List.length_map];exact hi)
  rw[List.getElem_map]at this
  exact this
 refine enter Tryz.func24 Tryz.ntmps24 rfl rfl ?_
 by_cases h0:L=0
 ·have hx0:xs=[]:=List.length_eq_zero_iff.1 (by omega)
  subst hx0
  refine go (show decide (((0:Nat):Int)=0)=true from rfl) ?_
  refine rt0 Tryz.ntmps24 ?_
  exact⟨rfl,Keep.refl _ _⟩
 have hL0:0<xs.length:=by omega
 have g0:=hgx 0 hL0
 obtain⟨xa,rfl⟩:=Option.isSome_iff_exists.1 (zai g0)
 rw[zam]at g0
 have d0:decide ((L:Int)=0)=false:=decide_eq_false (by omega)
 have z0:(0:Int)≤0:=by decide
 have zL:(0:Int)<(L:Int):=by omega
 have t0:(0:Int).toNat=0:=rfl
 rw[hL]at hc ⊢
 obtain⟨x,r,hxr⟩:∃x r,xs=x::r:=by
  cases xs with
  |nil=>simp at hL0
  |cons x r=>exact⟨x,r,rfl⟩
 have hx0:xs[0]=x:=by simp only[hxr];rfl
 rw[hx0]at g0
 by_cases h1:L=1
 ·have hr:r=[]:=by rw[hxr]at hL;simp at hL;exact List.length_eq_zero_iff.1 (by omega)
  have d1:decide ((L:Int)=1)=true:=decide_eq_true (by omega)
  refine go (an7 d0 d1 z0 zL t0 zam g0) ?_
  refine zaf (.inr rfl) Tryz.ntmps24 rfl (zac (v:=vs x) (vr0) zae) ?_
  rw[hxr,hr,show zaM sep [x]=x by simp[zaM]]
  exact⟨rfl,Keep.refl _ _⟩
 have d1:decide ((L:Int)=1)=false:=decide_eq_false (by omega)
 obtain⟨M,hM⟩:∃M,sep.length*(L - 1)=M:=⟨_,rfl⟩
 have hM1:M≤1000*1000000:=hM▸Nat.mul_le_mul hs2 (by omega)
 have dS:decide ((0:Int)<(sep.length:Int))=true:=decide_eq_true (by omega)
 have e1:(L:Int) - 1=((L - 1:Nat):Int):=by omega
 obtain⟨q,hq⟩:∃q,9223372036854775807 / (L - 1)=q:=⟨_,rfl⟩
 have hq1:1001≤q:=by rw[←hq,Nat.le_div_iff_mul_le (by omega)];omega
 have hq2:q≤9223372036854775807:=by rw[←hq];exact Nat.div_le_self _ _
 have e2:(9223372036854775807:Int).tdiv ((L - 1:Nat):Int)=(q:Int):=by
  rw[Int.tdiv_eq_ediv_of_nonneg (by omega),←hq,Int.natCast_ediv];rfl
 have nz:¬((L - 1:Nat):Int)=0:=by omega
 have d2:decide ((q:Int)≤(sep.length:Int))=false:=decide_eq_false (by omega)
 have e3:IntKind.i64.wrap ((sep.length:Int)*((L - 1:Nat):Int))=(M:Int):=by
  rw[←Int.natCast_mul,hM]
  exact zd6 (by omega) (by omega)
 refine go (an8 d0 d1 dS e1 e2 nz d2 e3) ?_
 refine zbq L (fun i σ v=>σ 0= .slice (some xa) L c∧σ 1=vs sep∧σ 5=vi (M+zaG (xs.take i):Nat)∧σ 39= .slice (some xa) L c∧σ 40=vi L∧σ 41=vi i∧w=v) ?_ ?_ ?_
 ·have hM0:(0:Int)+(M:Int)=((M+zaG (xs.take 0):Nat):Int):=by simp[zaG]
  exact⟨vr0,vr0,(vq1 hM0),vr0,vr0,vr0,rfl⟩
 ·rintro i σ v hi p ⟨s0,s1,s5,s39,s40,s41,rfl⟩
  have hi':i<xs.length:=by omega
  have g:=hgx i hi'
  have ht:=zgE hi'
  have hle:=zfo (xs:=xs) (i+1)
  obtain⟨y,hy⟩:∃y,xs[i]=y:=⟨_,rfl⟩
  rw[hy]at g ht
  obtain⟨N,hN⟩:∃N,M+zaG (xs.take i)=N:=⟨_,rfl⟩
  rw[hN]at s5
  have hN2:M+zaG (xs.take (i+1))=N+y.length:=by omega
  have hi0:(0:Int)≤(i:Int):=by omega
  have hi1:(i:Int)<(L:Int):=by omega
  have hi2:(i:Int)+1=((i+1:Nat):Int):=by push_cast;rfl
  have d3:decide ((9223372036854775807:Int) - (N:Int)<(y.length:Int))=false:=decide_eq_false (by omega)
  have e4:(N:Int)+(y.length:Int)=((N+y.length:Nat):Int):=by omega
  refine go (an9 s0 s1 s5 s39 s40 s41 p g (an4 hi0 hi1 d3 e4)) ?_
  refine⟨rfl,(vq1 s0),(vq1 s1),(vq1 hN2),(vq1 s39),(vq1 s40),(vq1 hi2),rfl⟩
 rintro σ v p ⟨s0,s1,s5,s39,s40,s41,rfl⟩
 have hlt:=zfo (xs:=xs) L
 refine go (an5 s39 s40 s41 p s0) ?_
 refine zan ?_
 intro w1 hE1 hs1 hA
 refine rc s5 (zlh (n:=M+zaG (xs.take L)) hA (by omega)) ?_
 rintro _ w2 ⟨hB2,hk2⟩
 have hEv:Ext w w2:=Keep.to_ext hE1 rfl (fun b hb=>by omega) hk2
 have hs2':=hk2.size
 have g2:=zab hEv g0
 have hlx:zaG xs=x.length+zaG r:=by rw[hxr];simp[zaG]
 have hrL:r.length=L - 1:=by rw[hxr]at hL;simp at hL;omega
 refine rgo s0 ?_
 refine rc (an7 s0 z0 zL t0 zam g2 s1) (zaU (s:=x) hB2 (by omega) (by simp;omega)) ?_
 rintro _ w3 ⟨hB3,hk3⟩
 have hE3:Ext w w3:=Keep.to_ext hEv rfl (fun b hb=>by omega) hk3
 have hs3:=hk3.size
 obtain⟨y1,hy1⟩:∃y1,adr (some xa) 1=some y1:=⟨_,rfl⟩
 have z1:(0:Int)≤1:=by decide
 have zl1:(1:Int)≤(L:Int):=by omega
 have t1:(1:Int).toNat=1:=rfl
 have hce:(if c=1 then some xa else some y1)=some y1:=if_neg (by omega)
 refine rgo (an7 s0 s1 z1 zl1 t1 hce hy1) ?_
 have hjl:=zhh sep
 have hsr:sep.length*r.length=M:=by rw[hrL,hM]
 refine zbq (L - 1) (fun i σ v=>σ 1=vs sep∧σ 8= .pointer (some ⟨w.heap.size,0,Option.none⟩)∧σ 63= .slice (some y1) (L - 1) (c - 1)∧σ 64=vi (L - 1:Nat)∧σ 65=vi i∧Ext w v∧w1.heap.size≤v.heap.size∧Bld w1.heap.size v w.heap.size (x++(r.take i).flatMap fun y=>sep++y)) ?_ ?_ ?_
 ·exact⟨(vq1 s1),vr0,vr0,vr0,vr0,hE3,by omega,by simpa using hB3⟩
 ·rintro i σ v hi p ⟨s1,s8,s63,s64,s65,hE,hsv,hB⟩
  have hir:i<r.length:=by omega
  have g:=zab hE (hgx (i+1) (by omega))
  have hxi:xs[i+1]'(by omega)=r[i]:=by simp only[hxr];rfl
  rw[hxi]at g
  have g':zad v (adr (some y1) i)=some (vs r[i]):=by rw[←hy1,zeY,Nat.add_comm];exact g
  have hi0:(0:Int)≤(i:Int):=by omega
  have hi1:(i:Int)<((L - 1:Nat):Int):=by omega
  have hi2:(i:Int)+1=((i+1:Nat):Int):=by push_cast;rfl
  have hlr:zaG (r.take i)≤zaG r:=zfo i
  have hri:r[i].length≤zaG r:=by
   have h1:=zgE hir
   have h2:=zfo (xs:=r) (i+1)
   omega
  have hfl:=hjl (r.take i)
  have htl:(r.take i).length=i:=by rw[List.length_take];omega
  have hsi:sep.length*i≤M:=by rw[←hM];exact Nat.mul_le_mul_left _ (by omega)
  rw[htl]at hfl
  refine go (an9 s1 s8 s63 s64 s65 p g' hi0 hi1) ?_
  refine rc (an2 s1 s8) (zaU (s:=sep) hB hsv (by simp only[List.length_append];omega)) ?_
  rintro _ v1 ⟨hB1,hk1⟩
  have hsv1:=hk1.size
  refine rgo trivial ?_
  refine rc (an2 s1 s8) (zaU (s:=r[i]) hB1 (by omega) (by simp only[List.length_append];omega)) ?_
  rintro _ v2 ⟨hB2',hk2'⟩
  have hsv2:=hk2'.size
  refine rgo (an5 s1 s8 s63 s64 (an2 s65 hi2)) ?_
  refine⟨rfl,(vq1 s1),(vq1 s8),(vq1 s63),(vq1 s64),(vq1 hi2),Keep.to_ext hE rfl (fun b hb=>by omega) (hk1.trans hk2'),by omega,?_⟩
  rw[zak hir,List.flatMap_append,List.flatMap_singleton]
  simpa [List.append_assoc] using hB2'
 ·rintro σ v p ⟨s1,s8,s63,s64,s65,hE,hsv,hB⟩
  rw[←hrL,List.take_length]at hB
  have hfl:=hjl r
  refine go (an4 s63 s64 s65 p) ?_
  refine rc s8 (zcL hB (by simp only[List.length_append];omega)) ?_
  rintro _ v1 ⟨rfl,hk1⟩
  refine rgo trivial ?_
  refine rt0 Tryz.ntmps24 ?_
  rw[hxr]
  exact⟨rfl,Keep.to_ext hE rfl (fun b hb=>by omega) hk1⟩
theorem i_str0(k:IntKind)(c:UInt8)(r:Lab):ixSD (some .string) (vs (c::r)) (.int k 0)=some (.int .u8 c.toNat):=(zkN (Int.le_refl _) (by simp)).trans rfl
attribute [go_sem] i_str0
section
variable {P : Program} {d : Option Tmp} {ty : TypeId} {ps : String} {af : Array Edge} {g : Option (Nat × Bool)} {ρ : Operand → Value} {w : World} {K : Value → World → Prop}
theorem zek(alt:Prop)(m:Lck K alt):optL Option.none w K alt m=alt:=rfl
theorem zg7{t yt:TypeId}{x:Operand}{u:Value}{b:Bool}(ht:P.underlying t=some (.interface (P.methodsAt t)))(hu:(u= .nilIface∧b=false)∨((∃k p,u= .iface k p)∧b=true))(hx:ρ x=u)(hn:ρ (.const .nilIface)= .nilIface)(h:K (.bool b) w):
  opW P ⟨d,.binOp .neq t x (.const .nilIface) yt,ty,ps,af,g⟩ ρ w K:=by
 have hr:(do eqGuard .neq t x (.const .nilIface) u .nilIface;binOp .neq t u .nilIface:Sem Value).run P w= .ok (.bool b) w:=by
  rcases hu with ⟨rfl,rfl⟩| ⟨⟨k,p,rfl⟩,rfl⟩
  ·simp[Sem.run,eqGuard,run_neq_nil_nil w t ht]
  ·simp[Sem.run,eqGuard,run_neq_held_nil w t k p ht]
 have:=zaC (P:=P) (K:=K) hr h
 rw[←hx,←hn]at this
 exact this
end
theorem zkQ(c:UInt8)(r:Lab):zik (c::r)=((c::r).all digB && !(decide (c=48) && !decide (r=[]))):=by
 unfold zik
 cases r with
 |nil=>simp
 |cons a r=>by_cases h:c=48<;>simp[h]
theorem zca{w:World}(hW:WX w)(s:Lab)(most:Nat)(hm:most≤4294967296)(hs:s.length≤1000000000):
  Fn Tryz.prog 164 #[vs s,.int .u64 most] w (fun v w'=>v= .tuple #[.int .u64 (decP most s).1,vi (decP most s).2]∧Ext w w'):=by
 refine enter Tryz.func164 Tryz.ntmps164 rfl rfl ?_
 refine go trivial ?_
 refine zas (Q:=fun e σ ds v=>e= .normal∧ds=[]∧σ 0=vs s∧σ 1= .int .u64 most∧σ 23= .bool (!zik s)∧Ext w v) ?_ ?_
 ·by_cases h0:s=[]
  ·subst h0
   refine rgg [(2,10),(7,15),(11,19)] trivial ?_
   exact⟨rfl,rfl,vr0,vr0,vr0,Keep.refl _ _⟩
  obtain⟨c,r,rfl⟩:=List.exists_cons_of_ne_nil h0
  rw[zkQ]
  have d0:decide (c::r=[])=false:=decide_eq_false h0
  refine rcg [(2,10),(7,15),(11,19)] d0 (zne w (c::r) h0 (by omega)) ?_
  rintro _ w1 ⟨rfl,hE1⟩
  by_cases hd:(c::r).all digB=true
  ·have d1:decide (Lib.trimS (c::r) digs10=[])=true:=decide_eq_true ((zd9 _).2 hd)
   rw[hd]
   by_cases h48:c=48
   ·have d2:decide ((c.toNat:Int)=48)=true:=by subst h48;rfl
    have d3:decide (c::r=[48])=decide (r=[]):=by subst h48;simp
    rw[decide_eq_true h48,show(!(true && !(true && !decide (r=[]))))=!decide (r=[]) by cases decide (r=[])<;>rfl]
    refine reg [(2,10),(7,15),(11,19)] (an4 d1 d0 d2 d3) ?_
    exact⟨rfl,rfl,vr0,vr0,vr0,hE1⟩
   have d2:decide ((c.toNat:Int)=48)=false:=decide_eq_false fun h=>h48 (UInt8.toNat_inj.1 (by have:(48:UInt8).toNat=48:=rfl;omega))
   rw[decide_eq_false h48]
   refine reg [(2,10),(7,15),(11,19)] (an3 d1 d0 d2) ?_
   exact⟨rfl,rfl,vr0,vr0,vr0,hE1⟩
  have d1:decide (Lib.trimS (c::r) digs10=[])=false:=decide_eq_false fun h=>hd ((zd9 _).1 h)
  simp only[Bool.not_eq_true]at hd
  rw[hd]
  refine reg [(2,10),(7,15),(11,19)] (an2 d1 d0) ?_
  exact⟨rfl,rfl,vr0,vr0,vr0,hE1⟩
 rintro _ σ _ w1 ⟨rfl,rfl,h0,h1,h23,hE1⟩
 unfold decP
 cases hf:zik s with
 |false=>
  rw[hf]at h23
  refine go (an3 h0 h1 h23) ?_
  refine zaf (.inr rfl) Tryz.ntmps164 rfl (zac (vr0) (zac (vr0) zae)) ?_
  exact⟨rfl,hE1⟩
 |true=>
  rw[hf]at h23
  have hne:s≠ []:=fun h=>by subst h;cases hf
  have had:s.all digB=true:=by
   unfold zik at hf
   simp only[Bool.and_eq_true]at hf
   exact hf.2.1
  refine go (an3 h0 h1 h23) ?_
  refine rc (an2 h0 h1) (ziK (hW.ext hE1) s hne had hs) ?_
  rintro v w2 ⟨hv,hE2⟩
  by_cases hb:valD s≤18446744073709551615
  ·rw[if_pos hb]at hv
   subst hv
   refine re (an2 h0 h1) ?_
   refine go (an2 h0 h1) ?_
   by_cases hle:valD s≤most
   ·have d1:decide ((most:Int)<(valD s:Int))=false:=decide_eq_false (by omega)
    simp only[if_true,if_pos hle]
    refine rq ?_;intro gd K hgd hK
    have hg2:∀n σ b,zaE gd n σ (some (2,b))=zap (ev n σ (.tmp 31)) b:=(fun n σ b=>by rw[zag,show gd 2=some 31 from(by rw[hgd];rfl)];rfl)
    try simp only[go_sem]
    rw[show binV Tryz.prog .neq 65 .nilIface .nilIface=Option.none from rfl,zek]
    refine zg7 (u:= .nilIface) (b:=false) (by kernel_rfl) (.inl ⟨rfl,rfl⟩) (vr0) rfl ?_
    try simp (disch:=first|omega|assumption|rfl) only[go_sem,h1,d1,↓hg2]
    refine hK _ _ ?_;clear hK hgd;clear K;try clear gd
    refine go d1 ?_
    refine zaf (.inr rfl) Tryz.ntmps164 rfl (zac (vr0) (zac (vr0) zae)) ?_
    exact⟨rfl,hE1.trans hE2⟩
   ·have d1:decide ((most:Int)<(valD s:Int))=true:=decide_eq_true (by omega)
    simp only[if_true,if_neg hle]
    refine rq ?_;intro gd K hgd hK
    have hg2:∀n σ b,zaE gd n σ (some (2,b))=zap (ev n σ (.tmp 31)) b:=(fun n σ b=>by rw[zag,show gd 2=some 31 from(by rw[hgd];rfl)];rfl)
    try simp only[go_sem]
    rw[show binV Tryz.prog .neq 65 .nilIface .nilIface=Option.none from rfl,zek]
    refine zg7 (u:= .nilIface) (b:=false) (by kernel_rfl) (.inl ⟨rfl,rfl⟩) (vr0) rfl ?_
    try simp (disch:=first|omega|assumption|rfl) only[go_sem,h1,d1,↓hg2]
    refine hK _ _ ?_;clear hK hgd;clear K;try clear gd
    refine go d1 ?_
    refine zaf (.inr rfl) Tryz.ntmps164 rfl (zac (vr0) (zac (vr0) zae)) ?_
    exact⟨rfl,hE1.trans hE2⟩
  ·rw[if_neg hb]at hv
   obtain⟨n,t,p,rfl⟩:=hv
   refine re (an2 h0 h1) ?_
   refine go (an2 h0 h1) ?_
   simp only[if_true,if_neg (show¬valD s≤most by omega)]
   refine rq ?_;intro gd K hgd hK
   have hg2:∀n σ b,zaE gd n σ (some (2,b))=zap (ev n σ (.tmp 31)) b:=(fun n σ b=>by rw[zag,show gd 2=some 31 from(by rw[hgd];rfl)];rfl)
   try simp only[go_sem]
   rw[show binV Tryz.prog .neq 65 (.iface t p) .nilIface=Option.none from rfl,zek]
   refine zg7 (u:= .iface t p) (b:=true) (by kernel_rfl) (.inr ⟨⟨_,_,rfl⟩,rfl⟩) (vr0) rfl ?_
   try simp (disch:=first|omega|assumption|rfl) only[go_sem,h1,↓hg2]
   refine hK _ _ ?_;clear hK hgd;clear K;try clear gd
   refine go trivial ?_
   refine zaf (.inr rfl) Tryz.ntmps164 rfl (zac (vr0) (zac (vr0) zae)) ?_
   exact⟨rfl,hE1.trans hE2⟩
theorem zf2{w:World}{a:Addr}:∀(i m k:Nat) {l:List Value},zaQ w a i (m+k)=some l→zaQ w a i m=some (l.take m)
 |i,0,k,l,h=>by simp[zaQ]
 |i,m+1,k,l,h=>by
  rw[show m+1+k=(m+k)+1 from by omega]at h
  unfold zaQ at h ⊢
  split at h
  ·rename_i v l' h1 h2
   cases h
   rw[h1,zf2 (i+1) m k h2];rfl
  ·cases h
theorem zgP{w:World}{p:Option Addr}{m k:Nat}{l:List Value}(h:zar w p (m+k)=some l):zar w p m=some (l.take m):=by
 cases p with
 |none=>cases h
 |some a=>exact zf2 0 m k h
section
variable {P : Program} {w : World} {K : Value → World → Prop} {t : TypeId} {p v : Value} {A B : Obj}
theorem st_al1(h:∀z,Ext w z→z.heap.size=w.heap.size+1→z.heap[w.heap.size]? =some A→stK P t p v z K):stK P t p v (w.alloc A) K:=
 h _ (Ext.alloc w A) (zax w A) (World.alloc_heap_new w A)
theorem st_al2(h:∀z,Ext w z→z.heap.size=w.heap.size+2→z.heap[w.heap.size]? =some A→z.heap[w.heap.size+1]? =some B→stK P t p v z K):stK P t p v ((w.alloc A).alloc B) K:=by
 obtain⟨h1,h2,h3,h4⟩:=zcl w A B
 exact h _ h1 h2 h3 h4
end
section
variable {P : Program} {d : Option Tmp} {ty : TypeId} {ps : String} {af : Array Edge} {g : Option (Nat × Bool)} {ρ : Operand → Value} {w : World} {K : Value → World → Prop}
end
def zdk(a b d:Int):Bool:=decide (0≤a) && (decide (a≤b) && (decide (b≤2147483647) && decide (1≤d)))
theorem zjB(w:World)(a b d:Int):Fn Tryz.prog 179 #[.agg #[vi a,vi b,vi d]] w (fun v w'=>v= .bool (zdk a b d)∧Ext w w'):=by
 refine enter Tryz.func179 Tryz.ntmps179 rfl rfl ?_
 refine go trivial ?_
 refine zan ?_
 intro w1 hE1 hs1 hA
 have c0:zad w1 (some ⟨w.heap.size,0,Option.none⟩)=some (vi a):=zaa hA rfl
 have c1:zad w1 (some ⟨w.heap.size,1,Option.none⟩)=some (vi b):=zaa hA rfl
 have c2:zad w1 (some ⟨w.heap.size,2,Option.none⟩)=some (vi d):=zaa hA rfl
 unfold zdk
 by_cases h1:0≤a
 ·by_cases h2:a≤b
  ·by_cases h3:b≤2147483647
   ·rw[decide_eq_true h1,decide_eq_true h2,decide_eq_true h3]
    refine rgg [(3,6),(10,13),(15,18)] (an8 c0 c1 c2 (decide_eq_true h1) (decide_eq_true h2) (decide_eq_true h3) (Nat.zero_add 1) (Nat.zero_add 2)) ?_
    refine go trivial ?_
    refine rt0 Tryz.ntmps179 ?_
    exact⟨rfl,hE1⟩
   ·rw[decide_eq_true h1,decide_eq_true h2,decide_eq_false h3]
    refine rgg [(3,6),(10,13),(15,18)] (an8 c0 c1 c2 (decide_eq_true h1) (decide_eq_true h2) (decide_eq_false h3) (Nat.zero_add 1) (Nat.zero_add 2)) ?_
    refine go trivial ?_
    refine rt0 Tryz.ntmps179 ?_
    exact⟨rfl,hE1⟩
  ·rw[decide_eq_true h1,decide_eq_false h2]
   refine rgg [(3,6),(10,13),(15,18)] (an7 c0 c1 c2 (decide_eq_true h1) (decide_eq_false h2) (Nat.zero_add 1) (Nat.zero_add 2)) ?_
   refine go trivial ?_
   refine rt0 Tryz.ntmps179 ?_
   exact⟨rfl,hE1⟩
 ·rw[decide_eq_false h1]
  refine rgg [(3,6),(10,13),(15,18)] (an6 c0 c1 c2 (decide_eq_false h1) (Nat.zero_add 1) (Nat.zero_add 2)) ?_
  refine go trivial ?_
  refine rt0 Tryz.ntmps179 ?_
  exact⟨rfl,hE1⟩
section
variable {P : Program} {d : Option Tmp} {ty : TypeId} {ps : String} {af : Array Edge} {g : Option (Nat × Bool)} {ρ : Operand → Value} {w : World} {K : Value → World → Prop}
theorem zl6{x y:Operand}{ts:Array TypeId}{a b:Int}{k:IntKind}(hx:ρ x= .int k a)(hy:ρ y= .int k b)(h:K (.int k (max a b)) w):
  opW P ⟨d,.call ⟨.builtin .max,#[x,y],ts⟩,ty,ps,af,g⟩ ρ w K:=by
 have hr:(Builtin.max_ ts ty #[.int k a,.int k b]).run P w= .ok (.int k (max a b)) w:=by
  have h:=run_max_int2 (P:=P) w ts ty k k a b
  rw[h]
  congr 2
  rw[Int.max_def]
  split<;>split<;>omega
 simp only[opW,execOp,Sem.run_bind,resolve]
 simp only[Sem.run_pure,Result.andThen_ok,invoke,builtin]
 exact zaC (s:=Builtin.max_ ts ty (Array.map ρ #[x,y])) (by simpa [hx,hy] using hr) h
end
def wst(X:List Lab):Int:=X.foldl (fun m x=>max m (decP zaH x).2) 0
theorem wst_app(X:List Lab)(x:Lab):wst (X++ [x])=max (wst X) (decP zaH x).2:=by
 unfold wst;rw[List.foldl_append];rfl
theorem zdI(m:Nat)(s:Lab):(decP m s).2=0∨(decP m s).2=2∨(decP m s).2=7:=by
 unfold decP
 split
 ·split<;>simp
 ·simp
theorem bdR(x y z:Int):bdV Tryz.prog 213 [(0,vi x),(1,vi y),(2,vi z)]=some (.agg #[vi x,vi y,vi z]):=by kernel_rfl
theorem ones3(x y z:Int):∀v∈ [vi x,vi y,vi z],one v=true:=fun v h=>by
 simp at h
 rcases h with rfl|rfl|rfl<;>rfl
theorem zdo(m:Nat)(s:Lab):(decP m s).1≤m:=by
 unfold decP
 split
 ·split<;>simp_all
 ·simp
theorem Parse_ok{w:World}(hW:WX w)(s:Lab)(hs:s.length≤1000000):
  Fn Tryz.prog 157 #[vs s] w (fun v w'=>v= .tuple #[.agg #[vi (zbS s).1.1,vi (zbS s).1.2.1,vi (zbS s).1.2.2],vi (zbS s).2]∧Ext w w'):=by
 refine enter Tryz.func157 Tryz.ntmps157 rfl rfl ?_
 refine go trivial ?_
 refine zan ?_
 intro w1 hE1 hs1 hA
 obtain⟨l1,l2⟩:=zhu 47 s
 refine rc trivial (znA (hW.ext hE1) s 47 (by omega)) ?_
 rintro _ w2 ⟨rfl,hE2⟩
 obtain⟨a,st,so,hx⟩:∃a st b,cutB 47 s=(a,st,b):=⟨(cutB 47 s).1,(cutB 47 s).2.1,(cutB 47 s).2.2,rfl⟩
 rw[hx]at l1 l2
 simp only at l1 l2
 simp only[hx]
 obtain⟨m1,m2⟩:=zhu 45 a
 refine rgo trivial ?_
 refine rc trivial (znA ((hW.ext hE1).ext hE2) a 45 (by omega)) ?_
 rintro _ w3 ⟨rfl,hE3⟩
 obtain⟨f,t,ok,hy⟩:∃f t b,cutB 45 a=(f,t,b):=⟨(cutB 45 a).1,(cutB 45 a).2.1,(cutB 45 a).2.2,rfl⟩
 rw[hy]at m1 m2
 simp only at m1 m2
 simp only[hy]
 refine rgo trivial ?_
 have hE13:Ext w w3:=(hE1.trans hE2).trans hE3
 have hB0:w3.heap[w.heap.size]? =some (.cells #[vi 0,vi 0,vi 0] 213 (0,0)):=hE3.at (hE2.at hA)
 have hlt0:=(Array.getElem?_eq_some_iff.1 hB0).1
 obtain⟨u,hu⟩:∃u,(if so=true then st else [49])=u:=⟨_,rfl⟩
 have hul:u.length≤1000000:=by
  rw[←hu]
  split
  ·omega
  ·simp
 refine zas (Q:=fun e σ ds v=>e= .normal∧ds=[]∧σ 2= .pointer (some ⟨w.heap.size,0,Option.none⟩)∧σ 5=vs u∧σ 7=vs f∧σ 8=vs t∧σ 9= .bool ok∧w3=v) ?_ ?_
 ·cases so with
  |true=>
   refine go trivial ?_
   rw[←hu]
   exact⟨rfl,rfl,vr0,vr0,vr0,vr0,vr0,rfl⟩
  |false=>
   refine go trivial ?_
   rw[←hu]
   exact⟨rfl,rfl,vr0,vr0,vr0,vr0,vr0,rfl⟩
 rintro _ σ _ _ ⟨rfl,rfl,s2,s5,s7,s8,s9,rfl⟩
 have hR:zbS s=(if ok=false then((0,0,0),2)
   else if (decP zaH f).2=2∨(decP zaH t).2=2∨(decP zaH u).2=2 then((0,0,0),2)
   else if (decP zaH f).2=7∨(decP zaH t).2=7∨(decP zaH u).2=7 then((0,0,0),7)
   else if (decP zaH f).1≤(decP zaH t).1∧1≤(decP zaH u).1 then(((decP zaH f).1,(decP zaH t).1,(decP zaH u).1),0) else((0,0,0),1)):=by
  unfold zbS
  simp only[hx,hy]
  rw[hu]
 have zero:∀(σ:Sto) (v:World) (z:Int) (e:Int),zbS s=((0,0,0),e)→Ext w v→v.heap[w.heap.size]? =some (.cells #[vi 0,vi 0,vi 0] 213 (0,0))→σ 2= .pointer (some ⟨w.heap.size,0,Option.none⟩)→σ 3=vi e→ 
   retQ Tryz.prog Tryz.f157 (fun v w'=>v= .tuple #[.agg #[vi (zbS s).1.1,vi (zbS s).1.2.1,vi (zbS s).1.2.2],vi (zbS s).2]∧Ext w w') .ret σ [] v:=fun σ v z e hr hE hB h2 h3=>by
  refine zaf (.inr rfl) Tryz.ntmps157 rfl (zaW (k:=3) (cs:=[vi 0,vi 0,vi 0]) ((vq1 h2)) rfl rfl (zal (l:=[vi 0,vi 0,vi 0]) hB rfl) (zac (v:=vi e) ((vq1 h3)) zae)) ?_
  rw[hr]
  exact⟨rfl,hE⟩
 cases ok with
 |false=>
  refine go (an2 s9 s2) ?_
  refine rq ?_;intro gd K hgd hK
  try simp (disch:=first|omega|assumption|rfl) only[go_sem,s2]
  refine⟨by kernel_rfl,?_⟩
  rw[show bdV Tryz.prog 213 []=some (.agg #[vi 0,vi 0,vi 0]) from rfl]
  try simp (disch:=first|omega|assumption|rfl) only[go_sem,s2]
  refine zaR (P:=Tryz.prog) (l:=[vi 0,vi 0,vi 0]) hB0 rfl (fun q hq=>by simp at hq;subst hq;rfl) rfl rfl ?_
  intro w4 hs4 hB4 hk4
  try simp only[go_sem]
  refine hK _ _ ?_;clear hK hgd;clear K;try clear gd
  repeat (with_reducible first|refine zdP ?_|refine zgt ?_|refine zdQ ?_|refine zaz ?_|refine zbr ?_|refine zbO ?_|refine zaY ?_|refine zbt ?_|refine zbc ?_|refine za1 rfl ?_)
  exact zero _ w4 0 2 (by rw[hR];rfl) (Keep.to_ext hE13 rfl (fun b (hb:b=w.heap.size)=>by omega) hk4) hB4 ((vq1 s2)) (vr0)
 |true=>
 refine go (an5 s9 s2 s5 s7 s8) ?_
 refine zan ?_
 intro w4 hE4 hs4 hB1
 refine rq ?_;intro gd K hgd hK
 try simp (disch:=first|omega|assumption|rfl) only[go_sem,s5,s7,s8]
 refine zbQ (z:=vs []) (l:=[vs f,vs t,vs u]) rfl rfl rfl rfl rfl rfl (fun v hv=>by simp at hv;rcases hv with rfl|rfl|rfl<;>rfl) (by simp) ?_
 intro w5 hE5 hs5 hown
 try simp only[go_sem]
 refine hK _ _ ?_;clear hK hgd;clear K;try clear gd
 obtain⟨B,hB⟩:∃B,w3.heap.size=B:=⟨_,rfl⟩
 rw[hs4,hB]
 rw[hs4]at hs5 hown
 rw[hB]at hs5 hown hB1
 rw[hB]at hlt0
 have hE15:Ext w w5:=(hE13.trans hE4).trans hE5
 have hB05:=hE5.at (hE4.at hB0)
 have hB15:=hE5.at hB1
 obtain⟨X,hX⟩:∃X,[f,t,u]=X:=⟨_,rfl⟩
 have hXl:X.length=3:=by rw[←hX];rfl
 have hXs:∀x∈X,x.length≤1000000:=by
  rw[←hX];intro x hx
  simp at hx
  rcases hx with rfl|rfl|rfl<;>omega
 have hrow:Row w5 (.slice (some ⟨B+1,0,Option.none⟩) 3 3) (X.map vs):=by rw[←hX];exact hown.row
 clear hown
 refine go trivial ?_
 refine zbq 3 (fun i σ v=>σ 2= .pointer (some ⟨w.heap.size,0,Option.none⟩)∧σ 10= .pointer (some ⟨B,0,Option.none⟩)∧σ 37= .slice (some ⟨B+1,0,Option.none⟩) 3 3∧σ 38=vi 3∧σ 39=vi i∧σ 11=vi (wst (X.take i))∧
  (∃cs:List Value,v.heap[B]? =some (.cells cs.toArray 239 (0,0))∧cs.length=3∧∀j,j<i→∀(h:j<X.length),cs[j]? =some (vi (decP zaH X[j]).1))∧(∀x∈X.take i,(decP zaH x).2≠2)∧KeepB (B+2) (fun b=>b=B) w5 v) ?_ ?_ ?_
 ·exact⟨(vq1 s2),vr0,vr0,vr0,vr0,vr0,⟨[vi 0,vi 0,vi 0],hB15,rfl,fun j h=>absurd h (by omega)⟩,fun x h=>absurd h (by simp),KeepB.refl _ _ _⟩
 ·rintro i σ v hi p ⟨r2,r10,r37,r38,r39,r11,⟨cs,hcs,hcl,hcv⟩,hno,hk⟩
  have hiX:i<X.length:=by omega
  have hEv:Ext w v:=⟨hk.os.trans hE15.os,hk.tape.trans hE15.tape,hk.output.trans hE15.output,Nat.le_trans hE15.size hk.size,fun b hb hn=>(hk.block b (by omega) (by omega)).trans (hE15.block b hb hn),Nat.le_trans hE15.drawn hk.drawn⟩
  have d1:decide ((i:Int)<3)=true:=decide_eq_true (by omega)
  have hcell:zad v (some ⟨B+1,i,Option.none⟩)=some (vs X[i]):=by
   obtain⟨a,c,e,hc,hg⟩:=hrow
   injection e with e1 e2 e3
   have h2:=hg i (by simpa using hiX)
   rw[←e1,List.getElem_map,zaZ,Nat.zero_add]at h2
   exact zbJ hk (by show B+1<B+2;omega) (by show¬B+1=B;omega) h2
  have hi0:(0:Int)≤(i:Int):=by omega
  have hi3:(i:Int)<((3:Nat):Int):=by omega
  refine go (an9 r2 r10 r37 r38 r39 r11 d1 hcell (an2 hi0 hi3)) ?_
  have hxs:=hXs _ (List.getElem_mem hiX)
  refine rc (an5 r2 r10 r37 r38 (an2 r39 r11)) (zca (hW.ext hEv) X[i] zaH (by decide) (by omega)) ?_
  rintro _ v1 ⟨rfl,hE1v⟩
  refine rgo (an2 r10 r11) ?_
  by_cases he:(decP zaH X[i]).2=2
  ·refine wt (decide_eq_true he) ?_
   repeat refine c_r ?_
   refine rq ?_;intro gd K hgd hK
   try simp only[go_sem]
   refine⟨by kernel_rfl,?_⟩
   rw[show bdV Tryz.prog 213 []=some (.agg #[vi 0,vi 0,vi 0]) from rfl]
   try simp (disch:=first|omega|assumption|rfl) only[go_sem,r2]
   refine zaR (P:=Tryz.prog) (l:=[vi 0,vi 0,vi 0]) (hE1v.at ((hk.block _ (by omega) (by omega)).trans hB05)) rfl (fun q hq=>by simp at hq;subst hq;rfl) rfl rfl ?_
   intro w6 hs6 hB6 hk6
   try simp only[go_sem]
   refine hK _ _ ?_;clear hK hgd;clear K;try clear gd
   repeat (with_reducible first|refine zdP ?_|refine zgt ?_|refine zdQ ?_|refine zaz ?_|refine zbr ?_|refine zbO ?_|refine zaY ?_|refine zbt ?_|refine zbc ?_|refine za1 rfl ?_)
   have hmem:X[i]=f∨X[i]=t∨X[i]=u:=by
    have h2:∀x∈X,x=f∨x=t∨x=u:=by rw[←hX];simp
    exact h2 _ (List.getElem_mem hiX)
   refine zero _ w6 0 2 ?_ (Keep.to_ext (hEv.trans hE1v) rfl (fun b (hb:b=w.heap.size)=>by omega) hk6) hB6 ((vq1 r2)) (by rw[←he];first| (simp only[go_sem];done)| (simp only[go_sem];rfl))
   rw[hR,if_neg (by simp),if_pos]
   rcases hmem with h|h|h<;>rw[h]at he<;>simp[he]
  have hne:decide ((decP zaH X[i]).2=2)=false:=decide_eq_false he
  refine wf hne ?_
  have hle:=zdo zaH X[i]
  have hm:zaH=2147483647:=rfl
  have hwr:IntKind.i64.wrap ((decP zaH X[i]).1:Int)=((decP zaH X[i]).1:Int):=zd6 (by omega) (by rw[hm]at hle ⊢;omega)
  repeat refine c_r ?_
  refine rq ?_;intro gd K hgd hK
  try simp (disch:=first|omega|assumption|rfl) only[go_sem,r10,r39,hi0,hi3,hwr]
  refine zaq (P:=Tryz.prog) (b:=B) (j:=i) rfl rfl rfl (hE1v.at hcs) (by simp[hcl];omega) (.inl (Nat.zero_le _)) ?_
  intro v2 hs2 hb2 hk2
  try simp only[go_sem]
  refine hK _ _ ?_;clear hK hgd;clear K;try clear gd
  repeat refine c_r ?_
  refine rq ?_;intro gd K hgd hK
  try simp (disch:=first|omega|assumption|rfl) only[go_sem,r11]
  refine zl6 (k:= .i64) (a:=wst (X.take i)) (b:=(decP zaH X[i]).2) (vq0) (vq0) ?_
  try simp only[go_sem]
  refine hK _ _ ?_;clear hK hgd;clear K;try clear gd
  have hi1:(i:Int)+1=((i+1:Nat):Int):=by push_cast;rfl
  refine go (an3 r39 hi1 hi0) ?_
  refine⟨rfl,(vq1 r2),(vq1 r10),(vq1 r37),(vq1 r38),vq0,?_,⟨cs.set i (vi (decP zaH X[i]).1),?_,by simp[hcl],?_⟩,?_,?_⟩
  ·rw[zak hiX,wst_app];simp only[go_sem]
  ·rw[hb2];simp
  ·intro j hj hjX
   rw[List.getElem?_set]
   by_cases e:i=j
   ·subst e;simp[hcl,hi]
   ·rw[if_neg e];exact hcv j (by omega) hjX
  ·rw[zak hiX]
   intro x hx
   rcases List.mem_append.1 hx with hx|hx
   ·exact hno x hx
   ·rw[List.mem_singleton.1 hx];exact he
  ·have hsz:=hk.size
   have hsz1:=hE1v.size
   exact hk.trans ((hE1v.toB (by omega) (fun _ _ h=>h.elim)).trans (hk2.toB (by omega) (fun _ _ h=>h)))
 ·rintro σ v p ⟨r2,r10,r37,r38,r39,r11,⟨cs,hcs,hcl,hcv⟩,hno,hk⟩
  have d1:decide ((3:Int)<3)=false:=rfl
  have hEv:Ext w v:=⟨hk.os.trans hE15.os,hk.tape.trans hE15.tape,hk.output.trans hE15.output,Nat.le_trans hE15.size hk.size,fun b hb hn=>(hk.block b (by omega) (by omega)).trans (hE15.block b hb hn),Nat.le_trans hE15.drawn hk.drawn⟩
  have hB0v:=(hk.block w.heap.size (by omega) (by omega)).trans hB05
  have c0:zad v (some ⟨B,0,Option.none⟩)=some (vi (decP zaH f).1):=zaa hcs (by have:=hcv 0 (by omega) (by omega);simpa [←hX] using this)
  have c1:zad v (some ⟨B,1,Option.none⟩)=some (vi (decP zaH t).1):=zaa hcs (by have:=hcv 1 (by omega) (by omega);simpa [←hX] using this)
  have c2:zad v (some ⟨B,2,Option.none⟩)=some (vi (decP zaH u).1):=zaa hcs (by have:=hcv 2 (by omega) (by omega);simpa [←hX] using this)
  have t1:(1:Int).toNat=1:=rfl
  have t2:(2:Int).toNat=2:=rfl
  have z0:(0:Int)≤0:=Int.le_refl _
  have hw3:wst (X.take 3)=max (max (max 0 (decP zaH f).2) (decP zaH t).2) (decP zaH u).2:=by rw[←hX];rfl
  have hn2:(decP zaH f).2≠2∧(decP zaH t).2≠2∧(decP zaH u).2≠2:=by
   rw[←hX]at hno
   simpa using hno
  refine go (an7 r2 r10 r37 r38 r39 r11 d1) ?_
  refine rq ?_;intro gd K hgd hK
  try simp (disch:=first|omega|assumption|rfl) only[go_sem,r10,c0,c1,c2,t1,t2,z0,Int.toNat_zero,Nat.zero_add]
  refine⟨by kernel_rfl,?_⟩
  rw[bdR]
  try simp (disch:=first|omega|assumption|rfl) only[go_sem,r2]
  refine zbm (P:=Tryz.prog) (l:=[vi (decP zaH f).1,vi (decP zaH t).1,vi (decP zaH u).1]) rfl (ones3 _ _ _) rfl rfl ?_
  intro w6 hE6 hs6 hB6
  try simp only[go_sem]
  refine hK _ _ ?_;clear hK hgd;clear K;try clear gd
  have hcs6:=zal (n:=3) hB6 rfl
  have hB06:=hE6.at hB0v
  have fin:∀(σ:Sto) (z:Int),zbS s=((0,0,0),z)→σ 2= .pointer (some ⟨w.heap.size,0,Option.none⟩)→∀x,Ext w6 x→∀x',x'.heap[w.heap.size]? =some (.cells [vi 0,vi 0,vi 0].toArray 213 (0,0))→Keep (fun b=>b=w.heap.size) x x'→σ 3=vi z→
    retQ Tryz.prog Tryz.f157 (fun v w'=>v= .tuple #[.agg #[vi (zbS s).1.1,vi (zbS s).1.2.1,vi (zbS s).1.2.2],vi (zbS s).2]∧Ext w w') .ret σ [] x':=fun σ z hr h2 x hx x' hB hk h3=>
   zero σ x' 0 z hr (Keep.to_ext ((hEv.trans hE6).trans hx) rfl (fun b (hb:b=w.heap.size)=>by omega) hk) hB h2 h3
  by_cases h7:(decP zaH f).2=7∨(decP zaH t).2=7∨(decP zaH u).2=7
  ·have hw7:wst (X.take 3)=7:=by
    rw[hw3]
    have e1:=zdI zaH f;have e2:=zdI zaH t;have e3:=zdI zaH u
    omega
   rw[hw7]at r11
   have d7:decide ((7:Int)=0)=false:=rfl
   refine go (an2 r11 d7) ?_
   refine rq ?_;intro gd K hgd hK
   try simp (disch:=first|omega|assumption|rfl) only[go_sem,r11]
   refine⟨by kernel_rfl,?_⟩
   rw[show bdV Tryz.prog 213 []=some (.agg #[vi 0,vi 0,vi 0]) from rfl]
   try simp (disch:=first|omega|assumption|rfl) only[go_sem,r2,r11]
   refine zaR (P:=Tryz.prog) (l:=[vi 0,vi 0,vi 0]) hB06 rfl (ones3 _ _ _) rfl rfl ?_
   intro w7 hs7 hB7 hk7
   try simp only[go_sem]
   refine hK _ _ ?_;clear hK hgd;clear K;try clear gd
   repeat (with_reducible first|refine zdP ?_|refine zgt ?_|refine zdQ ?_|refine zaz ?_|refine zbr ?_|refine zbO ?_|refine zaY ?_|refine zbt ?_|refine zbc ?_|refine za1 rfl ?_)
   refine fin _ 7 ?_ ((vq1 r2)) w6 (Keep.refl _ _) w7 hB7 hk7 ((vq1 r11))
   rw[hR,if_neg (by simp),if_neg (by simpa using hn2),if_pos h7]
  have hw0:wst (X.take 3)=0:=by
   rw[hw3]
   have e1:=zdI zaH f;have e2:=zdI zaH t;have e3:=zdI zaH u
   omega
  rw[hw0]at r11
  have d0:decide ((0:Int)=0)=true:=rfl
  refine go (an2 r11 d0) ?_
  refine rc hcs6 (zjB w6 _ _ _) ?_
  rintro _ w7 ⟨rfl,hE7⟩
  have l1':=zdo zaH f;have l2':=zdo zaH t
  have hm:zaH=2147483647:=rfl
  rw[hm]at l1' l2'
  by_cases hab:(decP zaH f).1≤(decP zaH t).1∧1≤(decP zaH u).1
  ·have hb:zdk (decP zaH f).1 (decP zaH t).1 (decP zaH u).1=true:=by
    unfold zdk
    rw[decide_eq_true (by omega),decide_eq_true (by omega),decide_eq_true (by rw[hm]at*;omega),decide_eq_true (by omega)]
    rfl
   refine rgo hb ?_
   repeat refine c_r ?_
   refine rq ?_;intro gd K hgd hK
   try simp (disch:=first|omega|assumption|rfl) only[go_sem,zah hE7 hcs6,r2]
   refine zaR (P:=Tryz.prog) (l:=[vi (decP zaH f).1,vi (decP zaH t).1,vi (decP zaH u).1]) (hE7.at hB06) rfl (ones3 _ _ _) rfl rfl ?_
   intro w8 hs8 hB8 hk8
   try simp only[go_sem]
   refine hK _ _ ?_;clear hK hgd;clear K;try clear gd
   repeat (with_reducible first|refine zdP ?_|refine zgt ?_|refine zdQ ?_|refine zaz ?_|refine zbr ?_|refine zbO ?_|refine zaY ?_|refine zbt ?_|refine zbc ?_|refine za1 rfl ?_)
   refine zaf (.inr rfl) Tryz.ntmps157 rfl (zaW (k:=3) (cs:=[vi (decP zaH f).1,vi (decP zaH t).1,vi (decP zaH u).1]) ((vq1 r2)) rfl rfl (zal (l:=[vi (decP zaH f).1,vi (decP zaH t).1,vi (decP zaH u).1]) hB8 rfl) (zac (v:=vi 0) (vr0) zae)) ?_
   rw[hR,if_neg (by simp),if_neg (by simpa using hn2),if_neg h7,if_pos hab]
   exact⟨rfl,Keep.to_ext ((hEv.trans hE6).trans hE7) rfl (fun b (hb:b=w.heap.size)=>by omega) hk8⟩
  ·have hb:zdk (decP zaH f).1 (decP zaH t).1 (decP zaH u).1=false:=by
    unfold zdk
    by_cases h1:(decP zaH f).1≤(decP zaH t).1
    ·have h2:¬1≤(decP zaH u).1:=fun h=>hab ⟨h1,h⟩
     rw[decide_eq_false (show¬(1:Int)≤((decP zaH u).1:Int) by omega)]
     simp
    ·rw[decide_eq_false (show¬((decP zaH f).1:Int)≤((decP zaH t).1:Int) by omega)]
     simp
   refine rgo hb ?_
   repeat refine c_r ?_
   refine rq ?_;intro gd K hgd hK
   try simp only[go_sem]
   refine⟨by kernel_rfl,?_⟩
   rw[show bdV Tryz.prog 213 []=some (.agg #[vi 0,vi 0,vi 0]) from rfl]
   try simp (disch:=first|omega|assumption|rfl) only[go_sem,r2]
   refine zaR (P:=Tryz.prog) (l:=[vi 0,vi 0,vi 0]) (hE7.at hB06) rfl (ones3 _ _ _) rfl rfl ?_
   intro w8 hs8 hB8 hk8
   try simp only[go_sem]
   refine hK _ _ ?_;clear hK hgd;clear K;try clear gd
   repeat (with_reducible first|refine zdP ?_|refine zgt ?_|refine zdQ ?_|refine zaz ?_|refine zbr ?_|refine zbO ?_|refine zaY ?_|refine zbt ?_|refine zbc ?_|refine za1 rfl ?_)
   refine fin _ 1 ?_ ((vq1 r2)) w7 hE7 w8 hB8 hk8 (vr0)
   rw[hR,if_neg (by simp),if_neg (by simpa using hn2),if_neg h7,if_neg hab]
end Go.Proofs.YtkpdfhbpdkifoaaGreatDoor
