/-
  Texts of a proof, joined: SS2rec, SS3rec, SS4rec, SO2, SS5rec, M4rec, SS6rec, D4, D6, D7, Y0, K18, E0.
  Conditions: none.
-/
import Derived.Test.YtkpdfhbpdkifoaaGreatDoorQPB02
import Derived.Test.YtkpdfhbpdkifoaaGreatDoorQPB01
set_option linter.unusedVariables false
set_option linter.unusedSimpArgs false
set_option linter.defProp false
set_option linter.unnecessarySimpa false
set_option maxHeartbeats 8000000
namespace Go.Proofs.YtkpdfhbpdkifoaaGreatDoor.S_rec
open Go Go.Proofs.YtkpdfhbpdkifoaaGreatDoor
set_option maxRecDepth 10000
section
variable {α : Type} {enc : α → List Value}
structure Cmp(w0:World)(enc:α→List Value)(U:α→Prop)(cf:α→α→Int)(g:FuncId)(cb:List Value):Prop where
 cal:zaj Tryz.prog g=true
 call:∀(A:World) (x y:α),Ext w0 A→U x→U y→Fn Tryz.prog g (.agg (enc x).toArray:: .agg (enc y).toArray::cb).toArray A (fun v B=>v=vi (cf x y)∧Ext A B)
def cmpV(g:FuncId)(cb:List Value):Value:= .func (.func g) #[] cb.toArray
theorem zda{w0 w:World}{b cap:Nat}{U:α→Prop}{cf:α→α→Int}{lt older:α→α→Prop}{g:FuncId}{cb:List Value}(hc:Cmp w0 enc U cf g cb)(ho:ziL cf lt older)
  {D A X B:List α} {p q N:Nat} (hDe:D=A++X++B) (hN:D.length=N) (hp:A.length=p) (hq:A.length+X.length=q) (hU:∀x∈X,U x) (hX:X.Pairwise older) (hD:Lies enc w b cap D) (hlen:N≤1000000000000)
  (hE:Ext w0 w) (hb:w0.heap.size≤b):
  Fn Tryz.prog 139 #[zdp b N cap,vi p,vi q,cmpV g cb] w (fun _ w'=>(∃Z,Z.Perm X∧Z.Pairwise lt∧Lies enc w' b cap (A++Z++B))∧Keep (fun i=>i=b) w w'):=by
 have hDl:=congrArg List.length hDe
 simp only[List.length_append]at hDl
 unfold zdp cmpV
 refine enter Tryz.func139 Tryz.ntmps139 rfl rfl ?_
 repeat (first|refine c_r ?_|refine rg0 ?_)
 refine zaD (fun m σ ds v=>ds=[]∧∃(k:Nat) (S:List α),1≤k∧k+m=X.length+1∧S.Perm (X.take k)∧S.Pairwise lt∧σ 8=vi (p+k:Nat)∧σ 0= .slice (some ⟨b,0,Option.none⟩) N cap∧σ 1=vi p∧σ 2=vi q∧σ 3= .func (.func g) #[] cb.toArray∧
  Lies enc v b cap (A++S++X.drop k++B)∧Keep (fun i=>i=b) w v) X.length ?_ ?_
 ·refine⟨rfl,1,X.take 1,by omega,by omega,List.Perm.refl _,?_,?_,?_,?_,?_,?_,?_,Keep.refl _ _⟩
  ·match X with
   | []=>exact List.Pairwise.nil
   |x::_=>exact List.pairwise_singleton _ _
  ·simp only[go_sem];push_cast;rfl
  ·simp only[go_sem]
  ·simp only[go_sem]
  ·simp only[go_sem]
  ·simp only[go_sem]
  ·rw[List.append_assoc A,List.take_append_drop,←hDe];exact hD
 ·rintro m σ ds v ⟨rfl,k,S,hk1,hkm,hSp,hSs,h8,h0,h1,h2,h3,hL,hK⟩
  have hSl:=hSp.length_eq
  repeat refine c_r ?_
  refine rg2 h8 h2 ?_
  repeat refine c_r ?_
  refine wc0 ?_ ?_
  ·intro hlt
   simp only[decide_eq_true_eq]at hlt
   have hkX:k<X.length:=by omega
   have hSk:S.length=k:=by rw[hSl];simp;omega
   obtain⟨u,hu⟩:∃u,X[k]=u:=⟨_,rfl⟩
   have hUu:U u:=hU u (by rw[←hu];exact List.getElem_mem _)
   have hUS:∀y∈S,U y:=fun y hy=>hU y (List.mem_of_mem_take (hSp.mem_iff.1 hy))
   have hOS:∀y∈S,older y u:=fun y hy=>by
    have h1:=hX
    rw[zbs hkX,List.pairwise_append]at h1
    exact h1.2.2 y (hSp.mem_iff.1 hy) u (by rw[hu];exact List.mem_cons_self ..)
   have hdk:X.drop k=u::X.drop (k+1):=by rw[List.drop_eq_getElem_cons hkX,hu]
   rw[hdk]at hL
   repeat refine c_r ?_
   refine rg1 h8 ?_
   repeat refine c_r ?_
   refine zaD (fun m σ ds v=>ds=[]∧∃(S1 S2:List α),S1.length=m∧S1++S2=S∧(∀y∈S2,lt u y)∧σ 9=vi (p+S1.length:Nat)∧σ 8=vi (p+k:Nat)∧σ 0= .slice (some ⟨b,0,Option.none⟩) N cap∧σ 1=vi p∧σ 2=vi q∧σ 3= .func (.func g) #[] cb.toArray∧
    Lies enc v b cap (A++S1++u::S2++X.drop (k+1)++B)∧Keep (fun i=>i=b) w v) S.length ?_ ?_
   ·refine⟨rfl,S,[],rfl,by simp,fun y hy=>(by cases hy),?_,?_,?_,?_,?_,?_,by simpa using hL,hK⟩
    ·simp only[go_sem,hSk]
    ·simp only[go_sem,h8]
    ·simp only[go_sem,h0]
    ·simp only[go_sem,h1]
    ·simp only[go_sem,h2]
    ·simp only[go_sem,h3]
   clear h8 h0 h1 h2 h3 hL hK
   rintro m2 σ ds v ⟨rfl,S1,S2,hm2,hS12,hS2,h9,h8,h0,h1,h2,h3,hL,hK⟩
   have hE0:Ext w0 v:=Keep.to_ext hE rfl (fun i hi=>by omega) hK
   have hl12:S1.length+S2.length=k:=by rw[←hSk,←hS12,List.length_append]
   -- the round's end:where u stays
   have hstay:∀(v':World),(∀y∈S1,lt y u)→Ext v v'→(S1++u::S2).Perm (X.take (k+1))∧(S1++u::S2).Pairwise lt∧Lies enc v' b cap (A++(S1++u::S2)++X.drop (k+1)++B):=fun v' hy0 hEv=>by
    refine⟨?_,?_,?_⟩
    ·rw[zak hkX,hu]
     refine List.Perm.trans ?_ (List.Perm.append_right [u] hSp)
     rw[←hS12,List.append_assoc]
     exact List.Perm.append_left S1 (by
      have:=(List.perm_append_comm (l₁:=[u]) (l₂:=S2));simpa using this)
    ·rw[←hS12,List.pairwise_append]at hSs
     rw[List.pairwise_append]
     refine⟨hSs.1,List.pairwise_cons.2 ⟨hS2,hSs.2.1⟩,fun y hy z hz=>?_⟩
     rcases List.mem_cons.1 hz with rfl|hz
     ·exact hy0 y hy
     ·exact hSs.2.2 y hy z hz
    ·have:A++(S1++u::S2)++X.drop (k+1)++B=A++S1++u::S2++X.drop (k+1)++B:=by simp only[List.append_assoc,List.cons_append]
     rw[this];exact SD.ext hL hEv
   rcases List.eq_nil_or_concat S1 with rfl| ⟨S1',y,hS1⟩
   ·simp only[List.length_nil,Nat.add_zero]at h9
    have hd:=decide_eq_false (Int.lt_irrefl (p:Int))
    repeat refine c_r ?_
    refine zaF (fun _=>false) [(0,true),(1,true),(2,true),(3,true),(4,true),(5,true),(6,true),(7,true),(8,true),(9,true),(10,true),(11,true),(12,true),(13,true),(14,false),(15,true),(16,true)] NoS mixed (by kernel_rfl) ?_;intro gd K x hgd hx hxe hK;clear hxe
    have hg3:∀n σ b,zaE gd n σ (some (3,b))=zap (ev n σ (.tmp 21)) b:=(fun n σ b=>by rw[zag,show gd 3=some 21 from(by rw[hgd];rfl)];rfl)
    simp (disch:=first|omega|assumption|rfl) only[go_sem,h9,h1,hd,↓hg3]
    refine hK _ _ ?_;clear hK hgd;clear K;try clear gd
    obtain⟨r1,r2,r3⟩:=hstay x (fun y hy=>(by cases hy)) hx
    repeat refine c_r ?_
    refine wc0 ?_ ?_
    ·intro h;simp at h
    intro _
    repeat refine c_r ?_
    refine rg1 h8 ?_
    repeat refine c_r ?_
    exact⟨m - 1,by omega,rfl,k+1,_,by omega,by omega,r1,r2,by simp only[go_sem];push_cast;rfl,(vq1 h0),(vq1 h1),(vq1 h2),(vq1 h3),r3,hK.trans (Ext.keep hx)⟩
   ·rw[List.concat_eq_append]at hS1
    subst hS1
    rw[List.length_append,List.length_cons,List.length_nil]at hm2 hl12
    obtain⟨j,hj⟩:∃j,p+S1'.length=j:=⟨_,rfl⟩
    rw[List.length_append,List.length_cons,List.length_nil,←Nat.add_assoc,Nat.zero_add,hj]at h9
    have hd:decide ((p:Int)<((j+1:Nat):Int))=true:=decide_eq_true (by omega)
    have hs:((j+1:Nat):Int) - 1=(j:Int):=by omega
    have hAl:(A++S1').length=j:=by rw[List.length_append];omega
    have e1:A++(S1'++ [y])++u::S2++X.drop (k+1)++B=(A++S1')++y::[]++u::(S2++X.drop (k+1)++B):=by simp only[List.append_assoc,List.cons_append,List.nil_append]
    have e2:(A++S1')++u::[]++y::(S2++X.drop (k+1)++B)=A++S1'++u::(y::S2)++X.drop (k+1)++B:=by simp only[List.append_assoc,List.cons_append,List.nil_append]
    rw[e1]at hL
    have g1:((A++S1')++y::[]++u::(S2++X.drop (k+1)++B))[j]? =some y:=by
     rw[List.append_assoc,List.cons_append,←hAl];exact zcz _ _ _
    have g2:((A++S1')++y::[]++u::(S2++X.drop (k+1)++B))[j+1]? =some u:=by
     have:=zcz ((A++S1')++ [y]) (S2++X.drop (k+1)++B) u
     rwa [List.length_append,hAl]at this
    have hjN:j+1<N:=by omega
    have hyS:y∈S:=by rw[←hS12];simp
    repeat refine c_r ?_
    refine zaF (fun _=>false) [(0,true),(1,true),(2,true),(3,true),(4,true),(5,true),(6,true),(7,true),(8,true),(9,true),(10,true),(11,true),(12,true),(13,true),(14,false),(15,true),(16,true)] NoS mixed (by kernel_rfl) ?_;intro gd K x hgd hx hxe hK;clear hxe
    have hg3:∀n σ b,zaE gd n σ (some (3,b))=zap (ev n σ (.tmp 21)) b:=(fun n σ b=>by rw[zag,show gd 3=some 21 from(by rw[hgd];rfl)];rfl)
    have hLx:Lies enc x b cap ((A++S1')++y::[]++u::(S2++X.drop (k+1)++B)):=SD.ext hL hx
    have d1:=hLx.get g1
    have d2:=hLx.get g2
    simp (disch:=first|omega|assumption|rfl) only[go_sem,h9,h1,h0,h3,hd,hs,d1,d2,↓hg3]
    refine zds hc.cal (Fn.mono (hc.call x u y (hE0.trans hx) hUu (hUS y hyS)) ?_)
    rintro _ w1 ⟨rfl,hE1⟩
    refine⟨.inr (Ext.keep hE1),?_⟩
    simp (disch:=first|omega|assumption|rfl) only[go_sem,↓hg3]
    refine hK _ _ ?_;clear hK hgd;clear K;try clear gd
    have hx1:=hx.trans hE1
    repeat refine c_r ?_
    refine wc0 ?_ ?_
    ·intro hlt2
     simp only[decide_eq_true_eq]at hlt2
     have hLy:Lies enc w1 b cap ((A++S1')++y::[]++u::(S2++X.drop (k+1)++B)):=SD.ext hLx hE1
     have m1:=List.mem_of_getElem? g1
     have m2':=List.mem_of_getElem? g2
     repeat refine c_r ?_
     refine zaF (fun i=>i==15||i==17) [(0,true),(1,true),(2,true),(3,true),(4,true),(5,true),(6,true),(7,true),(8,true),(9,true),(10,true),(11,true),(12,true),(13,true),(14,true),(15,false),(16,true),(17,false)] NoS mixed (by kernel_rfl) ?_;intro gd K x hgd hx hxe hK;clear hxe
     rename_i x0 _
     have hLz:Lies enc x b cap ((A++S1')++y::[]++u::(S2++X.drop (k+1)++B)):=SD.ext hLy ‹Keep NoS w1 x›
     have d3:=hLz.get g1
     have d4:=hLz.get g2
     simp (disch:=first|omega|assumption|rfl) only[go_sem,h9,h0,hs,d3,d4]
     refine SD.set (P:=Tryz.prog) (t:=49) hLz (j:=j+1) (by rw[List.length_map];exact(List.getElem?_eq_some_iff.1 g2).1) (hL.enc_len m1) (hL.enc_one m1) rfl rfl ?_
     intro w2 hs2 hL2 hk2
     refine⟨.inl rfl,?_⟩
     simp (disch:=first|omega|assumption|rfl) only[go_sem,h9,hs]
     refine SD.set (P:=Tryz.prog) (t:=49) hL2 (j:=j) (by rw[List.length_set,List.length_map];exact(List.getElem?_eq_some_iff.1 g1).1) (hL.enc_len m2') (hL.enc_one m2') rfl rfl ?_
     intro w3 hs3 hL3 hk3
     refine⟨.inl rfl,?_⟩
     simp (disch:=first|omega|assumption|rfl) only[go_sem]
     refine hK _ _ ?_;clear hK hgd;clear K;try clear gd
     repeat refine c_r ?_
     refine rg2 h9 hs ?_
     repeat refine c_r ?_
     refine⟨m2 - 1,by omega,rfl,S1',y::S2,by omega,by rw[←hS12];simp,fun z hz=>?_,(vq2 hs hj),(vq1 h8),(vq1 h0),(vq1 h1),(vq1 h2),(vq1 h3),?_,(((hK.trans (Ext.keep hx1)).trans (Ext.keep ‹Keep NoS w1 x›)).trans hk2).trans hk3⟩
     ·rcases List.mem_cons.1 hz with rfl|hz
      ·exact ho.less (hOS _ hyS) hlt2
      ·exact hS2 z hz
     ·rw[←e2]
      have:=zfi (A++S1') [] (S2++X.drop (k+1)++B) y u (i:=j) (j:=j+1) hAl.symm (by rw[hAl];simp)
      rw[List.set_comm _ _ (by omega)]at this
      unfold Lies
      rw[←this,List.map_set,List.map_set]
      exact hL3
    ·intro hge2
     simp only[decide_eq_false_iff_not]at hge2
     have hly:=ho.more (hOS y hyS) hge2
     obtain⟨r1,r2,r3⟩:=hstay w1 (fun z hz=>by
      rcases List.mem_append.1 hz with hz|hz
      ·have h1:=hSs
       rw[←hS12,List.append_assoc,List.pairwise_append]at h1
       exact ho.trans (h1.2.2 z hz y (by simp)) hly
      ·rw[List.mem_singleton.1 hz];exact hly) hx1
     repeat refine c_r ?_
     refine rg1 h8 ?_
     repeat refine c_r ?_
     exact⟨m - 1,by omega,rfl,k+1,_,by omega,by omega,r1,r2,by simp only[go_sem];push_cast;rfl,(vq1 h0),(vq1 h1),(vq1 h2),(vq1 h3),r3,hK.trans (Ext.keep hx1)⟩
  ·intro hge
   simp only[decide_eq_false_iff_not]at hge
   repeat refine c_r ?_
   refine zaw (by simp) rfl ⟨⟨S,?_,hSs,?_⟩,hK⟩
   ·rwa [List.take_of_length_le (by omega)]at hSp
   ·rw[List.drop_of_length_le (by omega),List.append_nil]at hL;exact hL
end
section
variable {α : Type} {enc : α → List Value}
theorem zgq{w0 w:World}{b cap:Nat}{U:α→Prop}{cf:α→α→Int}{lt older:α→α→Prop}{g:FuncId}{cb:List Value}(hc:Cmp w0 enc U cf g cb)(ho:ziL cf lt older)
  {D A Y B:List α} {u:α} {p q r N:Nat} (hDe:D=A++u::Y++B) (hN:D.length=N) (hp:A.length=p) (hq:p+1=q) (hr:q+Y.length=r) (hUu:U u) (hU:∀y∈Y,U y) (hY:Y.Pairwise lt) (hold:∀y∈Y,older u y)
  (hD:Lies enc w b cap D) (hlen:N≤1000000000000) (hE:Ext w0 w) (hb:w0.heap.size≤b):
  Fn Tryz.prog 140 #[zdp b N cap,vi p,vi q,vi r,cmpV g cb] w (fun _ w'=>(∃Z,Z.Perm (u::Y)∧Z.Pairwise lt∧Lies enc w' b cap (A++Z++B))∧Keep (fun i=>i=b) w w'):=by
 have hDl:=congrArg List.length hDe
 simp only[List.length_append,List.length_cons]at hDl
 have hqp:(q:Int) - p=1:=by omega
 unfold zdp cmpV
 refine enter Tryz.func140 Tryz.ntmps140 rfl rfl ?_
 repeat refine c_r ?_
 refine rg2 hqp decide_true ?_
 repeat refine c_r ?_
 refine wc0 ?_ ?_
 rotate_left
 ·intro h;simp at h
 intro _
 repeat refine c_r ?_
 refine rg0 ?_
 repeat refine c_r ?_
 refine rg0 ?_
 repeat refine c_r ?_
 refine zaD (fun m σ ds v=>ds=[]∧∃(s e:Nat),s+m=e∧e≤Y.length∧Cut lt u Y s e∧σ 10=vi (q+s:Nat)∧σ 11=vi (q+e:Nat)∧σ 0= .slice (some ⟨b,0,Option.none⟩) N cap∧σ 1=vi p∧σ 4= .func (.func g) #[] cb.toArray∧Ext w v) Y.length ?_ ?_
 ·refine⟨rfl,0,Y.length,by omega,Nat.le_refl _,Cut.start u Y,?_,?_,?_,?_,?_,Keep.refl _ _⟩
  ·simp only[go_sem];rfl
  ·simp only[go_sem,hr]
  ·simp only[go_sem]
  ·simp only[go_sem]
  ·simp only[go_sem]
 rintro m σ ds v ⟨rfl,s,e,hse,he,hcut,h10,h11,h0,h1,h4,hEv⟩
 have hLv:Lies enc v b cap D:=SD.ext hD hEv
 repeat refine c_r ?_
 refine rq ?_;intro gd K hgd hK;simp (disch:=first|omega|assumption|rfl) only[go_sem,h10,h11];refine hK _ _ ?_;clear hK hgd;clear K gd
 repeat refine c_r ?_
 refine wc0 ?_ ?_
 ·intro hlt
  simp only[decide_eq_true_eq]at hlt
  have hsum:((q+s:Nat):Int)+((q+e:Nat):Int)=((q+s+(q+e):Nat):Int):=by push_cast;rfl
  obtain⟨k,hk⟩:∃k,(s+e) / 2=k:=⟨_,rfl⟩
  have hdiv:(q+s+(q+e)) / 2=q+k:=by omega
  have hkY:k<Y.length:=by omega
  obtain⟨y,hy⟩:∃y,Y[k]=y:=⟨_,rfl⟩
  have hyk:Y[k]? =some y:=by rw[List.getElem?_eq_getElem hkY,hy]
  have hyY:y∈Y:=by rw[←hy];exact List.getElem_mem _
  have g1:D[p]? =some u:=by rw[hDe,List.append_assoc,List.cons_append,←hp];exact zcz _ _ _
  have g2:D[q+k]? =some y:=by
   have e1:D=A++ [u]++Y++B:=by rw[hDe];simp
   have hl:(A++ [u]).length=q:=by simp;omega
   rw[e1,List.append_assoc (A++ [u]),List.getElem?_append_right (by omega),hl,Nat.add_sub_cancel_left,List.getElem?_append_left hkY]
   exact hyk
  repeat refine c_r ?_
  refine rq ?_;intro gd K hgd hK;simp (disch:=first|omega|assumption|rfl) only[go_sem,h10,h11,hsum,hdiv];refine hK _ _ ?_;clear hK hgd;clear K gd
  repeat refine c_r ?_
  refine zaF (fun _=>false) [(0,true),(1,true),(2,true),(3,true),(4,true),(5,true),(6,true),(7,true),(8,true),(9,false),(10,true)] NoS mixed (by kernel_rfl) ?_;intro gd K x hgd hx hxe hK;clear hxe
  have hLx:Lies enc x b cap D:=SD.ext hLv hx
  have d1:=hLx.get g1
  have d2:=hLx.get g2
  simp (disch:=first|omega|assumption|rfl) only[go_sem,h0,h1,h4,d1,d2]
  refine zds hc.cal (Fn.mono (hc.call x y u ((hE.trans hEv).trans hx) (hU y hyY) hUu) ?_)
  rintro _ w1 ⟨rfl,hE1⟩
  refine⟨.inr (Ext.keep hE1),?_⟩
  simp (disch:=first|omega|assumption|rfl) only[go_sem]
  refine hK _ _ ?_;clear hK hgd;clear K;try clear gd
  have hEv1:=(hEv.trans hx).trans hE1
  repeat refine c_r ?_
  refine wc0 ?_ ?_
  ·intro hl
   simp only[decide_eq_true_eq]at hl
   repeat refine c_r ?_
   refine rg0 ?_
   repeat refine c_r ?_
   refine⟨m - (k+1 - s),by omega,rfl,k+1,e,by omega,he,hcut.up ho.trans hY hyk (ho.less (hold y hyY) hl),by simp only[go_sem];push_cast;rfl,by simp only[go_sem,h11],(vq1 h0),(vq1 h1),(vq1 h4),hEv1⟩
  ·intro hl
   simp only[decide_eq_false_iff_not]at hl
   repeat refine c_r ?_
   refine rg0 ?_
   repeat refine c_r ?_
   refine⟨k - s,by omega,rfl,s,k,by omega,by omega,hcut.down ho.trans hY hyk (ho.more (hold y hyY) hl),(vq1 h10),vq0,(vq1 h0),(vq1 h1),(vq1 h4),hEv1⟩
 intro hge
 simp only[decide_eq_false_iff_not]at hge
 have hes:e=s:=by omega
 subst hes
 obtain⟨Y1,hY1⟩:∃Y1,Y.take e=Y1:=⟨_,rfl⟩
 obtain⟨Y2,hY2⟩:∃Y2,Y.drop e=Y2:=⟨_,rfl⟩
 have hY12:Y1++Y2=Y:=by rw[←hY1,←hY2];exact List.take_append_drop _ _
 have hY1l:Y1.length=e:=by rw[←hY1];simp;omega
 have hsorted:=Cut.sorted (lt:=lt) ho.trans hY hcut
 rw[hY1,hY2]at hsorted
 have hqe:((q+e:Nat):Int) - 1=((p+e:Nat):Int):=by omega
 repeat refine c_r ?_
 refine rg1 h1 ?_
 repeat refine c_r ?_
 refine zaD (fun m σ ds v'=>ds=[]∧∃(i:Nat),i+m=e∧σ 13=vi (p+i:Nat)∧σ 10=vi (q+e:Nat)∧σ 0= .slice (some ⟨b,0,Option.none⟩) N cap∧Lies enc v' b cap (A++Y1.take i++u::Y1.drop i++Y2++B)∧Keep (fun i=>i=b) w v') e ?_ ?_
 ·refine⟨rfl,0,by omega,?_,?_,?_,?_,Ext.keep hEv⟩
  ·simp only[go_sem];rfl
  ·simp only[go_sem,h10]
  ·simp only[go_sem,h0]
  ·have:A++Y1.take 0++u::Y1.drop 0++Y2++B=D:=by rw[hDe,←hY12];simp
   rw[this];exact hLv
 clear h10 h11 h0 h1 h4
 rintro m2 σ ds v2 ⟨rfl,i,him,h13,h10,h0,hL2,hK2⟩
 repeat refine c_r ?_
 refine rg3 h13 h10 hqe ?_
 repeat refine c_r ?_
 refine wc0 ?_ ?_
 ·intro hlt
  simp only[decide_eq_true_eq]at hlt
  have hiY:i<Y1.length:=by omega
  obtain⟨z,hz⟩:∃z,Y1[i]=z:=⟨_,rfl⟩
  have hl1:(A++Y1.take i).length=p+i:=by simp;omega
  have e1:A++Y1.take i++u::Y1.drop i++Y2++B=(A++Y1.take i)++u::[]++z::(Y1.drop (i+1)++Y2++B):=by
   rw[List.drop_eq_getElem_cons hiY,hz];simp only[List.append_assoc,List.cons_append,List.nil_append]
  have e2:(A++Y1.take i)++z::[]++u::(Y1.drop (i+1)++Y2++B)=A++Y1.take (i+1)++u::Y1.drop (i+1)++Y2++B:=by
   rw[zak hiY,hz];simp only[List.append_assoc,List.cons_append,List.nil_append]
  rw[e1]at hL2
  have g1:((A++Y1.take i)++u::[]++z::(Y1.drop (i+1)++Y2++B))[p+i]? =some u:=by
   rw[List.append_assoc,List.cons_append,←hl1];exact zcz _ _ _
  have g2:((A++Y1.take i)++u::[]++z::(Y1.drop (i+1)++Y2++B))[p+i+1]? =some z:=by
   have:=zcz ((A++Y1.take i)++ [u]) (Y1.drop (i+1)++Y2++B) z
   rwa [List.length_append,hl1]at this
  have hs:((p+i:Nat):Int)+1=((p+i+1:Nat):Int):=by push_cast;rfl
  have hY12l:Y1.length+Y2.length=Y.length:=by rw[←hY12,List.length_append]
  have m1:=List.mem_of_getElem? g1
  have m2':=List.mem_of_getElem? g2
  repeat refine c_r ?_
  refine zaF (fun i=>i==15||i==17) [(0,true),(1,true),(2,true),(3,true),(4,true),(5,true),(6,true),(7,true),(8,true),(9,true),(10,true),(11,true),(12,true),(13,true),(14,true),(15,false),(16,true),(17,false)] NoS mixed (by kernel_rfl) ?_;intro gd K x hgd hx hxe hK;clear hxe
  have hLz:Lies enc x b cap ((A++Y1.take i)++u::[]++z::(Y1.drop (i+1)++Y2++B)):=SD.ext hL2 hx
  have d3:=hLz.get g1
  have d4:=hLz.get g2
  simp (disch:=first|omega|assumption|rfl) only[go_sem,h13,h0,hs,d3,d4]
  refine SD.set (P:=Tryz.prog) (t:=49) hLz (j:=p+i) (by rw[List.length_map];exact(List.getElem?_eq_some_iff.1 g1).1) (hL2.enc_len m2') (hL2.enc_one m2') rfl rfl ?_
  intro w2 hs2 hL3 hk2
  refine⟨.inl rfl,?_⟩
  simp (disch:=first|omega|assumption|rfl) only[go_sem,h13,hs]
  refine SD.set (P:=Tryz.prog) (t:=49) hL3 (j:=p+i+1) (by rw[List.length_set,List.length_map];exact(List.getElem?_eq_some_iff.1 g2).1) (hL2.enc_len m1) (hL2.enc_one m1) rfl rfl ?_
  intro w3 hs3 hL4 hk3
  refine⟨.inl rfl,?_⟩
  simp (disch:=first|omega|assumption|rfl) only[go_sem]
  refine hK _ _ ?_;clear hK hgd;clear K;try clear gd
  repeat refine c_r ?_
  refine rg2 h13 hs ?_
  repeat refine c_r ?_
  refine⟨m2 - 1,by omega,rfl,i+1,by omega,by simp only[go_sem];rfl,(vq1 h10),(vq1 h0),?_,((hK2.trans (Ext.keep hx)).trans hk2).trans hk3⟩
  rw[←e2]
  have:=zfi (A++Y1.take i) [] (Y1.drop (i+1)++Y2++B) u z (i:=p+i) (j:=p+i+1) hl1.symm (by rw[hl1];simp)
  unfold Lies
  rw[←this,List.map_set,List.map_set]
  exact hL4
 intro hge2
 simp only[decide_eq_false_iff_not]at hge2
 have hie:i=e:=by omega
 subst hie
 repeat refine c_r ?_
 refine zaw (by simp) rfl ⟨⟨Y1++u::Y2,?_,hsorted,?_⟩,hK2⟩
 ·rw[←hY12]
  have:=(List.perm_middle (l₁:=Y1) (l₂:=Y2) (a:=u));exact this
 ·rw[List.take_of_length_le (by omega),List.drop_of_length_le (by omega)]at hL2
  have:A++(Y1++u::Y2)++B=A++Y1++ [u]++Y2++B:=by simp
  rw[this];exact hL2
theorem zgZ{w0 w:World}{b cap:Nat}{U:α→Prop}{cf:α→α→Int}{lt older:α→α→Prop}{g:FuncId}{cb:List Value}(hc:Cmp w0 enc U cf g cb)(ho:ziL cf lt older)
  {D A X B:List α} {u:α} {p q r N:Nat} (hDe:D=A++X++u::B) (hN:D.length=N) (hp:A.length=p) (hq:p+X.length=q) (hr:q+1=r) (hX1:X.length≠1) (hUu:U u) (hU:∀y∈X,U y) (hX:X.Pairwise lt) (hold:∀x∈X,older x u)
  (hD:Lies enc w b cap D) (hlen:N≤1000000000000) (hE:Ext w0 w) (hb:w0.heap.size≤b):
  Fn Tryz.prog 140 #[zdp b N cap,vi p,vi q,vi r,cmpV g cb] w (fun _ w'=>(∃Z,Z.Perm (X++ [u])∧Z.Pairwise lt∧Lies enc w' b cap (A++Z++B))∧Keep (fun i=>i=b) w w'):=by
 have hDl:=congrArg List.length hDe
 simp only[List.length_append,List.length_cons]at hDl
 have hqp:¬((q:Int) - p=1):=by omega
 have hrq:(r:Int) - q=1:=by omega
 unfold zdp cmpV
 refine enter Tryz.func140 Tryz.ntmps140 rfl rfl ?_
 repeat refine c_r ?_
 refine rg1 (decide_eq_false hqp) ?_
 repeat refine c_r ?_
 refine wc0 ?_ ?_
 ·intro h;simp at h
 intro _
 repeat refine c_r ?_
 refine rg2 hrq decide_true ?_
 repeat refine c_r ?_
 refine wc0 ?_ ?_
 rotate_left
 ·intro h;simp at h
 intro _
 repeat refine c_r ?_
 refine rg0 ?_
 repeat refine c_r ?_
 refine rg0 ?_
 repeat refine c_r ?_
 refine zaD (fun m σ ds v=>ds=[]∧∃(s e:Nat),s+m=e∧e≤X.length∧Cut lt u X s e∧σ 14=vi (p+s:Nat)∧σ 15=vi (p+e:Nat)∧σ 0= .slice (some ⟨b,0,Option.none⟩) N cap∧σ 2=vi q∧σ 4= .func (.func g) #[] cb.toArray∧Ext w v) X.length ?_ ?_
 ·refine⟨rfl,0,X.length,by omega,Nat.le_refl _,Cut.start u X,?_,?_,?_,?_,?_,Keep.refl _ _⟩
  ·simp only[go_sem];rfl
  ·simp only[go_sem,hq]
  ·simp only[go_sem]
  ·simp only[go_sem]
  ·simp only[go_sem]
 rintro m σ ds v ⟨rfl,s,e,hse,he,hcut,h14,h15,h0,h2,h4,hEv⟩
 have hLv:Lies enc v b cap D:=SD.ext hD hEv
 repeat refine c_r ?_
 refine rg2 h14 h15 ?_
 repeat refine c_r ?_
 refine wc0 ?_ ?_
 ·intro hlt
  simp only[decide_eq_true_eq]at hlt
  have hsum:((p+s:Nat):Int)+((p+e:Nat):Int)=((p+s+(p+e):Nat):Int):=by push_cast;rfl
  obtain⟨k,hk⟩:∃k,(s+e) / 2=k:=⟨_,rfl⟩
  have hdiv:(p+s+(p+e)) / 2=p+k:=by omega
  have hkX:k<X.length:=by omega
  obtain⟨y,hy⟩:∃y,X[k]=y:=⟨_,rfl⟩
  have hyk:X[k]? =some y:=by rw[List.getElem?_eq_getElem hkX,hy]
  have hyX:y∈X:=by rw[←hy];exact List.getElem_mem _
  have g1:D[q]? =some u:=by
   have:=zcz (A++X) B u
   rw[List.length_append,hp,hq]at this
   rw[hDe];exact this
  have g2:D[p+k]? =some y:=by
   rw[hDe,List.append_assoc,List.getElem?_append_right (by omega),hp,Nat.add_sub_cancel_left,List.getElem?_append_left hkX]
   exact hyk
  repeat refine c_r ?_
  refine rg4 h14 h15 hsum hdiv ?_
  repeat refine c_r ?_
  refine zaF (fun _=>false) [(0,true),(1,true),(2,true),(3,true),(4,true),(5,true),(6,true),(7,true),(8,true),(9,false),(10,true),(11,true)] NoS mixed (by kernel_rfl) ?_;intro gd K x hgd hx hxe hK;clear hxe
  have hLx:Lies enc x b cap D:=SD.ext hLv hx
  have d1:=hLx.get g1
  have d2:=hLx.get g2
  simp (disch:=first|omega|assumption|rfl) only[go_sem,h0,h2,h4,d1,d2]
  refine zds hc.cal (Fn.mono (hc.call x u y ((hE.trans hEv).trans hx) hUu (hU y hyX)) ?_)
  rintro _ w1 ⟨rfl,hE1⟩
  refine⟨.inr (Ext.keep hE1),?_⟩
  simp (disch:=first|omega|assumption|rfl) only[go_sem]
  refine hK _ _ ?_;clear hK hgd;clear K;try clear gd
  have hEv1:=(hEv.trans hx).trans hE1
  repeat refine c_r ?_
  refine wc0 ?_ ?_
  ·intro hl
   simp only[Bool.not_eq_true',decide_eq_false_iff_not]at hl
   repeat refine c_r ?_
   refine rg0 ?_
   repeat refine c_r ?_
   refine⟨m - (k+1 - s),by omega,rfl,k+1,e,by omega,he,hcut.up ho.trans hX hyk (ho.more (hold y hyX) hl),by simp only[go_sem];push_cast;rfl,(vq1 h15),(vq1 h0),(vq1 h2),(vq1 h4),hEv1⟩
  ·intro hl
   simp only[Bool.not_eq_false',decide_eq_true_eq]at hl
   repeat refine c_r ?_
   refine rg0 ?_
   repeat refine c_r ?_
   refine⟨k - s,by omega,rfl,s,k,by omega,by omega,hcut.down ho.trans hX hyk (ho.less (hold y hyX) hl),(vq1 h14),vq0,(vq1 h0),(vq1 h2),(vq1 h4),hEv1⟩
 intro hge
 simp only[decide_eq_false_iff_not]at hge
 have hes:e=s:=by omega
 subst hes
 obtain⟨X1,hX1'⟩:∃X1,X.take e=X1:=⟨_,rfl⟩
 obtain⟨X2,hX2⟩:∃X2,X.drop e=X2:=⟨_,rfl⟩
 have hX12:X1++X2=X:=by rw[←hX1',←hX2];exact List.take_append_drop _ _
 have hX1l:X1.length=e:=by rw[←hX1'];simp;omega
 have hX12l:X1.length+X2.length=X.length:=by rw[←hX12,List.length_append]
 have hsorted:=Cut.sorted (lt:=lt) ho.trans hX hcut
 rw[hX1',hX2]at hsorted
 repeat refine c_r ?_
 refine rg1 h2 ?_
 repeat refine c_r ?_
 refine zaD (fun m σ ds v'=>ds=[]∧∃(i:Nat),i=m∧i≤X2.length∧σ 17=vi (p+e+i:Nat)∧σ 14=vi (p+e:Nat)∧σ 0= .slice (some ⟨b,0,Option.none⟩) N cap∧Lies enc v' b cap (A++X1++X2.take i++u::X2.drop i++B)∧Keep (fun i=>i=b) w v') X2.length ?_ ?_
 ·refine⟨rfl,X2.length,rfl,Nat.le_refl _,?_,?_,?_,?_,Ext.keep hEv⟩
  ·have:p+e+X2.length=q:=by omega
   simp only[go_sem,this]
  ·simp only[go_sem,h14]
  ·simp only[go_sem,h0]
  ·have:A++X1++X2.take X2.length++u::X2.drop X2.length++B=D:=by rw[hDe,←hX12];simp
   rw[this];exact hLv
 clear h14 h15 h0 h2 h4
 rintro m2 σ ds v2 ⟨rfl,i,him,hi2,h17,h14,h0,hL2,hK2⟩
 repeat refine c_r ?_
 refine rg2 h17 h14 ?_
 repeat refine c_r ?_
 refine wc0 ?_ ?_
 ·intro hlt
  simp only[decide_eq_true_eq]at hlt
  obtain⟨j,hj⟩:∃j,i=j+1:=⟨i - 1,by omega⟩
  subst hj
  have hjX:j<X2.length:=by omega
  obtain⟨z,hz⟩:∃z,X2[j]=z:=⟨_,rfl⟩
  obtain⟨c,hcq⟩:∃c,p+e+j=c:=⟨_,rfl⟩
  have hl1:(A++X1++X2.take j).length=c:=by simp;omega
  have e1:A++X1++X2.take (j+1)++u::X2.drop (j+1)++B=(A++X1++X2.take j)++z::[]++u::(X2.drop (j+1)++B):=by
   rw[zak hjX,hz];simp only[List.append_assoc,List.cons_append,List.nil_append]
  have e2:(A++X1++X2.take j)++u::[]++z::(X2.drop (j+1)++B)=A++X1++X2.take j++u::X2.drop j++B:=by
   rw[List.drop_eq_getElem_cons hjX,hz];simp only[List.append_assoc,List.cons_append,List.nil_append]
  rw[e1]at hL2
  have g1:((A++X1++X2.take j)++z::[]++u::(X2.drop (j+1)++B))[c]? =some z:=by
   rw[List.append_assoc,List.cons_append,←hl1];exact zcz _ _ _
  have g2:((A++X1++X2.take j)++z::[]++u::(X2.drop (j+1)++B))[c+1]? =some u:=by
   have:=zcz ((A++X1++X2.take j)++ [z]) (X2.drop (j+1)++B) u
   rwa [List.length_append,hl1]at this
  have hc1:p+e+(j+1)=c+1:=by omega
  rw[hc1]at h17
  have hs:((c+1:Nat):Int) - 1=(c:Int):=by omega
  have m1:=List.mem_of_getElem? g1
  have m2':=List.mem_of_getElem? g2
  repeat refine c_r ?_
  refine zaF (fun i=>i==15||i==17) [(0,true),(1,true),(2,true),(3,true),(4,true),(5,true),(6,true),(7,true),(8,true),(9,true),(10,true),(11,true),(12,true),(13,true),(14,true),(15,false),(16,true),(17,false)] NoS mixed (by kernel_rfl) ?_;intro gd K x hgd hx hxe hK;clear hxe
  have hLz:Lies enc x b cap ((A++X1++X2.take j)++z::[]++u::(X2.drop (j+1)++B)):=SD.ext hL2 hx
  have d3:=hLz.get g1
  have d4:=hLz.get g2
  simp (disch:=first|omega|assumption|rfl) only[go_sem,h17,h0,hs,d3,d4]
  refine SD.set (P:=Tryz.prog) (t:=49) hLz (j:=c+1) (by rw[List.length_map];exact(List.getElem?_eq_some_iff.1 g2).1) (hL2.enc_len m1) (hL2.enc_one m1) rfl rfl ?_
  intro w2 hs2 hL3 hk2
  refine⟨.inl rfl,?_⟩
  simp (disch:=first|omega|assumption|rfl) only[go_sem,h17,hs]
  refine SD.set (P:=Tryz.prog) (t:=49) hL3 (j:=c) (by rw[List.length_set,List.length_map];exact(List.getElem?_eq_some_iff.1 g1).1) (hL2.enc_len m2') (hL2.enc_one m2') rfl rfl ?_
  intro w3 hs3 hL4 hk3
  refine⟨.inl rfl,?_⟩
  simp (disch:=first|omega|assumption|rfl) only[go_sem]
  refine hK _ _ ?_;clear hK hgd;clear K;try clear gd
  repeat refine c_r ?_
  refine rg2 h17 hs ?_
  repeat refine c_r ?_
  refine⟨m2 - 1,by omega,rfl,j,by omega,by omega,(vq2 hs hcq),(vq1 h14),(vq1 h0),?_,((hK2.trans (Ext.keep hx)).trans hk2).trans hk3⟩
  rw[←e2]
  have:=zfi (A++X1++X2.take j) [] (X2.drop (j+1)++B) z u (i:=c) (j:=c+1) hl1.symm (by rw[hl1];simp)
  rw[List.set_comm _ _ (by omega)]at this
  unfold Lies
  rw[←this,List.map_set,List.map_set]
  exact hL4
 intro hge2
 simp only[decide_eq_false_iff_not]at hge2
 have hie:i=0:=by omega
 subst hie
 repeat refine c_r ?_
 refine zaw (by simp) rfl ⟨⟨X1++u::X2,?_,hsorted,?_⟩,hK2⟩
 ·rw[←hX12]
  refine(List.perm_middle (l₁:=X1) (l₂:=X2) (a:=u)).trans ?_
  exact(List.perm_append_comm (l₁:=[u]) (l₂:=X1++X2))
 ·rw[List.take_zero,List.drop_zero,List.append_nil]at hL2
  have:A++(X1++u::X2)++B=A++X1++u::X2++B:=by simp
  rw[this];exact hL2
end
section
variable {α : Type} {enc : α → List Value}
theorem zfC{w0:World}{b cap:Nat}{U:α→Prop}{cf:α→α→Int}{lt older:α→α→Prop}{g:FuncId}{cb:List Value}(hc:Cmp w0 enc U cf g cb)(ho:ziL cf lt older)(hb:w0.heap.size≤b):
  ∀(fuel:Nat) (w:World) (D A X Y B:List α) (p q r N:Nat),X.length+Y.length≤fuel→D=A++X++Y++B→D.length=N→A.length=p→p+X.length=q→q+Y.length=r→X≠ []→Y≠ []→(∀x∈X,U x)→(∀y∈Y,U y)→
   X.Pairwise lt→Y.Pairwise lt→(∀x∈X,∀y∈Y,older x y)→Lies enc w b cap D→N≤1000000000000→Ext w0 w→
   Fn Tryz.prog 140 #[zdp b N cap,vi p,vi q,vi r,cmpV g cb] w (fun _ w'=>(∃Z,Z.Perm (X++Y)∧Z.Pairwise lt∧Lies enc w' b cap (A++Z++B))∧Keep (fun i=>i=b) w w'):=by
 intro fuel
 induction fuel with
 |zero=>
  intro w D A X Y B p q r N hf _ _ _ _ _ hX _
  exact absurd (List.length_eq_zero_iff.1 (by omega)) hX
 |succ fuel ih=>
  intro w D A X Y B p q r N hf hDe hN hp hq hr hXn hYn hUX hUY hX hY hold hD hlen hE
  have hXp:=List.length_pos_iff.2 hXn
  have hYp:=List.length_pos_iff.2 hYn
  by_cases hX1:X.length=1
  ·obtain⟨u,rfl⟩:=List.length_eq_one_iff.1 hX1
   exact zgq hc ho (by rw[hDe];simp) hN hp (by simpa using hq) hr (hUX u (by simp)) hUY hY (fun y hy=>hold u (by simp) y hy) hD hlen hE hb
  by_cases hY1:Y.length=1
  ·obtain⟨u,rfl⟩:=List.length_eq_one_iff.1 hY1
   exact zgZ hc ho (by rw[hDe];simp) hN hp hq (by simpa using hr) hX1 (hUY u (by simp)) hUX hX (fun x hx=>hold x hx u (by simp)) hD hlen hE hb
  have hDl:=congrArg List.length hDe
  simp only[List.length_append]at hDl
  obtain⟨h,hh⟩:∃h,(X.length+Y.length) / 2=h:=⟨_,rfl⟩
  have hqp:¬((q:Int) - p=1):=by omega
  have hrq:¬((r:Int) - q=1):=by omega
  have hsum:(p:Int)+r=((p+r:Nat):Int):=by push_cast;rfl
  have hdiv:(p+r) / 2=p+h:=by omega
  have hn:((p+h:Nat):Int)+q=((p+h+q:Nat):Int):=by push_cast;rfl
  unfold zdp cmpV
  refine enter Tryz.func140 Tryz.ntmps140 rfl rfl ?_
  repeat refine c_r ?_
  refine rg1 (decide_eq_false hqp) ?_
  repeat refine c_r ?_
  refine wc0 ?_ ?_
  ·intro h;simp at h
  intro _
  repeat refine c_r ?_
  refine rg1 (decide_eq_false hrq) ?_
  repeat refine c_r ?_
  refine wc0 ?_ ?_
  ·intro h;simp at h
  intro _
  repeat refine c_r ?_
  refine rg2 hsum hdiv ?_
  repeat refine c_r ?_
  refine rg1 hn ?_
  repeat refine c_r ?_
  refine rg0 ?_
  repeat refine c_r ?_
  refine rg0 ?_
  repeat refine c_r ?_
  refine zas (Q:=fun e σ' ds' v'=>e= .normal∧ds'=[]∧v'=w∧σ' 0= .slice (some ⟨b,0,Option.none⟩) N cap∧σ' 1=vi p∧σ' 2=vi q∧σ' 3=vi r∧σ' 4= .func (.func g) #[] cb.toArray∧σ' 18=vi (p+h:Nat)∧σ' 19=vi (p+h+q:Nat)∧
   ∃lo hi:Nat,σ' 20=vi (p+lo:Nat)∧σ' 21=vi (p+hi:Nat)∧lo≤hi∧hi≤X.length∧hi≤h∧h≤lo+Y.length∧(lo=0∨h=lo+Y.length)∧(hi=X.length∨hi=h)) ?_ ?_
  ·refine wc0 ?_ ?_
   ·intro hgt
    simp only[decide_eq_true_eq]at hgt
    have hs:((p+h+q:Nat):Int) - r=((p+(h - Y.length):Nat):Int):=by omega
    repeat refine c_r ?_
    refine rg1 hs ?_
    repeat refine c_r ?_
    refine rg0 ?_
    refine⟨rfl,rfl,rfl,vq0,vq0,vq0,vq0,vq0,vq0,vq0,h - Y.length,h,vq0,vq0,by omega,by omega,by omega,by omega,.inr (by omega),.inr rfl⟩
   ·intro hle
    simp only[decide_eq_false_iff_not]at hle
    repeat refine c_r ?_
    refine rg0 ?_
    repeat refine c_r ?_
    refine rg0 ?_
    refine⟨rfl,rfl,rfl,vq0,vq0,vq0,vq0,vq0,vq0,vq0,0,X.length,by simp only[go_sem];rfl,(vq1 hq),by omega,by omega,by omega,by omega,.inl rfl,.inl rfl⟩
  rintro _ σ1 _ v1 ⟨rfl,rfl,hv1,f0,f1,f2,f3,f4,f18,f19,lo,hi,f20,f21,hlh,hhX,hhh,hloY,hlo,hhi⟩
  rw[hv1]
  clear hv1 v1
  have hp1:((p+h+q:Nat):Int) - 1=((p+h+q - 1:Nat):Int):=by omega
  repeat refine c_r ?_
  refine rg2 f19 hp1 ?_
  repeat refine c_r ?_
  refine zaD (fun m σ ds v=>ds=[]∧∃s e:Nat,s+m=e∧lo≤s∧e≤hi∧(s=lo∨∃x y,X[s - 1]? =some x∧Y[h - s]? =some y∧lt x y)∧(e=hi∨∃x y,X[e]? =some x∧Y[h - 1 - e]? =some y∧lt y x)∧
   σ 20=vi (p+s:Nat)∧σ 21=vi (p+e:Nat)∧σ 22=vi (p+h+q - 1:Nat)∧σ 0= .slice (some ⟨b,0,Option.none⟩) N cap∧σ 1=vi p∧σ 2=vi q∧σ 3=vi r∧σ 4= .func (.func g) #[] cb.toArray∧σ 18=vi (p+h:Nat)∧σ 19=vi (p+h+q:Nat)∧Ext w v) (hi - lo) ?_ ?_
  ·refine⟨rfl,lo,hi,by omega,Nat.le_refl _,Nat.le_refl _,.inl rfl,.inl rfl,(vq1 f20),(vq1 f21),vq0,(vq1 f0),(vq1 f1),(vq1 f2),(vq1 f3),(vq1 f4),(vq1 f18),(vq1 f19),Keep.refl _ _⟩
  clear f0 f1 f2 f3 f4 f18 f19 f20 f21
  rintro m σ ds v ⟨rfl,s,e,hse,hsl,heh,hF1,hF2,h20,h21,h22,h0,h1,h2,h3,h4,h18,h19,hEv⟩
  have hLv:Lies enc v b cap D:=SD.ext hD hEv
  repeat refine c_r ?_
  refine rg2 h20 h21 ?_
  repeat refine c_r ?_
  refine wc0 ?_ ?_
  ·intro hlt
   simp only[decide_eq_true_eq]at hlt
   have hsum2:((p+s:Nat):Int)+((p+e:Nat):Int)=((p+s+(p+e):Nat):Int):=by push_cast;rfl
   obtain⟨k,hk⟩:∃k,(s+e) / 2=k:=⟨_,rfl⟩
   have hdiv2:(p+s+(p+e)) / 2=p+k:=by omega
   have hkX:k<X.length:=by omega
   have hkY:h - 1 - k<Y.length:=by omega
   have hpk:((p+h+q - 1:Nat):Int) - ((p+k:Nat):Int)=((q+(h - 1 - k):Nat):Int):=by omega
   obtain⟨x',hx'⟩:∃x,X[k]=x:=⟨_,rfl⟩
   obtain⟨y,hy⟩:∃y,Y[h - 1 - k]=y:=⟨_,rfl⟩
   have gx:X[k]? =some x':=by rw[List.getElem?_eq_getElem hkX,hx']
   have gy:Y[h - 1 - k]? =some y:=by rw[List.getElem?_eq_getElem hkY,hy]
   have hxX:x'∈X:=by rw[←hx'];exact List.getElem_mem _
   have hyY:y∈Y:=by rw[←hy];exact List.getElem_mem _
   have g1:D[p+k]? =some x':=by
    rw[hDe,List.append_assoc,List.append_assoc,List.getElem?_append_right (by omega),hp,Nat.add_sub_cancel_left,List.getElem?_append_left hkX];exact gx
   have g2:D[q+(h - 1 - k)]? =some y:=by
    have hl:(A++X).length=q:=by rw[List.length_append];omega
    rw[hDe,List.append_assoc (A++X),List.getElem?_append_right (by omega),hl,Nat.add_sub_cancel_left,List.getElem?_append_left hkY];exact gy
   repeat refine c_r ?_
   refine rg4 h20 h21 hsum2 hdiv2 ?_
   repeat refine c_r ?_
   refine zaF (fun _=>false) [(0,true),(1,true),(2,true),(3,true),(4,true),(5,true),(6,true),(7,true),(8,true),(9,true),(10,true),(11,false),(12,true),(13,true)] NoS mixed (by kernel_rfl) ?_;intro gd K x hgd hx hxe hK;clear hxe
   have hLx:Lies enc x b cap D:=SD.ext hLv hx
   have d1:=hLx.get g1
   have d2:=hLx.get g2
   simp (disch:=first|omega|assumption|rfl) only[go_sem,h0,h4,h22,hpk,d1,d2]
   refine zds hc.cal (Fn.mono (hc.call x y x' ((hE.trans hEv).trans hx) (hUY y hyY) (hUX x' hxX)) ?_)
   rintro _ w1 ⟨rfl,hE1⟩
   refine⟨.inr (Ext.keep hE1),?_⟩
   simp (disch:=first|omega|assumption|rfl) only[go_sem]
   refine hK _ _ ?_;clear hK hgd;clear K;try clear gd
   have hEv1:=(hEv.trans hx).trans hE1
   repeat refine c_r ?_
   refine wc0 ?_ ?_
   ·intro hl
    simp only[Bool.not_eq_true',decide_eq_false_iff_not]at hl
    repeat refine c_r ?_
    refine rg0 ?_
    repeat refine c_r ?_
    refine⟨m - (k+1 - s),by omega,rfl,k+1,e,by omega,by omega,heh,.inr ⟨x',y,by simpa using gx,by rw[show h - (k+1)=h - 1 - k from by omega];exact gy,ho.more (hold x' hxX y hyY) hl⟩,hF2,by simp only[go_sem];push_cast;rfl,(vq1 h21),(vq1 h22),(vq1 h0),(vq1 h1),(vq1 h2),(vq1 h3),(vq1 h4),(vq1 h18),(vq1 h19),hEv1⟩
   ·intro hl
    simp only[Bool.not_eq_false',decide_eq_true_eq]at hl
    repeat refine c_r ?_
    refine rg0 ?_
    repeat refine c_r ?_
    refine⟨k - s,by omega,rfl,s,k,by omega,hsl,by omega,hF1,.inr ⟨x',y,gx,gy,ho.less (hold x' hxX y hyY) hl⟩,(vq1 h20),vq0,(vq1 h22),(vq1 h0),(vq1 h1),(vq1 h2),(vq1 h3),(vq1 h4),(vq1 h18),(vq1 h19),hEv1⟩
  intro hge
  simp only[decide_eq_false_iff_not]at hge
  have hes:e=s:=by omega
  rw[hes]at hF2 heh
  clear hge hse h21 hes
  obtain⟨t,ht⟩:∃t,h - s=t:=⟨_,rfl⟩
  have hst:s+t=h:=by omega
  obtain⟨X1,hX1'⟩:∃X1,X.take s=X1:=⟨_,rfl⟩
  obtain⟨X2,hX2'⟩:∃X2,X.drop s=X2:=⟨_,rfl⟩
  obtain⟨Y1,hY1'⟩:∃Y1,Y.take t=Y1:=⟨_,rfl⟩
  obtain⟨Y2,hY2'⟩:∃Y2,Y.drop t=Y2:=⟨_,rfl⟩
  have c1:∀x∈X1,∀y∈Y2,lt x y:=by
   rw[←hX1',←hY2']
   refine cross ho.trans hX hY ?_
   rcases hF1 with hF1| ⟨x,y,a1,a2,a3⟩
   ·rcases hlo with hlo|hlo
    ·exact .inl (by omega)
    ·exact .inr (.inl (by omega))
   ·exact .inr (.inr ⟨x,y,a1,by rw[←ht];exact a2,a3⟩)
  have c2:∀y∈Y1,∀x∈X2,lt y x:=by
   rw[←hY1',←hX2']
   refine cross ho.trans hY hX ?_
   rcases hF2 with hF2| ⟨x,y,a1,a2,a3⟩
   ·rcases hhi with hhi|hhi
    ·exact .inr (.inl (by omega))
    ·exact .inl (by omega)
   ·exact .inr (.inr ⟨y,x,by rw[show t - 1=h - 1 - s from by omega];exact a2,a1,a3⟩)
  have hX12:X1++X2=X:=by rw[←hX1',←hX2'];exact List.take_append_drop _ _
  have hY12:Y1++Y2=Y:=by rw[←hY1',←hY2'];exact List.take_append_drop _ _
  have lX1:X1.length=s:=by rw[←hX1'];simp;omega
  have lY1:Y1.length=t:=by rw[←hY1'];simp;omega
  have lX2:X2.length=X.length - s:=by rw[←hX2'];simp
  have lY2:Y2.length=Y.length - t:=by rw[←hY2'];simp
  rw[←hX12,List.pairwise_append]at hX
  rw[←hY12,List.pairwise_append]at hY
  have hUX1:∀x∈X1,U x:=fun x hx=>hUX x (by rw[←hX12];exact List.mem_append_left _ hx)
  have hUX2:∀x∈X2,U x:=fun x hx=>hUX x (by rw[←hX12];exact List.mem_append_right _ hx)
  have hUY1:∀x∈Y1,U x:=fun x hx=>hUY x (by rw[←hY12];exact List.mem_append_left _ hx)
  have hUY2:∀x∈Y2,U x:=fun x hx=>hUY x (by rw[←hY12];exact List.mem_append_right _ hx)
  have ho1:∀x∈X1,∀y∈Y1,older x y:=fun x hx y hy=>hold x (by rw[←hX12];exact List.mem_append_left _ hx) y (by rw[←hY12];exact List.mem_append_left _ hy)
  have ho2:∀x∈X2,∀y∈Y2,older x y:=fun x hx y hy=>hold x (by rw[←hX12];exact List.mem_append_right _ hx) y (by rw[←hY12];exact List.mem_append_right _ hy)
  clear hX1' hX2' hY1' hY2' hF1 hF2
  have hend:((p+h+q:Nat):Int) - ((p+s:Nat):Int)=((q+t:Nat):Int):=by omega
  repeat refine c_r ?_
  refine rg3 h19 h20 hend ?_
  repeat refine c_r ?_
  refine zas (Q:=fun e σ' ds' v'=>e= .normal∧ds'=[]∧v'=v∧σ' 0= .slice (some ⟨b,0,Option.none⟩) N cap∧σ' 1=vi p∧σ' 2=vi q∧σ' 3=vi r∧σ' 4= .func (.func g) #[] cb.toArray∧σ' 18=vi (p+h:Nat)∧σ' 20=vi (p+s:Nat)∧σ' 24=vi (q+t:Nat)∧σ' 185= .bool (decide (X2≠ []∧Y1≠ []))) ?_ ?_
  ·refine rq ?_;intro gd K hgd hK
   have hg3:∀n σ b,zaE gd n σ (some (3,b))=zap (ev n σ (.tmp 181)) b:=(fun n σ b=>by rw[zag,show gd 3=some 181 from(by rw[hgd];rfl)];rfl)
   by_cases b1:((p+s:Nat):Int)<(q:Int)
   ·have hX2n:X2≠ []:=List.length_pos_iff.1 (by omega)
    by_cases b2:(q:Int)<((q+t:Nat):Int)
    ·have hY1n:Y1≠ []:=List.length_pos_iff.1 (by omega)
     try simp (disch:=first|omega|assumption|rfl) only[go_sem,h20,h2,decide_eq_true b1,decide_eq_true b2,↓hg3]
     refine hK _ _ ?_;clear hK hgd;clear K;try clear gd
     refine⟨rfl,rfl,rfl,(vq1 h0),(vq1 h1),(vq1 h2),(vq1 h3),(vq1 h4),(vq1 h18),(vq1 h20),vq0,?_⟩
     rw[show decide (X2≠ []∧Y1≠ [])=true from decide_eq_true ⟨hX2n,hY1n⟩]
     simp only[go_sem]
    ·have hY1n:Y1=[]:=List.length_eq_zero_iff.1 (by omega)
     try simp (disch:=first|omega|assumption|rfl) only[go_sem,h20,h2,decide_eq_true b1,decide_eq_false b2,↓hg3]
     refine hK _ _ ?_;clear hK hgd;clear K;try clear gd
     refine⟨rfl,rfl,rfl,(vq1 h0),(vq1 h1),(vq1 h2),(vq1 h3),(vq1 h4),(vq1 h18),(vq1 h20),vq0,?_⟩
     rw[show decide (X2≠ []∧Y1≠ [])=false from decide_eq_false (fun hx=>hx.2 hY1n)]
     simp only[go_sem]
   ·have hX2n:X2=[]:=List.length_eq_zero_iff.1 (by omega)
    try simp (disch:=first|omega|assumption|rfl) only[go_sem,h20,h2,decide_eq_false b1,↓hg3]
    refine hK _ _ ?_;clear hK hgd;clear K;try clear gd
    refine⟨rfl,rfl,rfl,(vq1 h0),(vq1 h1),(vq1 h2),(vq1 h3),(vq1 h4),(vq1 h18),(vq1 h20),vq0,?_⟩
    rw[show decide (X2≠ []∧Y1≠ [])=false from decide_eq_false (fun hx=>hx.1 hX2n)]
    simp only[go_sem]
  clear h0 h1 h2 h3 h4 h18 h19 h20 h22
  rintro _ σ2 _ v2 ⟨rfl,rfl,hv2,h0,h1,h2,h3,h4,h18,h20,h24,h185⟩
  rw[hv2]
  clear hv2 v2
  repeat refine c_r ?_
  refine zas (Q:=fun e σ' ds' v'=>e= .normal∧ds'=[]∧σ' 0= .slice (some ⟨b,0,Option.none⟩) N cap∧σ' 1=vi p∧σ' 3=vi r∧σ' 4= .func (.func g) #[] cb.toArray∧σ' 18=vi (p+h:Nat)∧σ' 20=vi (p+s:Nat)∧σ' 24=vi (q+t:Nat)∧
   Lies enc v' b cap (A++X1++Y1++X2++Y2++B)∧Keep (fun i=>i=b) w v') ?_ ?_
  ·refine zbK (by simp only[go_sem,h185];rfl) ?_ ?_
   ·intro hcc
    simp only[decide_eq_true_eq]at hcc
    repeat refine c_r ?_
    refine rq ?_;intro gd K hgd hK
    try simp (disch:=first|omega|assumption|rfl) only[go_sem,h0,h2,h4,h20,h24]
    refine Fn.mono (zlP (p:=p+s) (q:=q) (r:=q+t) (N:=N) (A:=A++X1) (X:=X2) (Y:=Y1) (B:=Y2++B) (D:=D) (by rw[hDe,←hX12,←hY12];simp only[List.append_assoc]) hN (by rw[List.length_append];omega) (by rw[List.length_append];omega) (by rw[List.length_append];omega) hcc.1 hcc.2 hLv hlen) ?_
    rintro _ w1 ⟨hL1,hK1⟩
    try simp only[go_sem]
    refine hK _ _ ?_;clear hK hgd;clear K;try clear gd
    refine⟨rfl,rfl,(vq1 h0),(vq1 h1),(vq1 h3),(vq1 h4),(vq1 h18),(vq1 h20),(vq1 h24),?_,(Ext.keep hEv).trans hK1⟩
    simpa only[List.append_assoc] using hL1
   ·intro hcc
    simp only[decide_eq_false_iff_not]at hcc
    repeat refine c_r ?_
    refine⟨rfl,rfl,h0,h1,h3,h4,h18,h20,h24,?_,Ext.keep hEv⟩
    have:D=A++X1++Y1++X2++Y2++B:=by
     rw[hDe,←hX12,←hY12]
     by_cases hz:X2=[]
     ·rw[hz];simp
     ·have:Y1=[]:=Classical.byContradiction fun hy=>hcc ⟨hz,hy⟩
      rw[this];simp
    rw[←this];exact hLv
  clear h0 h1 h2 h3 h4 h18 h20 h24 h185 hLv hEv
  rintro _ σ3 _ v3 ⟨rfl,rfl,h0,h1,h3,h4,h18,h20,h24,hL3,hK3⟩
  have hE3:Ext w0 v3:=Keep.to_ext hE rfl (fun i hi=>by omega) hK3
  have hL3l:(A++X1++Y1++X2++Y2++B).length=N:=by
   have e1:=congrArg List.length hX12
   have e2:=congrArg List.length hY12
   simp only[List.length_append]at e1 e2 ⊢
   omega
  -- the front half
  repeat refine c_r ?_
  refine zas (Q:=fun e σ' ds' v'=>e= .normal∧ds'=[]∧v'=v3∧σ' 0= .slice (some ⟨b,0,Option.none⟩) N cap∧σ' 1=vi p∧σ' 3=vi r∧σ' 4= .func (.func g) #[] cb.toArray∧σ' 18=vi (p+h:Nat)∧σ' 20=vi (p+s:Nat)∧σ' 24=vi (q+t:Nat)∧σ' 199= .bool (decide (X1≠ []∧Y1≠ []))) ?_ ?_
  ·refine rq ?_;intro gd K hgd hK
   have hg3:∀n σ b,zaE gd n σ (some (3,b))=zap (ev n σ (.tmp 195)) b:=(fun n σ b=>by rw[zag,show gd 3=some 195 from(by rw[hgd];rfl)];rfl)
   by_cases b1:(p:Int)<((p+s:Nat):Int)
   ·have n1:X1≠ []:=List.length_pos_iff.1 (by omega)
    by_cases b2:((p+s:Nat):Int)<((p+h:Nat):Int)
    ·have n2:Y1≠ []:=List.length_pos_iff.1 (by omega)
     try simp (disch:=first|omega|assumption|rfl) only[go_sem,h1,h20,h18,decide_eq_true b1,decide_eq_true b2,↓hg3]
     refine hK _ _ ?_;clear hK hgd;clear K;try clear gd
     refine⟨rfl,rfl,rfl,(vq1 h0),(vq1 h1),(vq1 h3),(vq1 h4),(vq1 h18),(vq1 h20),(vq1 h24),?_⟩
     rw[show decide (X1≠ []∧Y1≠ [])=true from decide_eq_true ⟨n1,n2⟩]
     simp only[go_sem]
    ·have n2:Y1=[]:=List.length_eq_zero_iff.1 (by omega)
     try simp (disch:=first|omega|assumption|rfl) only[go_sem,h1,h20,h18,decide_eq_true b1,decide_eq_false b2,↓hg3]
     refine hK _ _ ?_;clear hK hgd;clear K;try clear gd
     refine⟨rfl,rfl,rfl,(vq1 h0),(vq1 h1),(vq1 h3),(vq1 h4),(vq1 h18),(vq1 h20),(vq1 h24),?_⟩
     rw[show decide (X1≠ []∧Y1≠ [])=false from decide_eq_false (fun hx=>hx.2 n2)]
     simp only[go_sem]
   ·have n1:X1=[]:=List.length_eq_zero_iff.1 (by omega)
    try simp (disch:=first|omega|assumption|rfl) only[go_sem,h1,h20,h18,decide_eq_false b1,↓hg3]
    refine hK _ _ ?_;clear hK hgd;clear K;try clear gd
    refine⟨rfl,rfl,rfl,(vq1 h0),(vq1 h1),(vq1 h3),(vq1 h4),(vq1 h18),(vq1 h20),(vq1 h24),?_⟩
    rw[show decide (X1≠ []∧Y1≠ [])=false from decide_eq_false (fun hx=>hx.1 n1)]
    simp only[go_sem]
  clear h0 h1 h3 h4 h18 h20 h24
  rintro _ σ4 _ v4 ⟨rfl,rfl,hv4,h0,h1,h3,h4,h18,h20,h24,h199⟩
  rw[hv4]
  clear hv4 v4
  repeat refine c_r ?_
  refine zas (Q:=fun e σ' ds' v'=>e= .normal∧ds'=[]∧σ' 0= .slice (some ⟨b,0,Option.none⟩) N cap∧σ' 3=vi r∧σ' 4= .func (.func g) #[] cb.toArray∧σ' 18=vi (p+h:Nat)∧σ' 24=vi (q+t:Nat)∧
   ∃Z1,Z1.Perm (X1++Y1)∧Z1.Pairwise lt∧Lies enc v' b cap (A++Z1++X2++Y2++B)∧Keep (fun i=>i=b) v3 v') ?_ ?_
  ·refine zbK (by simp only[go_sem,h199];rfl) ?_ ?_
   ·intro hcc
    simp only[decide_eq_true_eq]at hcc
    repeat refine c_r ?_
    refine rq ?_;intro gd K hgd hK
    try simp (disch:=first|omega|assumption|rfl) only[go_sem,h0,h1,h18,h4,h20]
    refine Fn.mono (ih v3 _ A X1 Y1 (X2++Y2++B) p (p+s) (p+h) N (by omega) (by simp only[List.append_assoc]) hL3l hp (by omega) (by omega) hcc.1 hcc.2 hUX1 hUY1 hX.1 hY.1 ho1 hL3 hlen hE3) ?_
    rintro _ w1 ⟨⟨Z1,z1,z2,z3⟩,hK1⟩
    try simp only[go_sem]
    refine hK _ _ ?_;clear hK hgd;clear K;try clear gd
    refine⟨rfl,rfl,(vq1 h0),(vq1 h3),(vq1 h4),(vq1 h18),(vq1 h24),Z1,z1,z2,?_,hK1⟩
    simpa only[List.append_assoc] using z3
   ·intro hcc
    simp only[decide_eq_false_iff_not]at hcc
    repeat refine c_r ?_
    refine⟨rfl,rfl,h0,h3,h4,h18,h24,X1++Y1,List.Perm.refl _,?_,by simpa only[List.append_assoc] using hL3,Keep.refl _ _⟩
    by_cases hz:X1=[]
    ·rw[hz];exact hY.1
    ·have:Y1=[]:=Classical.byContradiction fun hy=>hcc ⟨hz,hy⟩
     rw[this,List.append_nil];exact hX.1
  clear h0 h1 h3 h4 h18 h20 h24 h199 hL3
  rintro _ σ5 _ v5 ⟨rfl,rfl,h0,h3,h4,h18,h24,Z1,zp1,zs1,hL5,hK5⟩
  have hE5:Ext w0 v5:=Keep.to_ext hE3 rfl (fun i hi=>by omega) hK5
  have lZ1:Z1.length=h:=by rw[zp1.length_eq,List.length_append];omega
  have hL5l:(A++Z1++X2++Y2++B).length=N:=by
   have e1:=congrArg List.length hX12
   have e2:=congrArg List.length hY12
   simp only[List.length_append]at e1 e2 ⊢
   omega
  have hXY:∀Z2:List α,Z2.Perm (X2++Y2)→Z2.Pairwise lt→(Z1++Z2).Perm (X++Y)∧(Z1++Z2).Pairwise lt:=fun Z2 zp2 zs2=>by
   have:=ziY (by rw[List.pairwise_append];exact hX) (by rw[List.pairwise_append];exact hY) c1 c2 zp1 zp2 zs1 zs2
   rw[hX12,hY12]at this
   exact⟨this.2,this.1⟩
  -- the back half
  repeat refine c_r ?_
  refine zas (Q:=fun e σ' ds' v'=>e= .normal∧ds'=[]∧v'=v5∧σ' 0= .slice (some ⟨b,0,Option.none⟩) N cap∧σ' 3=vi r∧σ' 4= .func (.func g) #[] cb.toArray∧σ' 18=vi (p+h:Nat)∧σ' 24=vi (q+t:Nat)∧σ' 213= .bool (decide (X2≠ []∧Y2≠ []))) ?_ ?_
  ·refine rq ?_;intro gd K hgd hK
   have hg3:∀n σ b,zaE gd n σ (some (3,b))=zap (ev n σ (.tmp 209)) b:=(fun n σ b=>by rw[zag,show gd 3=some 209 from(by rw[hgd];rfl)];rfl)
   by_cases b1:((p+h:Nat):Int)<((q+t:Nat):Int)
   ·have n1:X2≠ []:=List.length_pos_iff.1 (by omega)
    by_cases b2:((q+t:Nat):Int)<(r:Int)
    ·have n2:Y2≠ []:=List.length_pos_iff.1 (by omega)
     try simp (disch:=first|omega|assumption|rfl) only[go_sem,h18,h24,h3,decide_eq_true b1,decide_eq_true b2,↓hg3]
     refine hK _ _ ?_;clear hK hgd;clear K;try clear gd
     refine⟨rfl,rfl,rfl,(vq1 h0),(vq1 h3),(vq1 h4),(vq1 h18),(vq1 h24),?_⟩
     rw[show decide (X2≠ []∧Y2≠ [])=true from decide_eq_true ⟨n1,n2⟩]
     simp only[go_sem]
    ·have n2:Y2=[]:=List.length_eq_zero_iff.1 (by omega)
     try simp (disch:=first|omega|assumption|rfl) only[go_sem,h18,h24,h3,decide_eq_true b1,decide_eq_false b2,↓hg3]
     refine hK _ _ ?_;clear hK hgd;clear K;try clear gd
     refine⟨rfl,rfl,rfl,(vq1 h0),(vq1 h3),(vq1 h4),(vq1 h18),(vq1 h24),?_⟩
     rw[show decide (X2≠ []∧Y2≠ [])=false from decide_eq_false (fun hx=>hx.2 n2)]
     simp only[go_sem]
   ·have n1:X2=[]:=List.length_eq_zero_iff.1 (by omega)
    try simp (disch:=first|omega|assumption|rfl) only[go_sem,h18,h24,h3,decide_eq_false b1,↓hg3]
    refine hK _ _ ?_;clear hK hgd;clear K;try clear gd
    refine⟨rfl,rfl,rfl,(vq1 h0),(vq1 h3),(vq1 h4),(vq1 h18),(vq1 h24),?_⟩
    rw[show decide (X2≠ []∧Y2≠ [])=false from decide_eq_false (fun hx=>hx.1 n1)]
    simp only[go_sem]
  clear h0 h3 h4 h18 h24
  rintro _ σ6 _ v6 ⟨rfl,rfl,hv6,h0,h3,h4,h18,h24,h213⟩
  rw[hv6]
  clear hv6 v6
  repeat refine c_r ?_
  refine zbK (by simp only[go_sem,h213];rfl) ?_ ?_
  ·intro hcc
   simp only[decide_eq_true_eq]at hcc
   repeat refine c_r ?_
   refine rq ?_;intro gd K hgd hK
   try simp (disch:=first|omega|assumption|rfl) only[go_sem,h0,h3,h18,h4,h24]
   refine Fn.mono (ih v5 _ (A++Z1) X2 Y2 B (p+h) (q+t) r N (by omega) rfl hL5l (by rw[List.length_append];omega) (by omega) (by omega) hcc.1 hcc.2 hUX2 hUY2 hX.2.1 hY.2.1 ho2 hL5 hlen hE5) ?_
   rintro _ w1 ⟨⟨Z2,z1,z2,z3⟩,hK1⟩
   try simp only[go_sem]
   refine hK _ _ ?_;clear hK hgd;clear K;try clear gd
   repeat refine c_r ?_
   refine zaw (by simp) rfl ⟨⟨Z1++Z2,(hXY Z2 z1 z2).1,(hXY Z2 z1 z2).2,?_⟩,(hK3.trans hK5).trans hK1⟩
   simpa only[List.append_assoc] using z3
  ·intro hcc
   simp only[decide_eq_false_iff_not]at hcc
   repeat refine c_r ?_
   have hs2:(X2++Y2).Pairwise lt:=by
    by_cases hz:X2=[]
    ·rw[hz];exact hY.2.1
    ·have:Y2=[]:=Classical.byContradiction fun hy=>hcc ⟨hz,hy⟩
     rw[this,List.append_nil];exact hX.2.1
   obtain⟨z1,z2⟩:=hXY (X2++Y2) (List.Perm.refl _) hs2
   refine zaw (by simp) rfl ⟨⟨Z1++(X2++Y2),z1,z2,?_⟩,hK3.trans hK5⟩
   simpa only[List.append_assoc] using hL5
end
end Go.Proofs.YtkpdfhbpdkifoaaGreatDoor.S_rec
namespace Go.Proofs.YtkpdfhbpdkifoaaGreatDoor
open Go
section
variable {α : Type} {lt older : α → α → Prop}
def Rem(s:Nat):List (List α)→Prop
 | []=>True
 | [Z]=>Z.length≤s
 |L::M::Rs=>L.length=s∧Rem s (M::Rs)
theorem zhS{s:Nat}:∀{Ls:List (List α)},Rem s Ls→(∀L∈Ls,L.Pairwise lt)→Ls.flatten.length≤s→Ls.flatten.Pairwise lt
 | [],_,_,_=>List.Pairwise.nil
 | [Z],_,h,_=>by simpa using h Z (by simp)
 |L::M::Rs,hr,h,hl=>by
  have h1:=hr.1
  rw[List.flatten_cons,List.length_append]at hl
  have:(M::Rs).flatten=[]:=List.length_eq_zero_iff.1 (by omega)
  rw[List.flatten_cons,this,List.append_nil]
  exact h L (by simp)
theorem rem_two{s:Nat}(hs:0<s):∀{Ls:List (List α)},Rem s Ls→2*s≤Ls.flatten.length→∃L1 L2 Rs,Ls=L1::L2::Rs∧L1.length=s∧L2.length=s∧Rem s Rs
 | [],_,h=>by simp at h;omega
 | [Z],hr,h=>by
  have:Z.length≤s:=hr
  simp at h;omega
 | [L,M],hr,h=>by
  have h1:L.length=s:=hr.1
  have h2:M.length≤s:=hr.2
  simp at h
  exact⟨L,M,[],rfl,h1,by omega,trivial⟩
 |L::M::K::Rs,hr,h=>⟨L,M,K::Rs,rfl,hr.1,hr.2.1,hr.2.2⟩
theorem rem_one{s:Nat}:∀{Ls:List (List α)},Rem s Ls→s<Ls.flatten.length→Ls.flatten.length<2*s→∃L1 L2,Ls=[L1,L2]∧L1.length=s∧L2≠ []
 | [],_,h,_=>by simp at h
 | [Z],hr,h,_=>by
  have:Z.length≤s:=hr
  simp at h;omega
 | [L,M],hr,h,_=>by
  have h1:L.length=s:=hr.1
  refine⟨L,M,rfl,h1,fun e=>?_⟩
  subst e
  simp at h;omega
 |L::M::K::Rs,hr,_,h=>by
  have h1:=hr.1
  have h2:=hr.2.1
  simp at h;omega
theorem zg3{s:Nat}{Z:List α}(hZ:Z.length≤s):∀{Q:List (List α)},(∀L∈Q,L.length=s)→Rem s (Q++ [Z])
 | [],_=>hZ
 | [L],h=>⟨h L (by simp),hZ⟩
 |L::M::Q,h=>⟨h L (by simp),zg3 hZ (Q:=M::Q) (fun K hK=>h K (List.mem_cons_of_mem _ hK))⟩
def OldC(older:α→α→Prop)(Ls:List (List α)):Prop:=Ls.Pairwise fun L M=>∀x∈L,∀y∈M,older x y
theorem OldC.merge{Q Rs:List (List α)}{L1 L2 Z:List α}(h:OldC older (Q++L1::L2::Rs))(hp:Z.Perm (L1++L2)):OldC older (Q++Z::Rs)∧∀x∈L1,∀y∈L2,older x y:=by
 unfold OldC at*
 rw[List.pairwise_append,List.pairwise_cons,List.pairwise_cons]at h
 obtain⟨h1,⟨h2,h3,h4⟩,h5⟩:=h
 refine⟨?_,h2 L2 (by simp)⟩
 rw[List.pairwise_append,List.pairwise_cons]
 refine⟨h1,⟨fun M hM x hx y hy=>?_,h4⟩,fun L hL M hM x hx y hy=>?_⟩
 ·rcases List.mem_append.1 (hp.mem_iff.1 hx) with hx|hx
  ·exact h2 M (List.mem_cons_of_mem _ hM) x hx y hy
  ·exact h3 M hM x hx y hy
 ·rcases List.mem_cons.1 hM with rfl|hM
  ·rcases List.mem_append.1 (hp.mem_iff.1 hy) with hy|hy
   ·exact h5 L hL L1 (by simp) x hx y hy
   ·exact h5 L hL L2 (by simp) x hx y hy
  ·exact h5 L hL M (by simp[hM]) x hx y hy
theorem OldC.perm{Q Rs:List (List α)}{X Z:List α}(h:OldC older (Q++X::Rs))(hp:Z.Perm X):OldC older (Q++Z::Rs):=by
 unfold OldC at*
 rw[List.pairwise_append,List.pairwise_cons]at h ⊢
 obtain⟨h1,⟨h2,h4⟩,h5⟩:=h
 refine⟨h1,⟨fun M hM x hx y hy=>h2 M hM x (hp.mem_iff.1 hx) y hy,h4⟩,fun L hL M hM x hx y hy=>?_⟩
 rcases List.mem_cons.1 hM with rfl|hM
 ·exact h5 L hL X (by simp) x hx y (hp.mem_iff.1 hy)
 ·exact h5 L hL M (by simp[hM]) x hx y hy
theorem OldC.split{Q:List (List α)}{X R:List α}(h:OldC older (Q++ [X++R]))(hx:(X++R).Pairwise older):OldC older (Q++ [X,R]):=by
 unfold OldC at*
 rw[List.pairwise_append]at h hx ⊢
 refine⟨h.1,List.pairwise_cons.2 ⟨fun M hM x hx' y hy=>?_,List.pairwise_singleton _ _⟩,fun L hL M hM x hx' y hy=>?_⟩
 ·rw[List.mem_singleton.1 hM]at hy;exact hx.2.2 x hx' y hy
 ·rcases List.mem_cons.1 hM with rfl|hM
  ·exact h.2.2 L hL _ (List.mem_singleton.2 rfl) x hx' y (List.mem_append_left _ hy)
  ·rw[List.mem_singleton.1 hM]at hy
   exact h.2.2 L hL _ (List.mem_singleton.2 rfl) x hx' y (List.mem_append_right _ hy)
theorem OldC.join{Q Rs:List (List α)}(h:OldC older (Q++Rs)):OldC older (Q++ [Rs.flatten]):=by
 unfold OldC at*
 rw[List.pairwise_append]at h ⊢
 refine⟨h.1,List.pairwise_singleton _ _,fun L hL M hM x hx y hy=>?_⟩
 rw[List.mem_singleton.1 hM]at hy
 obtain⟨K,hK,hy⟩:=List.mem_flatten.1 hy
 exact h.2.2 L hL K hK x hx y hy
end
end Go.Proofs.YtkpdfhbpdkifoaaGreatDoor
namespace Go.Proofs.YtkpdfhbpdkifoaaGreatDoor.S_rec
open Go Go.Proofs.YtkpdfhbpdkifoaaGreatDoor
set_option maxRecDepth 10000
section
variable {α : Type} {enc : α → List Value}
theorem zlE{w0 w:World}{b cap:Nat}{U:α→Prop}{cf:α→α→Int}{lt older:α→α→Prop}{g:FuncId}{cb:List Value}(hc:Cmp w0 enc U cf g cb)(ho:ziL cf lt older)(hb:w0.heap.size≤b)
  {D:List α} {N:Nat} (hN:D.length=N) (hU:∀x∈D,U x) (hOD:D.Pairwise older) (hD:Lies enc w b cap D) (hlen:N≤100000000000) (hE:Ext w0 w):
  Fn Tryz.prog 99 #[zdp b N cap,vi N,cmpV g cb] w (fun _ w'=>(∃Z,Z.Perm D∧Z.Pairwise lt∧Lies enc w' b cap Z)∧Keep (fun i=>i=b) w w'):=by
 unfold zdp cmpV
 refine enter Tryz.func99 Tryz.ntmps99 rfl rfl ?_
 repeat refine c_r ?_
 refine rg0 ?_
 repeat refine c_r ?_
 refine rg0 ?_
 repeat refine c_r ?_
 refine zaD (fun m σ ds v=>ds=[]∧∃(P:List (List α)) (R:List α),R.length=m∧(∀L∈P,L.length=20)∧(∀L∈P,L.Pairwise lt)∧OldC older (P++ [R])∧R.Pairwise older∧(P.flatten++R).Perm D∧σ 6=vi 20∧σ 7=vi P.flatten.length∧σ 8=vi (P.flatten.length+20:Nat)∧σ 0= .slice (some ⟨b,0,Option.none⟩) N cap∧σ 1=vi N∧σ 2= .func (.func g) #[] cb.toArray∧
  Lies enc v b cap (P.flatten++R)∧Keep (fun i=>i=b) w v) D.length ?_ ?_
 ·refine⟨rfl,[],D,rfl,fun L h=>(by cases h),fun L h=>(by cases h),List.pairwise_singleton _ _,hOD,List.Perm.refl _,vq0,?_,?_,vq0,vq0,vq0,hD,Keep.refl _ _⟩
  ·simp only[go_sem];rfl
  ·simp only[go_sem];rfl
 rintro m σ ds v ⟨rfl,P,R,hm,hP20,hPs,hOC,hRo,hperm,h6,h7,h8,h0,h1,h2,hL,hK⟩
 have hE0:Ext w0 v:=Keep.to_ext hE rfl (fun i hi=>by omega) hK
 have hl:=hperm.length_eq
 rw[List.length_append,hN]at hl
 have hUR:∀x∈R,U x:=fun x hx=>hU x (hperm.mem_iff.1 (List.mem_append_right _ hx))
 repeat refine c_r ?_
 refine rg2 h8 h1 ?_
 repeat refine c_r ?_
 refine wc0 ?_ ?_
 ·intro hle
  simp only[decide_eq_true_eq]at hle
  have hR20:20≤R.length:=by omega
  obtain⟨X,hX⟩:∃X,R.take 20=X:=⟨_,rfl⟩
  obtain⟨R',hR'⟩:∃R',R.drop 20=R':=⟨_,rfl⟩
  have hXR:X++R'=R:=by rw[←hX,←hR'];exact List.take_append_drop _ _
  have hXl:X.length=20:=by rw[←hX];simp;omega
  rw[←hXR]at hRo hOC
  have hOC2:=hOC.split hRo
  rw[List.pairwise_append]at hRo
  repeat refine c_r ?_
  refine rq ?_;intro gd K hgd hK
  try simp (disch:=first|omega|assumption|rfl) only[go_sem,h0,h7,h8,h2]
  refine Fn.mono (zda hc ho (D:=P.flatten++R) (A:=P.flatten) (X:=X) (B:=R') (p:=P.flatten.length) (q:=P.flatten.length+20) (N:=N) (by rw[←hXR,List.append_assoc]) (by rw[List.length_append];omega) rfl (by omega) (fun x hx=>hUR x (by rw[←hXR];exact List.mem_append_left _ hx)) hRo.1 hL (by omega) hE0 hb) ?_
  rintro _ w1 ⟨⟨Z,z1,z2,z3⟩,hK1⟩
  try simp only[go_sem]
  refine hK _ _ ?_;clear hK hgd;clear K;try clear gd
  have hzl:=z1.length_eq
  have hfl:(P++ [Z]).flatten.length=P.flatten.length+20:=by simp;omega
  repeat refine c_r ?_
  refine rg1 h8 ?_
  repeat refine c_r ?_
  refine rg2 h8 h6 ?_
  repeat refine c_r ?_
  refine⟨R'.length,by rw[←hR'];simp;omega,rfl,P++ [Z],R',rfl,fun L hL=>?_,fun L hL=>?_,?_,hRo.2.1,?_,(vq1 h6),(vq1 hfl),by simp only[go_sem,hfl];push_cast;rfl,(vq1 h0),(vq1 h1),(vq1 h2),?_,hK.trans hK1⟩
  ·rcases List.mem_append.1 hL with hL|hL
   ·exact hP20 L hL
   ·rw[List.mem_singleton.1 hL];omega
  ·rcases List.mem_append.1 hL with hL|hL
   ·exact hPs L hL
   ·rw[List.mem_singleton.1 hL];exact z2
  ·have:=hOC2.perm z1
   rw[List.append_assoc];exact this
  ·refine List.Perm.trans ?_ hperm
   rw[←hXR]
   have:(P++ [Z]).flatten++R'=P.flatten++(Z++R'):=by simp
   rw[this]
   exact List.Perm.append_left _ (List.Perm.append_right _ z1)
  ·have:(P++ [Z]).flatten++R'=P.flatten++Z++R':=by simp
   rw[this];exact z3
 intro hgt
 simp only[decide_eq_false_iff_not]at hgt
 have hR20:R.length<20:=by omega
 repeat refine c_r ?_
 refine rq ?_;intro gd K hgd hK
 try simp (disch:=first|omega|assumption|rfl) only[go_sem,h0,h7,h1,h2]
 refine Fn.mono (zda hc ho (D:=P.flatten++R) (A:=P.flatten) (X:=R) (B:=[]) (p:=P.flatten.length) (q:=N) (N:=N) (by simp) (by rw[List.length_append];omega) rfl (by omega) hUR hRo hL (by omega) hE0 hb) ?_
 rintro _ w1 ⟨⟨Z,z1,z2,z3⟩,hK1⟩
 try simp only[go_sem]
 refine hK _ _ ?_;clear hK hgd;clear K;try clear gd
 have hE1:Ext w0 w1:=Keep.to_ext hE0 rfl (fun i hi=>by omega) hK1
 have hzl:=z1.length_eq
 repeat refine c_r ?_
 refine zaD (fun m σ ds v=>ds=[]∧∃(s:Nat) (Ls:List (List α)),N - s=m∧0<s∧Rem s Ls∧(∀L∈Ls,L.Pairwise lt)∧OldC older Ls∧Ls.flatten.Perm D∧σ 6=vi s∧σ 0= .slice (some ⟨b,0,Option.none⟩) N cap∧σ 1=vi N∧σ 2= .func (.func g) #[] cb.toArray∧
  Lies enc v b cap Ls.flatten∧Keep (fun i=>i=b) w v) (N - 20) ?_ ?_
 ·refine⟨rfl,20,P++ [Z],rfl,by omega,zg3 (by omega) hP20,fun L hL=>?_,hOC.perm z1,?_,by simp only[go_sem,h6];rfl,(vq1 h0),(vq1 h1),(vq1 h2),?_,hK.trans hK1⟩
  ·rcases List.mem_append.1 hL with hL|hL
   ·exact hPs L hL
   ·rw[List.mem_singleton.1 hL];exact z2
  ·refine List.Perm.trans ?_ hperm
   have:(P++ [Z]).flatten=P.flatten++Z:=by simp
   rw[this];exact List.Perm.append_left _ z1
  ·have:(P++ [Z]).flatten=P.flatten++Z++ []:=by simp
   rw[this];exact z3
 clear h6 h7 h8 h0 h1 h2 hL hOC hperm hl z3
 rintro m1 σ ds v1 ⟨rfl,s,Ls,hms,hs0,hrem,hsorted,hOC,hperm,h6,h0,h1,h2,hL,hK2⟩
 have hE2:Ext w0 v1:=Keep.to_ext hE rfl (fun i hi=>by omega) hK2
 have hl:=hperm.length_eq
 rw[hN]at hl
 repeat refine c_r ?_
 refine rg2 h6 h1 ?_
 repeat refine c_r ?_
 refine wc0 ?_ ?_
 ·intro hlt
  simp only[decide_eq_true_eq]at hlt
  have h2s:(2:Int)*s=((2*s:Nat):Int):=by push_cast;rfl
  repeat refine c_r ?_
  refine rg2 h6 h2s ?_
  repeat refine c_r ?_
  refine zaD (fun m σ ds v=>ds=[]∧∃(Q Rs:List (List α)),Rs.flatten.length=m∧(∀L∈Q,L.length=2*s)∧Rem s Rs∧(∀L∈Q++Rs,L.Pairwise lt)∧OldC older (Q++Rs)∧(Q++Rs).flatten.Perm D∧σ 6=vi s∧σ 7=vi Q.flatten.length∧σ 8=vi (Q.flatten.length+2*s:Nat)∧σ 0= .slice (some ⟨b,0,Option.none⟩) N cap∧σ 1=vi N∧σ 2= .func (.func g) #[] cb.toArray∧
   Lies enc v b cap (Q++Rs).flatten∧Keep (fun i=>i=b) w v) N ?_ ?_
  ·refine⟨rfl,[],Ls,hl,fun L h=>(by cases h),hrem,hsorted,hOC,hperm,(vq1 h6),?_,?_,(vq1 h0),(vq1 h1),(vq1 h2),hL,hK2⟩
   ·simp only[go_sem];rfl
   ·simp only[go_sem];push_cast;simp
  clear h6 h0 h1 h2 hL hrem hsorted hOC hperm
  rintro m2 σ ds v2 ⟨rfl,Q,Rs,hm2,hQl,hrem,hsorted,hOC,hperm,h6,h7,h8,h0,h1,h2,hL,hK3⟩
  have hE3:Ext w0 v2:=Keep.to_ext hE rfl (fun i hi=>by omega) hK3
  have hl3:=hperm.length_eq
  rw[hN,List.flatten_append,List.length_append]at hl3
  have hUQ:∀L∈Q++Rs,∀x∈L,U x:=fun L hL x hx=>hU x (hperm.mem_iff.1 (List.mem_flatten.2 ⟨L,hL,hx⟩))
  repeat refine c_r ?_
  refine rg2 h8 h1 ?_
  repeat refine c_r ?_
  refine wc0 ?_ ?_
  ·intro hle
   simp only[decide_eq_true_eq]at hle
   obtain⟨L1,L2,Rs',rfl,l1,l2,hrem'⟩:=rem_two hs0 hrem (by omega)
   have has:(Q.flatten.length:Int)+s=((Q.flatten.length+s:Nat):Int):=by push_cast;rfl
   have n1:L1≠ []:=List.length_pos_iff.1 (by omega)
   have n2:L2≠ []:=List.length_pos_iff.1 (by omega)
   have hold12:=(hOC.merge (List.Perm.refl (L1++L2))).2
   repeat refine c_r ?_
   refine rq ?_;intro gd K hgd hK
   try simp (disch:=first|omega|assumption|rfl) only[go_sem,h0,h7,h6,h8,h2,has]
   refine Fn.mono (zfC hc ho hb (L1.length+L2.length) v2 (Q++L1::L2::Rs').flatten Q.flatten L1 L2 Rs'.flatten Q.flatten.length (Q.flatten.length+s) (Q.flatten.length+2*s) N (Nat.le_refl _) (by simp) (by rw[List.flatten_append,List.length_append];exact hl3) rfl (by omega) (by omega) n1 n2
    (hUQ L1 (by simp)) (hUQ L2 (by simp)) (hsorted L1 (by simp)) (hsorted L2 (by simp)) hold12 hL (by omega) hE3) ?_
   rintro _ w2 ⟨⟨Z,z1,z2,z3⟩,hK4⟩
   try simp only[go_sem]
   refine hK _ _ ?_;clear hK hgd;clear K;try clear gd
   have hzl2:=z1.length_eq
   rw[List.length_append]at hzl2
   have hfl:(Q++ [Z]).flatten.length=Q.flatten.length+2*s:=by simp;omega
   repeat refine c_r ?_
   refine rg1 h8 ?_
   repeat refine c_r ?_
   refine rg3 h8 h6 h2s ?_
   repeat refine c_r ?_
   have hfr:(L1::L2::Rs').flatten.length=s+(s+Rs'.flatten.length):=by simp only[List.flatten_cons,List.length_append];omega
   refine⟨Rs'.flatten.length,by omega,rfl,Q++ [Z],Rs',rfl,fun L hL=>?_,hrem',fun L hL=>?_,?_,?_,(vq1 h6),(vq1 hfl),by simp only[go_sem,hfl];push_cast;rfl,(vq1 h0),(vq1 h1),(vq1 h2),?_,hK3.trans hK4⟩
   ·rcases List.mem_append.1 hL with hL|hL
    ·exact hQl L hL
    ·rw[List.mem_singleton.1 hL];omega
   ·rcases List.mem_append.1 hL with hL|hL
    ·rcases List.mem_append.1 hL with hL|hL
     ·exact hsorted L (by simp[hL])
     ·rw[List.mem_singleton.1 hL];exact z2
    ·exact hsorted L (by simp[hL])
   ·have:=(hOC.merge z1).1
    rw[List.append_assoc];exact this
   ·refine List.Perm.trans ?_ hperm
    have e1:(Q++ [Z]++Rs').flatten=Q.flatten++(Z++Rs'.flatten):=by simp
    have e2:(Q++L1::L2::Rs').flatten=Q.flatten++((L1++L2)++Rs'.flatten):=by simp
    rw[e1,e2]
    exact List.Perm.append_left _ (List.Perm.append_right _ z1)
   ·have e1:(Q++ [Z]++Rs').flatten=Q.flatten++Z++Rs'.flatten:=by simp
    rw[e1];exact z3
  intro hgt2
  simp only[decide_eq_false_iff_not]at hgt2
  have has:(Q.flatten.length:Int)+s=((Q.flatten.length+s:Nat):Int):=by push_cast;rfl
  repeat refine c_r ?_
  refine rg3 h7 h6 has ?_
  repeat refine c_r ?_
  refine rg1 h1 ?_
  repeat refine c_r ?_
  refine zas (Q:=fun e σ' ds' v'=>e= .normal∧ds'=[]∧σ' 6=vi s∧σ' 0= .slice (some ⟨b,0,Option.none⟩) N cap∧σ' 1=vi N∧σ' 2= .func (.func g) #[] cb.toArray∧
   ∃Z,Z.Perm Rs.flatten∧Z.Pairwise lt∧Lies enc v' b cap (Q++ [Z]).flatten∧Keep (fun i=>i=b) w v') ?_ ?_
  ·refine wc0 ?_ ?_
   ·intro hlt2
    simp only[decide_eq_true_eq]at hlt2
    obtain⟨L1,L2,rfl,l1,n2⟩:=rem_one hrem (by omega) (by omega)
    have n1:L1≠ []:=List.length_pos_iff.1 (by omega)
    have hold12:=(hOC.merge (List.Perm.refl (L1++L2))).2
    have hfr:[L1,L2].flatten.length=s+L2.length:=by simp;omega
    repeat refine c_r ?_
    refine rq ?_;intro gd K hgd hK
    try simp (disch:=first|omega|assumption|rfl) only[go_sem,h0,h7,h1,h2]
    refine Fn.mono (zfC hc ho hb (L1.length+L2.length) v2 (Q++ [L1,L2]).flatten Q.flatten L1 L2 [] Q.flatten.length (Q.flatten.length+s) N N (Nat.le_refl _) (by simp) (by rw[List.flatten_append,List.length_append];exact hl3) rfl (by omega) (by omega) n1 n2
     (hUQ L1 (by simp)) (hUQ L2 (by simp)) (hsorted L1 (by simp)) (hsorted L2 (by simp)) hold12 hL (by omega) hE3) ?_
    rintro _ w2 ⟨⟨Z,z1,z2,z3⟩,hK4⟩
    try simp only[go_sem]
    refine hK _ _ ?_;clear hK hgd;clear K;try clear gd
    refine⟨rfl,rfl,(vq1 h6),(vq1 h0),(vq1 h1),(vq1 h2),Z,by simpa using z1,z2,?_,hK3.trans hK4⟩
    have e1:(Q++ [Z]).flatten=Q.flatten++Z++ []:=by simp
    rw[e1];exact z3
   ·intro hge2
    simp only[decide_eq_false_iff_not]at hge2
    repeat refine c_r ?_
    refine⟨rfl,rfl,(vq1 h6),(vq1 h0),(vq1 h1),(vq1 h2),Rs.flatten,List.Perm.refl _,zhS hrem (fun L hL=>hsorted L (by simp[hL])) (by omega),?_,hK3⟩
    have e1:(Q++ [Rs.flatten]).flatten=(Q++Rs).flatten:=by simp
    rw[e1];exact hL
  clear h6 h7 h8 h0 h1 h2 hL
  rintro _ σ3 _ v3 ⟨rfl,rfl,h6,h0,h1,h2,Z,zp,zs,hL,hK5⟩
  have hzl3:=zp.length_eq
  have hs2:(s:Int)*2=((2*s:Nat):Int):=by push_cast;omega
  repeat refine c_r ?_
  refine rg2 h6 hs2 ?_
  repeat refine c_r ?_
  refine⟨N - 2*s,by omega,rfl,2*s,Q++ [Z],rfl,by omega,zg3 (by omega) hQl,fun L hL=>?_,hOC.join.perm zp,?_,vq0,(vq1 h0),(vq1 h1),(vq1 h2),hL,hK5⟩
  ·rcases List.mem_append.1 hL with hL|hL
   ·exact hsorted L (by simp[hL])
   ·rw[List.mem_singleton.1 hL];exact zs
  ·refine List.Perm.trans ?_ hperm
   have e1:(Q++ [Z]).flatten=Q.flatten++Z:=by simp
   rw[e1,List.flatten_append]
   exact List.Perm.append_left _ zp
 intro hge
 simp only[decide_eq_false_iff_not]at hge
 repeat refine c_r ?_
 exact zaw (by simp) rfl ⟨⟨Ls.flatten,hperm,zhS hrem hsorted (by omega),hL⟩,hK2⟩
theorem zhz{w0 w:World}{b cap:Nat}{U:α→Prop}{cf:α→α→Int}{lt older:α→α→Prop}{g:FuncId}{cb:List Value}(hc:Cmp w0 enc U cf g cb)(ho:ziL cf lt older)(hb:w0.heap.size≤b)
  {D:List α} {N:Nat} (hN:D.length=N) (hU:∀x∈D,U x) (hOD:D.Pairwise older) (hD:Lies enc w b cap D) (hlen:N≤100000000000) (hE:Ext w0 w):
  Fn Tryz.prog 64 #[zdp b N cap,cmpV g cb] w (fun _ w'=>(∃Z,Z.Perm D∧Z.Pairwise lt∧Lies enc w' b cap Z)∧Keep (fun i=>i=b) w w'):=by
 have h:=zlE (w:=w) hc ho hb hN hU hOD hD hlen hE
 unfold zdp at h ⊢
 refine enter Tryz.func64 Tryz.ntmps64 rfl rfl ?_
 repeat refine c_r ?_
 refine rq ?_;intro gd K hgd hK
 try simp only[go_sem]
 refine Fn.mono h ?_
 rintro _ w1 hr
 try simp only[go_sem]
 refine hK _ _ ?_;clear hK hgd;clear K;try clear gd
 repeat refine c_r ?_
 exact zaw (by simp) rfl hr
end
theorem Clip_ok{w:World}{v:Value}{L:List (List Value)}(hr:RowK 7 w v L):Fn Tryz.prog 33 #[v] w (fun u w'=>RowK 7 w' u L∧w'=w):=by
 obtain⟨a,c,rfl,hc,hl⟩:=hr
 refine enter Tryz.func33 Tryz.ntmps33 rfl rfl ?_
 repeat refine c_r ?_
 refine rg0 ?_
 repeat refine c_r ?_
 refine rq ?_;intro gd K hgd hK
 try simp only[go_sem]
 have hcl:slD Tryz.prog (some (TypeDesc.slice 49)) (Value.slice a L.length c) Option.none (some (Value.int IntKind.i64 ↑L.length)) (some (Value.int IntKind.i64 ↑L.length))=some (.slice a L.length L.length):=zlM hc (by rfl)
 rw[hcl]
 try simp only[go_sem]
 refine hK _ _ ?_;clear hK hgd;clear K;try clear gd
 repeat refine c_r ?_
 refine rt0 Tryz.ntmps33 ?_
 exact⟨⟨a,L.length,rfl,Nat.le_refl _,hl⟩,rfl⟩
theorem Clone_ok{w:World}{v:Value}{L:List (List Value)}(hr:RowK 7 w v L)(hk:∀x∈L,x.length=7)(h1:∀x∈L,∀q∈x,one q=true)(hlen:L.length≤10000000000):
  Fn Tryz.prog 63 #[v] w (fun u w'=>OwnK 7 w.heap.size w' 49 u L∧Ext w w'):=by
 have hr':=hr
 obtain⟨a,c,rfl,hc,hl⟩:=hr
 refine enter Tryz.func63 Tryz.ntmps63 rfl rfl ?_
 repeat refine c_r ?_
 refine rg0 ?_
 repeat refine c_r ?_
 refine rq ?_;intro gd K hgd hK
 try simp only[go_sem]
 refine zje (by rfl) (by rfl) (by rfl) ?_
 try simp only[go_sem]
 refine hK _ _ ?_;clear hK hgd;clear K;try clear gd
 repeat refine c_r ?_
 cases a with
 |none=>
  have:L=[]:=by
   cases L with
   |nil=>rfl
   |cons x L=>have:=hl 0 (by simp);simp[zar,adr]at this
  subst this
  refine wc0 ?_ ?_
  ·intro _
   repeat refine c_r ?_
   refine rg0 ?_
   repeat refine c_r ?_
   refine rt0 Tryz.ntmps63 ?_
   exact⟨OwnK.nil _ _ _ _,Keep.refl _ _⟩
  ·intro h;cases h
 |some a=>
  refine wc0 ?_ ?_
  ·intro h;cases h
  intro _
  repeat refine c_r ?_
  refine rq ?_;intro gd K hgd hK
  try simp only[go_sem]
  refine zjj (k:=7) (by rfl) (by rfl) (by rfl) (by rfl) ?_
  intro w1 hE1 hs1 ho1
  try simp only[go_sem]
  refine zg9 (k:=7) (B:=w.heap.size) ho1 (hr'.ext hE1) (by rfl) (by rfl) (by rfl) (by rfl) (by rfl) (by rfl) (by decide) (by rfl) (by rfl) hk h1 (by simpa using by omega) (by decide) (by omega) ?_
  intro v' w2 ho2 hE2 _ _ _
  try simp only[go_sem]
  refine hK _ _ ?_;clear hK hgd;clear K;try clear gd
  repeat refine c_r ?_
  refine rt0 Tryz.ntmps63 ?_
  exact⟨by simpa using ho2,hE2 w hE1 (Nat.le_refl _)⟩
theorem zeR(w:World)(cmp:Value):Fn Tryz.prog 139 #[.slice Option.none 0 0,vi 0,vi 0,cmp] w (fun _ w'=>w'=w):=by
 refine enter Tryz.func139 Tryz.ntmps139 rfl rfl ?_
 repeat (first|refine c_r ?_|refine rg0 ?_)
 refine zaD (fun m σ ds v=>ds=[]∧v=w∧σ 8=vi 1∧σ 2=vi 0) 0 ?_ ?_
 ·exact⟨rfl,rfl,by simp only[go_sem];rfl,vq0⟩
 ·rintro m σ ds v ⟨rfl,rfl,h8,h2⟩
  repeat refine c_r ?_
  refine rg2 h8 h2 ?_
  repeat refine c_r ?_
  refine wc0 ?_ ?_
  ·intro h;exact absurd h (by decide)
  ·intro _
   repeat refine c_r ?_
   exact zaw (by simp) rfl rfl
theorem zkx(w:World)(cmp:Value):Fn Tryz.prog 99 #[.slice Option.none 0 0,vi 0,cmp] w (fun _ w'=>w'=w):=by
 refine enter Tryz.func99 Tryz.ntmps99 rfl rfl ?_
 repeat refine c_r ?_
 refine rg0 ?_
 repeat refine c_r ?_
 refine rg0 ?_
 repeat refine c_r ?_
 refine zaD (fun m σ ds v=>ds=[]∧v=w∧σ 6=vi 20∧σ 7=vi 0∧σ 8=vi 20∧σ 0= .slice Option.none 0 0∧σ 1=vi 0∧σ 2=cmp) 0 ?_ ?_
 ·exact⟨rfl,rfl,vq0,vq0,vq0,vq0,vq0,vq0⟩
 ·rintro m σ ds v ⟨rfl,rfl,h6,h7,h8,h0,h1,h2⟩
  repeat refine c_r ?_
  refine rg2 h8 h1 ?_
  repeat refine c_r ?_
  refine wc0 ?_ ?_
  ·intro h;exact absurd h (by decide)
  intro _
  repeat refine c_r ?_
  refine rq ?_;intro gd K hgd hK
  try simp (disch:=first|omega|assumption|rfl) only[go_sem,h0,h7,h1,h2]
  refine Fn.mono (zeR v cmp) ?_
  rintro _ w1 hw1
  subst hw1
  try simp only[go_sem]
  refine hK _ _ ?_;clear hK hgd;clear K;try clear gd
  repeat refine c_r ?_
  refine zaD (fun m σ ds v=>ds=[]∧v=w1∧σ 6=vi 20∧σ 1=vi 0) 0 ?_ ?_
  ·exact⟨rfl,rfl,(vq1 h6),(vq1 h1)⟩
  ·rintro m3 σ3 ds3 v3 ⟨rfl,rfl,g6,g1⟩
   repeat refine c_r ?_
   refine rg2 g6 g1 ?_
   repeat refine c_r ?_
   refine wc0 ?_ ?_
   ·intro h;exact absurd h (by decide)
   ·intro _
    repeat refine c_r ?_
    exact zaw (by simp) rfl rfl
theorem zgu(w:World)(cmp:Value):Fn Tryz.prog 64 #[.slice Option.none 0 0,cmp] w (fun _ w'=>w'=w):=by
 refine enter Tryz.func64 Tryz.ntmps64 rfl rfl ?_
 repeat refine c_r ?_
 refine rq ?_;intro gd K hgd hK
 try simp only[go_sem]
 refine Fn.mono (zkx w cmp) ?_
 rintro _ w1 hr
 try simp only[go_sem]
 refine hK _ _ ?_;clear hK hgd;clear K;try clear gd
 repeat refine c_r ?_
 exact zaw (by simp) rfl hr
section
variable {α : Type} {enc : α → List Value}
theorem SortOwn_ok{w0 w:World}{B:Nat}{v:Value}{U:α→Prop}{cf:α→α→Int}{lt older:α→α→Prop}{g:FuncId}{cb:List Value}(hc:Cmp w0 enc U cf g cb)(ho:ziL cf lt older)(hB:w0.heap.size≤B)
  {D:List α} (hU:∀x∈D,U x) (hOD:D.Pairwise older) (hD:OwnK 7 B w 49 v (D.map enc)) (hlen:D.length≤100000000000) (hE:Ext w0 w):
  Fn Tryz.prog 64 #[v,cmpV g cb] w (fun _ w'=>∃Z:List α,Z.Perm D∧Z.Pairwise lt∧OwnK 7 B w' 49 v (Z.map enc)∧Keep (fun i=>some i=v.ownBlock) w w'):=by
 rcases hD.cases with ⟨rfl,h0⟩| ⟨b,cap,rfl,hb,hc2,hm,hSD⟩
 ·have:D=[]:=List.map_eq_nil_iff.1 h0
  subst this
  refine Fn.mono (zgu w _) ?_
  rintro _ w1 rfl
  exact⟨[],List.Perm.refl _,List.Pairwise.nil,OwnK.nil _ _ _ _,Keep.refl _ _⟩
 ·rw[List.length_map]at hc2 ⊢
  refine Fn.mono (zhz (b:=b) (cap:=cap) (lt:=lt) hc ho (by omega) rfl hU hOD hSD hlen hE) ?_
  rintro _ w1 ⟨⟨Z,hp,hs,hL⟩,hK⟩
  refine⟨Z,hp,hs,?_,?_⟩
  ·have:=OwnK.of_sd (B:=B) hL hb (by rw[List.length_map,hp.length_eq];exact hc2) hm
   rw[List.length_map,hp.length_eq]at this
   exact this
  ·have:(fun i=>some i=(Value.slice (some ⟨b,0,Option.none⟩) D.length cap).ownBlock)=(fun i=>i=b):=by
    funext i;simp[Value.ownBlock]
   rw[this];exact hK
end
end Go.Proofs.YtkpdfhbpdkifoaaGreatDoor.S_rec
namespace Go.Proofs.YtkpdfhbpdkifoaaGreatDoor
open Go
set_option maxRecDepth 10000
def RecsAt(w:World)(v:Value)(R:List RecL):Prop:=Rows 7 (RecAt w) w v R
theorem RecAt.len{w:World}{cs:List Value}{r:RecL}(h:RecAt w cs r):cs.length=7:=by
 obtain⟨ow,ds,rfl,_,⟨nm,nu,tx,rw',rfl,_⟩⟩:=h.ex
 rfl
theorem RecAt.ones{w:World}{cs:List Value}{r:RecL}(h:RecAt w cs r):∀q∈cs,one q=true:=by
 obtain⟨ow,ds,rfl,⟨o1,o2,rfl,_⟩,⟨nm,nu,tx,rw',rfl,⟨_,⟨o3,o4,rfl,_⟩,_⟩,⟨o5,o6,rfl,_⟩,⟨o7,o8,rfl,_⟩,⟨o9,o10,rfl,_⟩⟩⟩:=h.ex
 intro q hq
 simp at hq
 rcases hq with rfl|rfl|rfl|rfl|rfl|rfl|rfl<;>rfl
abbrev RI:=(List Value×RecL)×Nat
def encR(x:RI):List Value:=x.1.1
def zh7(a b:RI):Prop:=a.2<b.2
def ltR(a b:RI):Prop:=zaA a.1.2 b.1.2<0∨(zaA a.1.2 b.1.2=0∧a.2<b.2)
def cfR(a b:RI):Int:=zaA a.1.2 b.1.2
def UR(w:World)(x:RI):Prop:=RecAt w x.1.1 x.1.2∧zby x.1.2
theorem cmp_R{w0 w:World}(hE0:Ext w0 w):S_rec.Cmp w encR (UR w0) cfR 38 []:=
 ⟨by decide,fun A x y hE hx hy=>zc6 A _ _ _ _ (hx.1.ext (hE0.trans hE)) (hy.1.ext (hE0.trans hE)) hx.2 hy.2⟩
theorem older_R:ziL cfR ltR zh7:=by
 refine⟨fun {a b c} h1 h2=>?_,fun {x y} ho h=> .inl h,fun {x y} ho h=>?_⟩
 ·rcases h1 with h1| ⟨h1,g1⟩<;>rcases h2 with h2| ⟨h2,g2⟩
  ·exact .inl (cpr_R.trans h1 h2)
  ·exact .inl (by rw[←cpr_R.eqr h2];exact h1)
  ·exact .inl (by rw[cpr_R.eql h1];exact h2)
  ·exact .inr ⟨by rw[cpr_R.eql h1];exact h2,by omega⟩
 ·have:=cpr_R.neg x.1.2 y.1.2
  have h':¬zaA y.1.2 x.1.2<0:=h
  by_cases h0:zaA x.1.2 y.1.2=0
  ·exact .inr ⟨h0,ho⟩
  ·exact .inl (by omega)
def zeroR:List Value:=[.slice Option.none 0 0,v32 0,vi 0,.slice Option.none 0 0,.slice Option.none 0 0,.slice Option.none 0 0,.slice Option.none 0 0]
theorem sd_zero(w:World):SD 7 (w.alloc (.cells #[.slice Option.none 0 0,v32 0,vi 0,.slice Option.none 0 0,.slice Option.none 0 0,.slice Option.none 0 0,.slice Option.none 0 0] 49 (0,0))) w.heap.size 49 1 [zeroR]:=
 ⟨⟨_,[],zat _ _,rfl,rfl⟩,fun x h=>(by rw[List.mem_singleton.1 h];rfl),fun x h v hv=>(by rw[List.mem_singleton.1 h]at hv;simp[zeroR]at hv;rcases hv with rfl|rfl|rfl|rfl<;>rfl)⟩
def ze6(O:List RecL)(r:RecL):Bool:=match O.getLast? with
 |some x=>decide (zaA x r=0)
 |Option.none=>false
theorem zjJ{α:Type}{cf:α→α→Int}{jn:α→α→α}(hc:Cpr cf){O':List α}{z r:α}(hs:(O'++ [z]).Pairwise (fun a b=>cf a b<0))(hle:¬0<cf z r):
  putC cf jn r (O'++ [z])=if cf z r=0 then O'++ [jn z r] else O'++ [z,r]:=by
 refine zhX (fun y hy=>?_) hle
 have h1:=(List.pairwise_append.1 hs).2.2 y hy z (by simp)
 by_cases h0:cf z r=0
 ·rw[←hc.eqr h0];exact h1
 ·exact hc.trans h1 (by omega)
theorem recs_set{w:World}{LO:List (List Value)}{O':List RecL}{z m:RecL}{X:List Value}{j:Nat}(hj:O'.length=j)(hl:LO.length=j+1)
  (h:∀q (h:q<LO.length) (h':q<(O'++ [z]).length),RecAt w LO[q] (O'++ [z])[q]) (hX:RecAt w X m):
  ∀q (h:q<(LO.set j X).length) (h':q<(O'++ [m]).length),RecAt w (LO.set j X)[q] (O'++ [m])[q]:=by
 intro q h1 h2
 by_cases hq:q=j
 ·subst hq
  have e1:(LO.set q X)[q]=X:=by simp
  have e2:(O'++ [m])[q]=m:=by simp[←hj]
  rw[e1,e2];exact hX
 ·have hq2:q<O'.length:=by simp at h2;omega
  have e1:(LO.set j X)[q]=LO[q]'(by omega):=List.getElem_set_ne (by omega) _
  have e2:(O'++ [m])[q]=O'[q]:=List.getElem_append_left hq2
  have e3:(O'++ [z])[q]'(by simp;omega)=O'[q]:=List.getElem_append_left hq2
  rw[e1,e2,←e3];exact h q (by omega) (by simp;omega)
theorem zlR{w:World}{LO:List (List Value)}{O:List RecL}{m:RecL}{X:List Value}(hl:LO.length=O.length)
  (h:∀q (h:q<LO.length) (h':q<O.length),RecAt w LO[q] O[q]) (hX:RecAt w X m):
  ∀q (h:q<(LO++ [X]).length) (h':q<(O++ [m]).length),RecAt w (LO++ [X])[q] (O++ [m])[q]:=by
 intro q h1 h2
 by_cases hq:q<LO.length
 ·rw[List.getElem_append_left hq,List.getElem_append_left (by omega)];exact h q hq (by omega)
 ·have hq1:q=LO.length:=by simp at h1;omega
  have e1:(LO++ [X])[q]=X:=by simp[hq1]
  have e2:(O++ [m])[q]=m:=by simp[hq1,hl]
  rw[e1,e2];exact hX
theorem few_ok(w0 w:World)(hE0:Ext w0 w){v:Value}{R:List RecL}(hR:Rows 7 (RecAt w0) w v R)(hok:∀r∈R,zby r)(hlen:R.length≤1000000000):
  Fn Tryz.prog 37 #[v,.func (.func 38) #[] #[],.func (.func 39) #[] #[]] w (fun u w'=>Rows 7 (RecAt w0) w' u (zbw R)∧Ext w w'∧BlkB w.heap.size w' u):=by
 obtain⟨L,hrow,hl,hat⟩:=hR
 have hk:∀x∈L,x.length=7:=fun x hx=>by
  obtain⟨i,hi,rfl⟩:=List.getElem_of_mem hx
  exact(hat i hi (by omega)).len
 have h1:∀x∈L,∀q∈x,one q=true:=fun x hx=>by
  obtain⟨i,hi,rfl⟩:=List.getElem_of_mem hx
  exact(hat i hi (by omega)).ones
 obtain⟨D,hD⟩:∃D:List RI,D=(L.zip R).zipIdx:=⟨_,rfl⟩
 have hDe:D.map encR=L:=by
  rw[hD]
  show(List.zipIdx (L.zip R)).map (Prod.fst∘Prod.fst)=L
  rw[←List.map_map,List.zipIdx_map_fst,List.map_fst_zip (by omega)]
 have hDr:D.map (fun x=>x.1.2)=R:=by
  rw[hD]
  show(List.zipIdx (L.zip R)).map (Prod.snd∘Prod.fst)=R
  rw[←List.map_map,List.zipIdx_map_fst,List.map_snd_zip (by omega)]
 have hDl:D.length=R.length:=by rw[←hDr,List.length_map]
 have hDo:D.Pairwise zh7:=by
  rw[hD,List.pairwise_iff_getElem]
  intro i j hi hj hij
  simp[zh7,hij]
 have hDU:∀x∈D,UR w0 x:=fun x hx=>by
  rw[hD]at hx
  obtain⟨i,hi,rfl⟩:=List.getElem_of_mem hx
  have hi':i<R.length:=by simp at hi;omega
  have hi2:i<L.length:=by omega
  simp only[List.getElem_zipIdx,List.getElem_zip,UR]
  exact⟨hat i hi2 hi',hok _ (List.getElem_mem hi')⟩
 refine enter Tryz.func37 Tryz.ntmps37 rfl rfl ?_
 repeat refine c_r ?_
 refine rg0 ?_
 repeat refine c_r ?_
 refine rq ?_;intro gd K hgd hK
 try simp only[go_sem]
 refine Fn.mono (S_rec.Clone_ok hrow hk h1 (by omega)) ?_
 rintro vs1 w1 ⟨ho1,hE1⟩
 try simp only[go_sem]
 refine hK _ _ ?_;clear hK hgd;clear K;try clear gd
 repeat refine c_r ?_
 refine rq ?_;intro gd K hgd hK
 try simp only[go_sem]
 rw[←hDe]at ho1
 refine Fn.mono (S_rec.SortOwn_ok (w0:=w) (cb:=[]) (cmp_R hE0) older_R (Nat.le_refl _) hDU hDo ho1 (by omega) hE1) ?_
 rintro _ w2 ⟨Z,hp,hs,ho2,hK2⟩
 try simp only[go_sem]
 refine hK _ _ ?_;clear hK hgd;clear K;try clear gd
 repeat refine c_r ?_
 have hE2:Ext w w2:=Keep.to_ext hE1 rfl (fun i hi=>by have:=(ho1.ge hi).1;omega) hK2
 have hE02:=hE0.trans hE2
 have hUZ:∀x∈Z,UR w0 x:=fun x hx=>hDU x (hp.mem_iff.1 hx)
 have hZl:=hp.length_eq
 obtain⟨aS,cS,rfl,hcs,hget⟩:=ho2.rowK
 refine rg0 ?_
 repeat refine c_r ?_
 refine rg0 ?_
 repeat refine c_r ?_
 rw[List.length_map]at hcs
 simp only[List.length_map]
 refine zaD (fun m σ ds v=>ds=[]∧∃(i:Nat) (vO:Value) (LO:List (List Value)) (O:List RecL),i+m=Z.length∧σ 18=vi i∧σ 17=vi Z.length∧σ 16= .slice aS Z.length cS∧σ 7=vO∧σ 1= .func (.func 38) #[] #[]∧σ 2= .func (.func 39) #[] #[]∧
  OwnK 7 w2.heap.size v 49 vO LO∧LO.length=O.length∧(∀j (h:j<LO.length) (h':j<O.length),RecAt w0 LO[j] O[j])∧(∀r∈O,zby r)∧O.length≤i∧O=zdd zaA minT (fun x:RI=>x.1.2) (Z.take i) []∧Ext w2 v∧O.Pairwise (fun a b=>zaA a b<0)∧(∀o∈O,∀z∈Z.drop i,¬0<zaA o z.1.2)) Z.length ?_ ?_
 ·refine⟨rfl,0,.slice Option.none 0 0,[],[],by omega,vr0,vq0,vq0,vq0,vq0,vq0,OwnK.nil _ _ _ _,rfl,fun j h=>absurd h (by simp),fun r h=>absurd h (by simp),by simp,rfl,Keep.refl _ _,List.Pairwise.nil,fun o h=>absurd h (by simp)⟩
 rintro m σ ds v ⟨rfl,i,vO,LO,O,him,h18,h17,h16,h7,hs1,hs2,hO,hOl,hOat,hOok,hOi,hOf,hE3,hOs,hOle⟩
 repeat refine c_r ?_
 refine rg2 h18 h17 ?_
 repeat refine c_r ?_
 refine wc0 ?_ ?_
 ·intro hlt
  simp only[decide_eq_true_eq]at hlt
  have hiZ:i<Z.length:=by omega
  have hgi:=zah hE3 (hget i (by simpa using hiZ))
  have hi0:(0:Int)≤(i:Int):=by omega
  have hi1:(i:Int)<(Z.length:Int):=by omega
  obtain⟨xS,rfl⟩:=Option.isSome_iff_exists.1 (zav hgi)
  obtain⟨r,hr⟩:∃r,Z[i]=r:=⟨_,rfl⟩
  have hUr:UR w0 r:=hr▸hUZ _ (List.getElem_mem hiZ)
  have hgr:zar v (adr (some xS) (i*7)) 7=some r.1.1:=by rw[hgi,List.getElem_map,hr];rfl
  repeat refine c_r ?_
  refine rq ?_;intro gd K hgd hK
  try simp (disch:=first|omega|assumption|rfl) only[go_sem,h18,h16,hi0,hi1,hgr]
  refine SD.set (P:=Tryz.prog) (t:=49) (sd_zero v) (j:=0) (by simp) hUr.1.len hUr.1.ones rfl rfl ?_
  intro v1 hvs1 hL1 hk1
  have hX1:=Ext.alloc v (.cells #[.slice Option.none 0 0,v32 0,vi 0,.slice Option.none 0 0,.slice Option.none 0 0,.slice Option.none 0 0,.slice Option.none 0 0] 49 (0,0))
  have hEv:Ext v v1:=Keep.to_ext hX1 rfl (fun i hi=>by omega) hk1
  have hvsz:v1.heap.size=v.heap.size+1:=by rw[hvs1];exact zax _ _
  clear hk1 hX1 hvs1
  try simp only[go_sem]
  refine hK _ _ ?_;clear hK hgd;clear K;try clear gd
  have hE4:=hE3.trans hEv
  have hO1:=hO.ext hEv
  have hg9:=hL1.get (j:=0) (by simp)
  have hsO:=hO.rowK
  obtain⟨aO,cO,hvO,hcO,hgO⟩:=hO1.rowK
  rw[hOl]at hvO
  repeat refine c_r ?_
  refine rg2 h7 hvO ?_
  repeat refine c_r ?_
  refine zas (Q:=fun e σ' ds' v'=>e= .normal∧ds'=[]∧σ' 36= .bool (ze6 O r.1.2)∧σ' 18=vi i∧σ' 17=vi Z.length∧σ' 16= .slice (some xS) Z.length cS∧σ' 7= .slice aO O.length cO∧σ' 1= .func (.func 38) #[] #[]∧σ' 2= .func (.func 39) #[] #[]∧
   σ' 9= .pointer (some ⟨v.heap.size,0,Option.none⟩)∧σ' 10=vi O.length∧Ext v1 v') ?_ ?_
  ·rcases List.eq_nil_or_concat O with hO0| ⟨O',z,hO0⟩
   ·have hn:¬((0:Int)<(O.length:Int)):=by rw[hO0];simp
    have hal:ze6 O r.1.2=false:=by rw[hO0];rfl
    refine zaF (fun _=>false) [(0,true),(1,true),(2,true),(3,true),(4,true),(5,true),(6,true),(7,true),(8,true),(9,true),(10,false),(11,true),(12,true)] NoS mixed (by kernel_rfl) ?_;intro gd K x hgd hx hxe hK;clear hxe
    have hg2:∀n σ b,zaE gd n σ (some (2,b))=zap (ev n σ (.tmp 26)) b:=(fun n σ b=>by rw[zag,show gd 2=some 26 from(by rw[hgd];rfl)];rfl)
    simp (disch:=first|omega|assumption|rfl) only[go_sem,h18,h17,h16,h7,hvO,hs1,hs2,decide_eq_false hn,↓hg2]
    refine hK _ _ ?_;clear hK hgd;clear K;try clear gd
    exact⟨rfl,rfl,by rw[hal];simp only[go_sem],(vq1 h18),(vq1 h17),(vq1 h16),(vq2 h7 hvO),(vq1 hs1),(vq1 hs2),vq0,vq0,hx⟩
   ·rw[List.concat_eq_append]at hO0
    obtain⟨j,hj⟩:∃j,O'.length=j:=⟨_,rfl⟩
    have hOj:O.length=j+1:=by rw[hO0];simp[hj]
    have hn:decide ((0:Int)<((j+1:Nat):Int))=true:=decide_eq_true (by omega)
    have hs:((j+1:Nat):Int) - 1=(j:Int):=by omega
    have hj0:(0:Int)≤(j:Int):=by omega
    have hj1:(j:Int)<((j+1:Nat):Int):=by omega
    have hal:ze6 O r.1.2=decide (zaA z r.1.2=0):=by unfold ze6;rw[hO0];simp
    have hgj:=hgO j (by omega)
    have hRj:=hOat j (by omega) (by omega)
    have hxj:O[j]'(by omega)=z:=by simp only[hO0,←hj];simp
    rw[hxj]at hRj
    have hokx:zby z:=hOok z (by rw[hO0];simp)
    obtain⟨xO,rfl⟩:=Option.isSome_iff_exists.1 (zav hgj)
    obtain⟨cx,hcx⟩:∃cx,LO[j]'(by omega)=cx:=⟨_,rfl⟩
    rw[hcx]at hgj hRj
    rw[hOj]at hvO ⊢
    refine zaF (fun _=>false) [(0,true),(1,true),(2,true),(3,true),(4,true),(5,true),(6,true),(7,true),(8,true),(9,true),(10,false),(11,true),(12,true)] NoS mixed (by kernel_rfl) ?_;intro gd K x hgd hx hxe hK;clear hxe
    have hg2:∀n σ b,zaE gd n σ (some (2,b))=zap (ev n σ (.tmp 26)) b:=(fun n σ b=>by rw[zag,show gd 2=some 26 from(by rw[hgd];rfl)];rfl)
    have d1:=zah hx hgj
    have d2:=zah hx hg9
    simp (disch:=first|omega|assumption|rfl) only[go_sem,h18,h17,h16,h7,hvO,hs1,hs2,hn,hs,hj0,hj1,d1,d2,hOj,↓hg2]
    refine Fn.mono (zc6 x cx r.1.1 z r.1.2 (hRj.ext ((hE02.trans hE4).trans hx)) (hUr.1.ext ((hE02.trans hE4).trans hx)) hokx hUr.2) ?_
    rintro _ x2 ⟨rfl,hx2⟩
    refine⟨.inr hx2,?_⟩
    simp (disch:=first|omega|assumption|rfl) only[go_sem,↓hg2]
    refine hK _ _ ?_;clear hK hgd;clear K;try clear gd
    exact⟨rfl,rfl,by rw[hal];simp only[go_sem],(vq1 h18),(vq1 h17),(vq1 h16),(vq2 h7 hvO),(vq1 hs1),(vq1 hs2),vq0,vq0,hx.trans hx2⟩
  rintro _ σ2 _ v2 ⟨rfl,rfl,g36,g18,g17,g16,g7,gs1,gs2,g9,g10,hE5⟩
  have hE6:=hE4.trans hE5
  have hO2:=hO1.ext hE5
  have hg92:=zah hE5 hg9
  have hi1':(i:Int)+1=((i+1:Nat):Int):=by push_cast;rfl
  have htk:Z.take (i+1)=Z.take i++ [r]:=by rw[zak hiZ,hr]
  have hf1:zdd zaA minT (fun x:RI=>x.1.2) (Z.take (i+1)) []=putC zaA minT r.1.2 O:=by
   rw[htk,hOf];unfold zdd;rw[List.foldl_append];rfl
  have hdr:Z.drop i=r::Z.drop (i+1):=by rw[List.drop_eq_getElem_cons hiZ,hr]
  have hn1:(putC zaA minT r.1.2 O).Pairwise (fun a b=>zaA a b<0):=zcQ cpr_R join_R hOs
  have hn2:∀o∈putC zaA minT r.1.2 O,∀z∈Z.drop (i+1),¬0<zaA o z.1.2:=by
   refine zei (Q:=fun o=>∀z∈Z.drop (i+1),¬0<zaA o z.1.2) (fun x hx h0 z hz=>?_) (fun z hz=>?_) (fun o ho z hz=>hOle o ho z (by rw[hdr];exact List.mem_cons_of_mem _ hz))
   ·have e1:zaA (minT x r.1.2) z.1.2=zaA x z.1.2:=rfl
    rw[e1];exact hx z hz
   ·have h3:=List.Pairwise.sublist (List.drop_sublist i Z) hs
    rw[hdr]at h3
    have h4:=(List.pairwise_cons.1 h3).1 z hz
    rcases h4 with h4|h4
    ·omega
    ·omega
  have hn3:∀o∈putC zaA minT r.1.2 O,zby o:=zei (fun x hx _=>⟨hx.lb,hx.len,hx.dat⟩) hUr.2 hOok
  repeat refine c_r ?_
  refine zbK (t:=ze6 O r.1.2) (by simp only[go_sem,g36]) ?_ ?_
  ·intro hal
   rcases List.eq_nil_or_concat O with hO0| ⟨O',z,hO0⟩
   ·rw[hO0]at hal;simp[ze6]at hal
   rw[List.concat_eq_append]at hO0
   have hz0:zaA z r.1.2=0:=by unfold ze6 at hal;rw[hO0]at hal;simpa using hal
   obtain⟨j,hj⟩:∃j,O'.length=j:=⟨_,rfl⟩
   have hOj:O.length=j+1:=by rw[hO0];simp[hj]
   have hs:((j+1:Nat):Int) - 1=(j:Int):=by omega
   have hj0:(0:Int)≤(j:Int):=by omega
   have hj1:(j:Int)<((j+1:Nat):Int):=by omega
   have hRj:=hOat j (by omega) (by omega)
   have hxj:O[j]'(by omega)=z:=by simp only[hO0,←hj];simp
   rw[hxj]at hRj
   have hokz:zby z:=hOok z (by rw[hO0];simp)
   obtain⟨cx,hcx⟩:∃cx,LO[j]'(by omega)=cx:=⟨_,rfl⟩
   rw[hcx]at hRj
   rw[hOj]at hvO g10 g7
   rcases hO2.cases with ⟨hv0,h0⟩| ⟨b,cap,hvb,hbB,hbc,hbm,hSD⟩
   ·rw[h0]at hOl;simp at hOl;omega
   rw[hvO,hOl,hOj]at hvb
   have hao:aO=some ⟨b,0,Option.none⟩:=by injection hvb
   have hcap:cO=cap:=by injection hvb
   subst hao hcap
   have hdj:=hSD.get (j:=j) (by omega)
   rw[hcx]at hdj
   repeat refine c_r ?_
   refine zaF (fun i=>i==12) [(0,true),(1,true),(2,true),(3,true),(4,true),(5,true),(6,true),(7,true),(8,true),(9,true),(10,false),(11,true),(12,false)] NoS mixed (by kernel_rfl) ?_;intro gd K x hgd hx hxe hK;clear hxe
   have d1:=zah hx hdj
   have d2:=zah hx hg92
   simp (disch:=first|omega|assumption|rfl) only[go_sem,g7,g10,gs2,g9,hs,hj0,hj1,d1,d2]
   refine Fn.mono (zjp x cx r.1.1 z r.1.2 (hRj.ext ((hE02.trans hE6).trans hx)) (hUr.1.ext ((hE02.trans hE6).trans hx))) ?_
   rintro _ v3 ⟨rfl,hE7⟩
   refine⟨.inr hE7,?_⟩
   simp (disch:=first|omega|assumption|rfl) only[go_sem,g7,g10,hs,hj0,hj1]
   have hSD3:=(hSD.ext hx).ext hE7
   have hRm:=hRj.minT (b:=r.1.2)
   refine SD.set (P:=Tryz.prog) (t:=49) hSD3 (j:=j) (by omega) hRm.len hRm.ones rfl rfl ?_
   intro v4 hv4 hL4 hk4
   refine⟨.inl rfl,?_⟩
   simp (disch:=first|omega|assumption|rfl) only[go_sem]
   refine hK _ _ ?_;clear hK hgd;clear K;try clear gd
   have hE8:Ext w2 v4:=Keep.to_ext ((hE6.trans hx).trans hE7) rfl (fun i hi=>by omega) hk4
   repeat refine c_r ?_
   refine rg2 g18 hi1' ?_
   repeat refine c_r ?_
   have hO4:=OwnK.of_sd (B:=w2.heap.size) hL4 hbB (by rw[List.length_set];exact hbc) hbm
   have hLl:LO.length=j+1:=by omega
   rw[List.length_set,hLl]at hO4
   have hput:putC zaA minT r.1.2 O=O'++ [minT z r.1.2]:=by
    rw[hO0]at hOs hOle ⊢
    rw[zjJ cpr_R hOs (by omega),if_pos hz0]
   rw[hput]at hn1 hn2 hn3
   subst hO0
   refine⟨m - 1,by omega,rfl,i+1,.slice (some ⟨b,0,Option.none⟩) (j+1) cO,_,O'++ [minT z r.1.2],by omega,vq0,(vq1 g17),(vq1 g16),(vq1 g7),by simp only[go_sem,gs1],by simp only[go_sem,gs2],hO4,by simp[hLl,hj],recs_set hj hLl hOat hRm,hn3,by simp at hOi ⊢;omega,by rw[hf1,hput],hE8,hn1,hn2⟩
  ·intro hal
   have hput:putC zaA minT r.1.2 O=O++ [r.1.2]:=by
    rcases List.eq_nil_or_concat O with hO0| ⟨O',z,hO0⟩
    ·rw[hO0];rfl
    ·rw[List.concat_eq_append]at hO0
     have hz0:¬zaA z r.1.2=0:=by unfold ze6 at hal;rw[hO0]at hal;simpa using hal
     have hle:=hOle z (by rw[hO0];simp) r (by rw[hdr];simp)
     rw[hO0]at hOs ⊢
     rw[zjJ cpr_R hOs hle,if_neg hz0]
     simp
   rw[hput]at hn1 hn2 hn3
   rw[hvO]at hO2
   repeat refine c_r ?_
   refine rq ?_;intro gd K hgd hK
   try simp (disch:=first|omega|assumption|rfl) only[go_sem,g7,g9,hg92]
   refine zm6 (k:=7) (by rfl) (by rfl) (by rfl) (by rfl) hUr.1.len (by decide) hUr.1.ones ?_
   intro x1 hX1 hXs hXo
   try simp only[go_sem]
   refine zg9 (k:=7) (B:=w2.heap.size) (hO2.ext hX1) hXo.rowK (by rfl) (by rfl) (by rfl) (by rfl) (by rfl) (by rfl) (by decide) (by rfl) (by rfl) hXo.len hXo.ones (by simp;omega) (by decide) (hE6.trans hX1).size ?_
   intro vO' x2 hO3 hE7 _ _ _
   try simp only[go_sem]
   refine hK _ _ ?_;clear hK hgd;clear K;try clear gd
   repeat refine c_r ?_
   refine rg2 g18 hi1' ?_
   repeat refine c_r ?_
   refine⟨m - 1,by omega,rfl,i+1,vO',_,O++ [r.1.2],by omega,vq0,(vq1 g17),(vq1 g16),vq0,by simp only[go_sem,gs1],by simp only[go_sem,gs2],hO3,by simp[hOl],zlR hOl hOat hUr.1,hn3,by simp;omega,by rw[hf1,hput],hE7 w2 (hE6.trans hX1) (Nat.le_refl _),hn1,hn2⟩
 ·intro hlt
  simp only[decide_eq_false_iff_not]at hlt
  have hiZ:i=Z.length:=by omega
  repeat refine c_r ?_
  refine rq ?_;intro gd K hgd hK
  try simp (disch:=first|omega|assumption|rfl) only[go_sem,h7]
  obtain⟨aO,cO,hvO,hcO,hgO⟩:=hO.rowK
  have hblk:BlkB w2.heap.size v vO:=Owns.blk (C:=RecAt w0) (xs:=O) ⟨LO,hO,hOl,hOat⟩
  rw[hvO]at hblk
  rw[hvO]
  refine Fn.mono (P_rr.Clip_ok hcO) ?_
  rintro _ v1 ⟨rfl,hv1⟩
  try simp only[go_sem]
  refine hK _ _ ?_;clear hK hgd;clear K;try clear gd
  repeat refine c_r ?_
  have hfin:O=zbw R:=by
   rw[hOf,hiZ,List.take_length,ze3 (jn:=minT) cpr_R join_R (lt:=ltR) (older:=zh7) (fun h=>h.imp id (fun h=>h.2)) (fun {a b} h h'=>by unfold zh7 at h h';omega) D Z [] hDo hs hp List.Pairwise.nil]
   unfold zbw zdd
   rw[←hDr,List.foldl_map];rfl
  refine rt0 Tryz.ntmps37 ?_
  rw[hv1]
  rw[←hfin]
  exact⟨⟨LO,⟨aO,LO.length,rfl,Nat.le_refl _,hgO⟩,hOl,hOat⟩,hE2.trans hE3,hblk.same.mono hE2.size⟩
theorem zks(w0 w:World)(hE0:Ext w0 w){v:Value}{R:List RecL}(hR:Rows 7 (RecAt w0) w v R)(hok:∀r∈R,zby r)(hlen:R.length≤1000000000):
  Fn Tryz.prog 10 #[v] w (fun u w'=>Rows 7 (RecAt w0) w' u (zbw R)∧Ext w w'∧BlkB w.heap.size w' u):=by
 refine enter Tryz.func10 Tryz.ntmps10 rfl rfl ?_
 repeat refine c_r ?_
 refine rg0 ?_
 repeat refine c_r ?_
 refine rq ?_;intro gd K hgd hK
 try simp only[go_sem]
 refine Fn.mono (few_ok w0 w hE0 hR hok hlen) ?_
 rintro u w1 ⟨h1,hE1,hb⟩
 try simp only[go_sem]
 refine hK _ _ ?_;clear hK hgd;clear K;try clear gd
 repeat refine c_r ?_
 refine rt0 Tryz.ntmps10 ?_
 exact⟨h1,hE1,hb⟩
theorem zfk(a b:Int):sgn (a - b)=cmpI a b:=by unfold sgn cmpI;(repeat' split)<;>omega
theorem zbB{a b:Int}:cmpI a b=0↔a=b:=by unfold cmpI;(repeat' split)<;>omega
theorem zhg{α:Type}{cf:α→α→Int}{a b:List α}{i:Nat}(ha:i≤a.length)(hb:i≤b.length)(h:¬(i<a.length∧i<b.length)):lexC cf (a.drop i) (b.drop i)=cmpI a.length b.length:=by
 rw[zcW (by
  rcases Nat.lt_or_ge i a.length with h1|h1
  ·exact .inr (List.drop_eq_nil_of_le (by omega))
  ·exact .inl (List.drop_eq_nil_of_le h1))]
 rw[List.length_drop,List.length_drop]
 unfold cmpI
 (repeat' split)<;>omega
theorem znn(w:World)(a b:Int):Fn Tryz.prog 110 #[vi a,vi b] w (fun v w'=>v=vi (cmpI a b)∧Ext w w'):=by
 refine enter Tryz.func110 Tryz.ntmps110 rfl rfl ?_
 repeat (first|refine c_r ?_|refine rg0 ?_)
 refine wc0 ?_ ?_
 ·intro ht
  simp only[decide_eq_true_eq]at ht
  repeat (first|refine c_r ?_|refine rg0 ?_)
  refine rt0 Tryz.ntmps110 ?_
  exact⟨by rw[cmpI,if_pos ht],Keep.refl _ _⟩
 ·intro hf
  simp only[decide_eq_false_iff_not]at hf
  repeat (first|refine c_r ?_|refine rg0 ?_)
  refine wc0 ?_ ?_
  ·intro ht
   simp only[decide_eq_true_eq]at ht
   repeat (first|refine c_r ?_|refine rg0 ?_)
   refine rt0 Tryz.ntmps110 ?_
   exact⟨by rw[cmpI,if_neg hf,if_pos ht],Keep.refl _ _⟩
  ·intro hf2
   simp only[decide_eq_false_iff_not]at hf2
   repeat (first|refine c_r ?_|refine rg0 ?_)
   refine rt0 Tryz.ntmps110 ?_
   exact⟨by rw[cmpI,if_neg hf,if_neg hf2],Keep.refl _ _⟩
theorem zgk(w:World)(ca cb:List Value)(a b:DatL)(ha:DatAt w ca a)(hb:DatAt w cb b)(hoa:zhD a)(hob:zhD b):
  Fn Tryz.prog 70 #[.agg ca.toArray,.agg cb.toArray] w (fun v w'=>v=vi (cmpD a b)∧Ext w w'):=by
 obtain⟨nm,nu,tx,rw',rfl,a1,a2,a3,a4⟩:=ha.ex
 obtain⟨nm2,nu2,tx2,rw2,rfl,b1,b2,b3,b4⟩:=hb.ex
 obtain⟨vn,⟨sn,cn,rfl,hcn,hgn⟩,hvn,hrn⟩:=a1
 obtain⟨vn2,⟨sn2,cn2,rfl,hcn2,hgn2⟩,hvn2,hrn2⟩:=b1
 obtain⟨su,cu,rfl,hcu,hgu⟩:=a2
 obtain⟨su2,cu2,rfl,hcu2,hgu2⟩:=b2
 obtain⟨st,ct,rfl,hct,hgt⟩:=a3
 obtain⟨st2,ct2,rfl,hct2,hgt2⟩:=b3
 obtain⟨sr,cr,rfl,hcr,hgr⟩:=a4
 obtain⟨sr2,cr2,rfl,hcr2,hgr2⟩:=b4
 have hnn:=hoa.nn
 have hnn2:=hob.nn
 have hnu:=hoa.nu
 have hnu2:=hob.nu
 have hnt:=hoa.nt
 have hnt2:=hob.nt
 rw[hvn]at hcn ⊢
 rw[hvn2]at hcn2 ⊢
 simp only[List.length_map]at hcu hgu hcu2 hgu2 hct hgt hct2 hgt2 hcr hgr hcr2 hgr2 ⊢
 refine enter Tryz.func70 Tryz.ntmps70 rfl rfl ?_
 repeat refine c_r ?_
 refine rg0 ?_
 repeat refine c_r ?_
 obtain⟨OA,hOA⟩:∃OA:Obj,(.cells #[vi a.ty,.slice sn a.names.length cn,.slice su a.nums.length cu,.slice st a.texts.length ct,.slice sr a.raw.length cr] 55 (0,0))=OA:=⟨_,rfl⟩
 obtain⟨OB,hOB⟩:∃OB:Obj,(.cells #[vi b.ty,.slice sn2 b.names.length cn2,.slice su2 b.nums.length cu2,.slice st2 b.texts.length ct2,.slice sr2 b.raw.length cr2] 55 (0,0))=OB:=⟨_,rfl⟩
 simp only[hOA,hOB]
 have hal:=zcl w OA OB
 rw[show (w.alloc OA).heap.size=w.heap.size+1 from zax _ _]
 revert hal
 generalize (w.alloc OA).alloc OB=w1
 rintro⟨hE1,hs1,hA,hB⟩
 subst hOA hOB
 have rd:∀x,Ext w1 x→zad x (some ⟨w.heap.size,0,Option.none⟩)=some (vi a.ty)∧zad x (some ⟨w.heap.size,1,Option.none⟩)=some (.slice sn a.names.length cn)∧zad x (some ⟨w.heap.size,2,Option.none⟩)=some (.slice su a.nums.length cu)∧zad x (some ⟨w.heap.size,3,Option.none⟩)=some (.slice st a.texts.length ct)∧zad x (some ⟨w.heap.size,4,Option.none⟩)=some (.slice sr a.raw.length cr):=
  fun x hx=>⟨zab hx (zaa hA rfl),zab hx (zaa hA rfl),zab hx (zaa hA rfl),zab hx (zaa hA rfl),zab hx (zaa hA rfl)⟩
 have rd2:∀x,Ext w1 x→zad x (some ⟨w.heap.size+1,0,Option.none⟩)=some (vi b.ty)∧zad x (some ⟨w.heap.size+1,1,Option.none⟩)=some (.slice sn2 b.names.length cn2)∧zad x (some ⟨w.heap.size+1,2,Option.none⟩)=some (.slice su2 b.nums.length cu2)∧zad x (some ⟨w.heap.size+1,3,Option.none⟩)=some (.slice st2 b.texts.length ct2)∧zad x (some ⟨w.heap.size+1,4,Option.none⟩)=some (.slice sr2 b.raw.length cr2):=
  fun x hx=>⟨zab hx (zaa hB rfl),zab hx (zaa hB rfl),zab hx (zaa hB rfl),zab hx (zaa hB rfl),zab hx (zaa hB rfl)⟩
 clear hA hB
 obtain⟨p0,p1,p2,p3,p4⟩:=rd w1 (Keep.refl _ _)
 obtain⟨q0,q1,q2,q3,q4⟩:=rd2 w1 (Keep.refl _ _)
 refine rq ?_;intro gd K hgd hK
 try simp (disch:=first|omega|assumption|rfl) only[go_sem,p0,q0,Nat.add_zero]
 refine hK _ _ ?_;clear hK hgd;clear K;try clear gd
 repeat refine c_r ?_
 refine wc0 ?_ ?_
 ·intro hne
  simp only[Bool.not_eq_true',decide_eq_false_iff_not]at hne
  repeat refine c_r ?_
  refine rq ?_;intro gd K hgd hK
  try simp (disch:=first|omega|assumption|rfl) only[go_sem,p0,q0,Nat.add_zero]
  refine Fn.mono (znn _ _ _) ?_
  rintro _ w2 ⟨rfl,hE2⟩
  try simp only[go_sem]
  refine hK _ _ ?_;clear hK hgd;clear K;try clear gd
  repeat refine c_r ?_
  refine rt0 Tryz.ntmps70 ?_
  exact⟨by simp only[cmpD,orI];rw[if_neg (fun h=>hne (zbB.1 h))],hE1.trans hE2⟩
 intro heq
 simp only[Bool.not_eq_false',decide_eq_true_eq]at heq
 have hz0:=zbB.2 heq
 repeat refine c_r ?_
 refine rg0 ?_
 repeat refine c_r ?_
 refine zaD (fun m σ ds v=>ds=[]∧∃i:Nat,i+m=a.names.length∧i≤b.names.length∧σ 5=vi i∧σ 2= .pointer (some ⟨w.heap.size,0,Option.none⟩)∧σ 3= .pointer (some ⟨w.heap.size+1,0,Option.none⟩)∧Ext w1 v∧lexC zcG a.names b.names=lexC zcG (a.names.drop i) (b.names.drop i)) a.names.length ?_ ?_
 ·exact⟨rfl,0,by omega,by omega,vr0,vq0,vq0,Keep.refl _ _,rfl⟩
 rintro m σ ds v ⟨rfl,i,him,hib,h5,h2,h3,hEv,hinv⟩
 obtain⟨p0,p1,p2,p3,p4⟩:=rd v hEv
 obtain⟨q0,q1,q2,q3,q4⟩:=rd2 v hEv
 repeat refine c_r ?_
 refine zas (Q:=fun e σ' ds' v'=>e= .normal∧ds'=[]∧v'=v∧σ' 5=vi i∧σ' 2= .pointer (some ⟨w.heap.size,0,Option.none⟩)∧σ' 3= .pointer (some ⟨w.heap.size+1,0,Option.none⟩)∧σ' 31= .bool (decide (i<a.names.length∧i<b.names.length))) ?_ ?_
 ·refine rq ?_;intro gd K hgd hK
  have hg5:∀n σ b,zaE gd n σ (some (5,b))=zap (ev n σ (.tmp 25)) b:=(fun n σ b=>by rw[zag,show gd 5=some 25 from(by rw[hgd];rfl)];rfl)
  by_cases c1:(i:Int)<(a.names.length:Int)
  ·try simp (disch:=first|omega|assumption|rfl) only[go_sem,h5,h2,h3,p1,p2,p3,q1,q2,q3,Nat.zero_add,decide_eq_true c1,↓hg5]
   refine hK _ _ ?_;clear hK hgd;clear K;try clear gd
   refine⟨rfl,rfl,rfl,(vq1 h5),(vq1 h2),(vq1 h3),?_⟩
   rw[show decide (i<a.names.length∧i<b.names.length)=decide ((i:Int)<(b.names.length:Int)) from decide_eq_decide.2 ⟨fun h=>by omega,fun h=>⟨by omega,by omega⟩⟩]
   simp only[go_sem]
  ·try simp (disch:=first|omega|assumption|rfl) only[go_sem,h5,h2,h3,p1,p2,p3,q1,q2,q3,Nat.zero_add,decide_eq_false c1,↓hg5]
   refine hK _ _ ?_;clear hK hgd;clear K;try clear gd
   refine⟨rfl,rfl,rfl,(vq1 h5),(vq1 h2),(vq1 h3),?_⟩
   rw[show decide (i<a.names.length∧i<b.names.length)=false from decide_eq_false (fun h=>c1 (by omega))]
   simp only[go_sem]
 clear h5 h2 h3
 rintro _ σ1 _ v1 ⟨rfl,rfl,hv1,h5,h2,h3,hsc⟩
 rw[hv1]
 clear hv1 v1
 repeat refine c_r ?_
 refine zbK (t:=decide (i<a.names.length∧i<b.names.length)) ((vq1 hsc)) ?_ ?_
 ·intro hlt
  simp only[decide_eq_true_eq]at hlt
  have hi0:(0:Int)≤(i:Int):=by omega
  have hia:(i:Int)<(a.names.length:Int):=by omega
  have hib2:(i:Int)<(b.names.length:Int):=by omega
  have hi1':(i:Int)+1=((i+1:Nat):Int):=by push_cast;rfl
  have hstep:=zcD (cf:=zcG) hlt.1 hlt.2
  repeat refine c_r ?_
  have d1:=hgn i (by omega)
  have d2:=hgn2 i (by omega)
  obtain⟨xa,rfl⟩:=Option.isSome_iff_exists.1 (zai d1)
  obtain⟨xb,rfl⟩:=Option.isSome_iff_exists.1 (zai d2)
  refine zaF (fun _=>false) [(0,true),(1,true),(2,true),(3,true),(4,true),(5,true),(6,true),(7,true),(8,true),(9,true),(10,false),(11,true)] NoS mixed (by kernel_rfl) ?_;intro gd K x hgd hx hxe hK;clear hxe
  obtain⟨p0',p1',p2',p3',p4'⟩:=rd x (hEv.trans hx)
  obtain⟨q0',q1',q2',q3',q4'⟩:=rd2 x (hEv.trans hx)
  have d1':=zab ((hE1.trans hEv).trans hx) d1
  have d2':=zab ((hE1.trans hEv).trans hx) d2
  simp (disch:=first|omega|assumption|rfl) only[go_sem,h5,h2,h3,p1',p3',q1',q3',Nat.zero_add,hi0,hia,hib2,d1',d2']
  refine Fn.mono (zgj _ _ _ _ _ ((hrn i (by omega) hlt.1).ext ((hE1.trans hEv).trans hx)) ((hrn2 i (by omega) hlt.2).ext ((hE1.trans hEv).trans hx)) (hoa.names _ (List.getElem_mem hlt.1)).1 (hob.names _ (List.getElem_mem hlt.2)).1 (by have:=(hoa.names _ (List.getElem_mem hlt.1)).2;omega) (by have:=(hob.names _ (List.getElem_mem hlt.2)).2;omega)) ?_
  rintro _ x1 ⟨rfl,hx1⟩
  refine⟨.inr hx1,?_⟩
  simp (disch:=first|omega|assumption|rfl) only[go_sem]
  refine hK _ _ ?_;clear hK hgd;clear K;try clear gd
  repeat refine c_r ?_
  refine rg0 ?_
  repeat refine c_r ?_
  refine wc0 ?_ ?_
  ·intro hne
   simp only[Bool.not_eq_true',decide_eq_false_iff_not]at hne
   repeat (first|refine c_r ?_|refine rg0 ?_)
   refine rt0 Tryz.ntmps70 ?_
   refine⟨?_,((hE1.trans hEv).trans hx).trans hx1⟩
   have hc:zcG a.names[i] b.names[i]≠0:=hne
   simp only[cmpD,orI]
   rw[if_pos hz0,hinv,hstep,if_neg hc,if_neg hc]
   rfl
  ·intro heq
   simp only[Bool.not_eq_false',decide_eq_true_eq]at heq
   have hc:zcG a.names[i] b.names[i]=0:=heq
   repeat refine c_r ?_
   refine rg2 h5 hi1' ?_
   repeat refine c_r ?_
   exact⟨m - 1,by omega,rfl,i+1,by omega,by omega,vq0,(vq1 h2),(vq1 h3),(hEv.trans hx).trans hx1,by rw[hinv,hstep,if_pos hc]⟩
 intro hge
 simp only[decide_eq_false_iff_not]at hge
 have hend:=zhg (cf:=zcG) (by omega:i≤a.names.length) hib hge
 repeat refine c_r ?_
 refine rq ?_;intro gd K hgd hK
 try simp (disch:=first|omega|assumption|rfl) only[go_sem,h2,h3,p1,p2,p3,q1,q2,q3,Nat.zero_add]
 refine hK _ _ ?_;clear hK hgd;clear K;try clear gd
 repeat refine c_r ?_
 refine wc0 ?_ ?_
 ·intro hne
  simp only[Bool.not_eq_true',decide_eq_false_iff_not]at hne
  have hne2:¬((a.names.length:Int)=(b.names.length:Int)):=fun h=>hne (by omega)
  repeat refine c_r ?_
  refine rq ?_;intro gd K hgd hK
  try simp (disch:=first|omega|assumption|rfl) only[go_sem,h2,h3,p1,p2,p3,q1,q2,q3,Nat.zero_add]
  refine Fn.mono (zdL _ _) ?_
  rintro _ x1 ⟨rfl,hx1⟩
  try simp only[go_sem]
  refine hK _ _ ?_;clear hK hgd;clear K;try clear gd
  repeat refine c_r ?_
  refine rt0 Tryz.ntmps70 ?_
  refine⟨?_,(hE1.trans hEv).trans hx1⟩
  have hc:lexC zcG a.names b.names≠0:=by rw[hinv,hend];exact fun h=>hne2 (zbB.1 h)
  rw[zfk]
  simp only[cmpD,orI]
  rw[if_pos hz0,if_neg hc,hinv,hend]
 intro heql
 simp only[Bool.not_eq_false',decide_eq_true_eq]at heql
 have heql2:(a.names.length:Int)=(b.names.length:Int):=by omega
 have hz1:lexC zcG a.names b.names=0:=by rw[hinv,hend];exact zbB.2 heql2
 have g2:=h2
 have g3:=h3
 have hEL0:=hEv
 clear hsc hinv hend hge him hib
 repeat refine c_r ?_
 refine rg0 ?_
 repeat refine c_r ?_
 refine zaD (fun m σ ds v=>ds=[]∧∃i:Nat,i+m=a.nums.length∧i≤b.nums.length∧σ 7=vi i∧σ 2= .pointer (some ⟨w.heap.size,0,Option.none⟩)∧σ 3= .pointer (some ⟨w.heap.size+1,0,Option.none⟩)∧Ext w1 v∧lexC cmpI a.nums b.nums=lexC cmpI (a.nums.drop i) (b.nums.drop i)) a.nums.length ?_ ?_
 ·exact⟨rfl,0,by omega,by omega,vr0,(vq1 g2),(vq1 g3),hEL0,rfl⟩
 rintro m σ ds v ⟨rfl,i,him,hib,h5,h2,h3,hEv,hinv⟩
 obtain⟨p0,p1,p2,p3,p4⟩:=rd v hEv
 obtain⟨q0,q1,q2,q3,q4⟩:=rd2 v hEv
 repeat refine c_r ?_
 refine zas (Q:=fun e σ' ds' v'=>e= .normal∧ds'=[]∧v'=v∧σ' 7=vi i∧σ' 2= .pointer (some ⟨w.heap.size,0,Option.none⟩)∧σ' 3= .pointer (some ⟨w.heap.size+1,0,Option.none⟩)∧σ' 74= .bool (decide (i<a.nums.length∧i<b.nums.length))) ?_ ?_
 ·refine rq ?_;intro gd K hgd hK
  have hg5:∀n σ b,zaE gd n σ (some (5,b))=zap (ev n σ (.tmp 68)) b:=(fun n σ b=>by rw[zag,show gd 5=some 68 from(by rw[hgd];rfl)];rfl)
  by_cases c1:(i:Int)<(a.nums.length:Int)
  ·try simp (disch:=first|omega|assumption|rfl) only[go_sem,h5,h2,h3,p1,p2,p3,q1,q2,q3,Nat.zero_add,decide_eq_true c1,↓hg5]
   refine hK _ _ ?_;clear hK hgd;clear K;try clear gd
   refine⟨rfl,rfl,rfl,(vq1 h5),(vq1 h2),(vq1 h3),?_⟩
   rw[show decide (i<a.nums.length∧i<b.nums.length)=decide ((i:Int)<(b.nums.length:Int)) from decide_eq_decide.2 ⟨fun h=>by omega,fun h=>⟨by omega,by omega⟩⟩]
   simp only[go_sem]
  ·try simp (disch:=first|omega|assumption|rfl) only[go_sem,h5,h2,h3,p1,p2,p3,q1,q2,q3,Nat.zero_add,decide_eq_false c1,↓hg5]
   refine hK _ _ ?_;clear hK hgd;clear K;try clear gd
   refine⟨rfl,rfl,rfl,(vq1 h5),(vq1 h2),(vq1 h3),?_⟩
   rw[show decide (i<a.nums.length∧i<b.nums.length)=false from decide_eq_false (fun h=>c1 (by omega))]
   simp only[go_sem]
 clear h5 h2 h3
 rintro _ σ1 _ v1 ⟨rfl,rfl,hv1,h5,h2,h3,hsc⟩
 rw[hv1]
 clear hv1 v1
 repeat refine c_r ?_
 refine zbK (t:=decide (i<a.nums.length∧i<b.nums.length)) ((vq1 hsc)) ?_ ?_
 ·intro hlt
  simp only[decide_eq_true_eq]at hlt
  have hi0:(0:Int)≤(i:Int):=by omega
  have hia:(i:Int)<(a.nums.length:Int):=by omega
  have hib2:(i:Int)<(b.nums.length:Int):=by omega
  have hi1':(i:Int)+1=((i+1:Nat):Int):=by push_cast;rfl
  have hstep:=zcD (cf:=cmpI) hlt.1 hlt.2
  repeat refine c_r ?_
  have d1:=hgu i (by simpa using hlt.1)
  have d2:=hgu2 i (by simpa using hlt.2)
  rw[List.getElem_map]at d1 d2
  obtain⟨xa,rfl⟩:=Option.isSome_iff_exists.1 (zai d1)
  obtain⟨xb,rfl⟩:=Option.isSome_iff_exists.1 (zai d2)
  have hva:=hoa.nv _ (List.getElem_mem hlt.1)
  have hvb:=hob.nv _ (List.getElem_mem hlt.2)
  have ec1:IntKind.i64.wrap a.nums[i]=a.nums[i]:=zd6 (by omega) (by omega)
  have ec2:IntKind.i64.wrap b.nums[i]=b.nums[i]:=zd6 (by omega) (by omega)
  refine zaF (fun _=>false) [(0,true),(1,true),(2,true),(3,true),(4,true),(5,true),(6,true),(7,true),(8,true),(9,true),(10,true)] NoS mixed (by kernel_rfl) ?_;intro gd K x hgd hx hxe hK;clear hxe
  obtain⟨p0',p1',p2',p3',p4'⟩:=rd x (hEv.trans hx)
  obtain⟨q0',q1',q2',q3',q4'⟩:=rd2 x (hEv.trans hx)
  have d1':=zab ((hE1.trans hEv).trans hx) d1
  have d2':=zab ((hE1.trans hEv).trans hx) d2
  simp (disch:=first|omega|assumption|rfl) only[go_sem,h5,h2,h3,p2',q2',Nat.zero_add,hi0,hia,hib2,d1',d2']
  refine hK _ _ ?_;clear hK hgd;clear K;try clear gd
  repeat refine c_r ?_
  refine wc0 ?_ ?_
  ·intro hne
   simp only[Bool.not_eq_true',decide_eq_false_iff_not]at hne
   have hEx:=hEv.trans hx
   clear p0' p1' p2' p3' p4' q0' q1' q2' q3' q4'
   generalize x=y at*
   repeat refine c_r ?_
   refine zaF (fun _=>false) [(0,true),(1,true),(2,true),(3,true),(4,true),(5,true),(6,true),(7,true),(8,true),(9,true),(10,true),(11,true),(12,true),(13,false),(14,true)] NoS mixed (by kernel_rfl) ?_;intro gd K x hgd hx hxe hK;clear hxe
   obtain⟨p0',p1',p2',p3',p4'⟩:=rd x (hEx.trans hx)
   obtain⟨q0',q1',q2',q3',q4'⟩:=rd2 x (hEx.trans hx)
   have d1':=zab ((hE1.trans hEx).trans hx) d1
   have d2':=zab ((hE1.trans hEx).trans hx) d2
   simp (disch:=first|omega|assumption|rfl) only[go_sem,h5,h2,h3,p2',q2',Nat.zero_add,hi0,hia,hib2,d1',d2',ec1,ec2]
   refine Fn.mono (zdL _ _) ?_
   rintro _ x1 ⟨rfl,hx1⟩
   refine⟨.inr hx1,?_⟩
   simp (disch:=first|omega|assumption|rfl) only[go_sem]
   refine hK _ _ ?_;clear hK hgd;clear K;try clear gd
   repeat refine c_r ?_
   refine rt0 Tryz.ntmps70 ?_
   refine⟨?_,((hE1.trans hEx).trans hx).trans hx1⟩
   have hc:cmpI a.nums[i] b.nums[i]≠0:=fun h=>hne (zbB.1 h)
   rw[zfk]
   simp only[cmpD,orI]
   rw[if_pos hz0,if_pos hz1,hinv,hstep,if_neg hc,if_neg hc]
  ·intro heq
   simp only[Bool.not_eq_false',decide_eq_true_eq]at heq
   have hc:cmpI a.nums[i] b.nums[i]=0:=zbB.2 heq
   repeat refine c_r ?_
   refine rg2 h5 hi1' ?_
   repeat refine c_r ?_
   exact⟨m - 1,by omega,rfl,i+1,by omega,by omega,vq0,(vq1 h2),(vq1 h3),hEv.trans hx,by rw[hinv,hstep,if_pos hc]⟩
 intro hge
 simp only[decide_eq_false_iff_not]at hge
 have hend:=zhg (cf:=cmpI) (by omega:i≤a.nums.length) hib hge
 repeat refine c_r ?_
 refine rq ?_;intro gd K hgd hK
 try simp (disch:=first|omega|assumption|rfl) only[go_sem,h2,h3,p1,p2,p3,q1,q2,q3,Nat.zero_add]
 refine hK _ _ ?_;clear hK hgd;clear K;try clear gd
 repeat refine c_r ?_
 refine wc0 ?_ ?_
 ·intro hne
  simp only[Bool.not_eq_true',decide_eq_false_iff_not]at hne
  have hne2:¬((a.nums.length:Int)=(b.nums.length:Int)):=fun h=>hne (by omega)
  repeat refine c_r ?_
  refine rq ?_;intro gd K hgd hK
  try simp (disch:=first|omega|assumption|rfl) only[go_sem,h2,h3,p1,p2,p3,q1,q2,q3,Nat.zero_add]
  refine Fn.mono (zdL _ _) ?_
  rintro _ x1 ⟨rfl,hx1⟩
  try simp only[go_sem]
  refine hK _ _ ?_;clear hK hgd;clear K;try clear gd
  repeat refine c_r ?_
  refine rt0 Tryz.ntmps70 ?_
  refine⟨?_,(hE1.trans hEv).trans hx1⟩
  have hc:lexC cmpI a.nums b.nums≠0:=by rw[hinv,hend];exact fun h=>hne2 (zbB.1 h)
  rw[zfk]
  simp only[cmpD,orI]
  rw[if_pos hz0,if_pos hz1,if_neg hc,hinv,hend]
 intro heql
 simp only[Bool.not_eq_false',decide_eq_true_eq]at heql
 have heql2:(a.nums.length:Int)=(b.nums.length:Int):=by omega
 have hz2:lexC cmpI a.nums b.nums=0:=by rw[hinv,hend];exact zbB.2 heql2
 have g2:=h2
 have g3:=h3
 have hEL1:=hEv
 clear hsc hinv hend hge him hib
 repeat refine c_r ?_
 refine rg0 ?_
 repeat refine c_r ?_
 refine zaD (fun m σ ds v=>ds=[]∧∃i:Nat,i+m=a.texts.length∧i≤b.texts.length∧σ 8=vi i∧σ 2= .pointer (some ⟨w.heap.size,0,Option.none⟩)∧σ 3= .pointer (some ⟨w.heap.size+1,0,Option.none⟩)∧Ext w1 v∧lexC cmpL a.texts b.texts=lexC cmpL (a.texts.drop i) (b.texts.drop i)) a.texts.length ?_ ?_
 ·exact⟨rfl,0,by omega,by omega,vr0,(vq1 g2),(vq1 g3),hEL1,rfl⟩
 rintro m σ ds v ⟨rfl,i,him,hib,h5,h2,h3,hEv,hinv⟩
 obtain⟨p0,p1,p2,p3,p4⟩:=rd v hEv
 obtain⟨q0,q1,q2,q3,q4⟩:=rd2 v hEv
 repeat refine c_r ?_
 refine zas (Q:=fun e σ' ds' v'=>e= .normal∧ds'=[]∧v'=v∧σ' 8=vi i∧σ' 2= .pointer (some ⟨w.heap.size,0,Option.none⟩)∧σ' 3= .pointer (some ⟨w.heap.size+1,0,Option.none⟩)∧σ' 128= .bool (decide (i<a.texts.length∧i<b.texts.length))) ?_ ?_
 ·refine rq ?_;intro gd K hgd hK
  have hg5:∀n σ b,zaE gd n σ (some (5,b))=zap (ev n σ (.tmp 122)) b:=(fun n σ b=>by rw[zag,show gd 5=some 122 from(by rw[hgd];rfl)];rfl)
  by_cases c1:(i:Int)<(a.texts.length:Int)
  ·try simp (disch:=first|omega|assumption|rfl) only[go_sem,h5,h2,h3,p1,p2,p3,q1,q2,q3,Nat.zero_add,decide_eq_true c1,↓hg5]
   refine hK _ _ ?_;clear hK hgd;clear K;try clear gd
   refine⟨rfl,rfl,rfl,(vq1 h5),(vq1 h2),(vq1 h3),?_⟩
   rw[show decide (i<a.texts.length∧i<b.texts.length)=decide ((i:Int)<(b.texts.length:Int)) from decide_eq_decide.2 ⟨fun h=>by omega,fun h=>⟨by omega,by omega⟩⟩]
   simp only[go_sem]
  ·try simp (disch:=first|omega|assumption|rfl) only[go_sem,h5,h2,h3,p1,p2,p3,q1,q2,q3,Nat.zero_add,decide_eq_false c1,↓hg5]
   refine hK _ _ ?_;clear hK hgd;clear K;try clear gd
   refine⟨rfl,rfl,rfl,(vq1 h5),(vq1 h2),(vq1 h3),?_⟩
   rw[show decide (i<a.texts.length∧i<b.texts.length)=false from decide_eq_false (fun h=>c1 (by omega))]
   simp only[go_sem]
 clear h5 h2 h3
 rintro _ σ1 _ v1 ⟨rfl,rfl,hv1,h5,h2,h3,hsc⟩
 rw[hv1]
 clear hv1 v1
 repeat refine c_r ?_
 refine zbK (t:=decide (i<a.texts.length∧i<b.texts.length)) ((vq1 hsc)) ?_ ?_
 ·intro hlt
  simp only[decide_eq_true_eq]at hlt
  have hi0:(0:Int)≤(i:Int):=by omega
  have hia:(i:Int)<(a.texts.length:Int):=by omega
  have hib2:(i:Int)<(b.texts.length:Int):=by omega
  have hi1':(i:Int)+1=((i+1:Nat):Int):=by push_cast;rfl
  have hstep:=zcD (cf:=cmpL) hlt.1 hlt.2
  repeat refine c_r ?_
  have d1:=hgt i (by simpa using hlt.1)
  have d2:=hgt2 i (by simpa using hlt.2)
  rw[List.getElem_map]at d1 d2
  obtain⟨xa,rfl⟩:=Option.isSome_iff_exists.1 (zai d1)
  obtain⟨xb,rfl⟩:=Option.isSome_iff_exists.1 (zai d2)
  refine zaF (fun _=>false) [(0,true),(1,true),(2,true),(3,true),(4,true),(5,true),(6,true),(7,true),(8,true),(9,true),(10,false),(11,true)] NoS mixed (by kernel_rfl) ?_;intro gd K x hgd hx hxe hK;clear hxe
  obtain⟨p0',p1',p2',p3',p4'⟩:=rd x (hEv.trans hx)
  obtain⟨q0',q1',q2',q3',q4'⟩:=rd2 x (hEv.trans hx)
  have d1':=zab ((hE1.trans hEv).trans hx) d1
  have d2':=zab ((hE1.trans hEv).trans hx) d2
  simp (disch:=first|omega|assumption|rfl) only[go_sem,h5,h2,h3,p1',p3',q1',q3',Nat.zero_add,hi0,hia,hib2,d1',d2']
  refine Fn.mono (zgi _ _ _) ?_
  rintro _ x1 ⟨rfl,hx1⟩
  refine⟨.inr hx1,?_⟩
  simp (disch:=first|omega|assumption|rfl) only[go_sem]
  refine hK _ _ ?_;clear hK hgd;clear K;try clear gd
  repeat refine c_r ?_
  refine rg0 ?_
  repeat refine c_r ?_
  refine wc0 ?_ ?_
  ·intro hne
   simp only[Bool.not_eq_true',decide_eq_false_iff_not]at hne
   repeat (first|refine c_r ?_|refine rg0 ?_)
   refine rt0 Tryz.ntmps70 ?_
   refine⟨?_,((hE1.trans hEv).trans hx).trans hx1⟩
   have hc:cmpL a.texts[i] b.texts[i]≠0:=hne
   simp only[cmpD,orI]
   rw[if_pos hz0,if_pos hz1,if_pos hz2,hinv,hstep,if_neg hc,if_neg hc]
  ·intro heq
   simp only[Bool.not_eq_false',decide_eq_true_eq]at heq
   have hc:cmpL a.texts[i] b.texts[i]=0:=heq
   repeat refine c_r ?_
   refine rg2 h5 hi1' ?_
   repeat refine c_r ?_
   exact⟨m - 1,by omega,rfl,i+1,by omega,by omega,vq0,(vq1 h2),(vq1 h3),(hEv.trans hx).trans hx1,by rw[hinv,hstep,if_pos hc]⟩
 intro hge
 simp only[decide_eq_false_iff_not]at hge
 have hend:=zhg (cf:=cmpL) (by omega:i≤a.texts.length) hib hge
 repeat refine c_r ?_
 refine rq ?_;intro gd K hgd hK
 try simp (disch:=first|omega|assumption|rfl) only[go_sem,h2,h3,p1,p2,p3,q1,q2,q3,Nat.zero_add]
 refine hK _ _ ?_;clear hK hgd;clear K;try clear gd
 repeat refine c_r ?_
 refine wc0 ?_ ?_
 ·intro hne
  simp only[Bool.not_eq_true',decide_eq_false_iff_not]at hne
  have hne2:¬((a.texts.length:Int)=(b.texts.length:Int)):=fun h=>hne (by omega)
  repeat refine c_r ?_
  refine rq ?_;intro gd K hgd hK
  try simp (disch:=first|omega|assumption|rfl) only[go_sem,h2,h3,p1,p2,p3,q1,q2,q3,Nat.zero_add]
  refine Fn.mono (zdL _ _) ?_
  rintro _ x1 ⟨rfl,hx1⟩
  try simp only[go_sem]
  refine hK _ _ ?_;clear hK hgd;clear K;try clear gd
  repeat refine c_r ?_
  refine rt0 Tryz.ntmps70 ?_
  refine⟨?_,(hE1.trans hEv).trans hx1⟩
  have hc:lexC cmpL a.texts b.texts≠0:=by rw[hinv,hend];exact fun h=>hne2 (zbB.1 h)
  rw[zfk]
  simp only[cmpD,orI]
  rw[if_pos hz0,if_pos hz1,if_pos hz2,if_neg hc,hinv,hend]
 intro heql
 simp only[Bool.not_eq_false',decide_eq_true_eq]at heql
 have heql2:(a.texts.length:Int)=(b.texts.length:Int):=by omega
 have hz3:lexC cmpL a.texts b.texts=0:=by rw[hinv,hend];exact zbB.2 heql2
 have g2:=h2
 have g3:=h3
 have hEL2:=hEv
 repeat refine c_r ?_
 refine rq ?_;intro gd K hgd hK
 try simp (disch:=first|omega|assumption|rfl) only[go_sem,h2,h3,p4,q4,Nat.zero_add]
 refine zcs (l:=a.raw) rfl rfl rfl (vq0) (fun j hj=>?_) ?_
 ·have:=zab (hE1.trans hEv) (hgr j (by simpa using hj))
  rw[List.getElem_map]at this;exact this
 try simp (disch:=first|omega|assumption|rfl) only[go_sem,h2,h3,p4,q4,Nat.zero_add]
 refine zcs (l:=b.raw) rfl rfl rfl (vq0) (fun j hj=>?_) ?_
 ·have:=zab (hE1.trans hEv) (hgr2 j (by simpa using hj))
  rw[List.getElem_map]at this;exact this
 try simp only[go_sem]
 refine Fn.mono (zgi _ _ _) ?_
 rintro _ x1 ⟨rfl,hx1⟩
 try simp only[go_sem]
 refine hK _ _ ?_;clear hK hgd;clear K;try clear gd
 repeat refine c_r ?_
 refine rt0 Tryz.ntmps70 ?_
 refine⟨?_,(hE1.trans hEv).trans hx1⟩
 simp only[cmpD,orI]
 rw[if_pos hz0,if_pos hz1,if_pos hz2,if_pos hz3]
 by_cases hr:cmpL a.raw b.raw=0
 ·rw[if_pos hr,hr]
 ·rw[if_neg hr]
theorem ziz(a b:RecL):zaA a b=if zcG a.owner b.owner=0 then cmpD a.dat b.dat else zcG a.owner b.owner:=by
 simp only[zaA,cmpD,orI]
 (repeat' split)<;>simp_all
theorem zdR(w:World)(ca cb:List Value)(a b:RecL)(ha:RecAt w ca a)(hb:RecAt w cb b)(hoa:zby a)(hob:zby b):
  Fn Tryz.prog 41 #[.agg ca.toArray,.agg cb.toArray] w (fun v w'=>v=vi (zaA a b)∧Ext w w'):=by
 obtain⟨ow,ds,rfl,a1,a2⟩:=ha.ex
 obtain⟨ow2,ds2,rfl,b1,b2⟩:=hb.ex
 have a2':=a2
 have b2':=b2
 obtain⟨nm,nu,tx,rw',rfl,_⟩:=a2.ex
 obtain⟨nm2,nu2,tx2,rw2,rfl,_⟩:=b2.ex
 refine enter Tryz.func41 Tryz.ntmps41 rfl rfl ?_
 repeat refine c_r ?_
 refine rg0 ?_
 repeat refine c_r ?_
 rw[zax]
 refine zb7 ?_
 intro w1 hE1 hs1 hA hB
 have p0:zad w1 (some ⟨w.heap.size,0,Option.none⟩)=some ow:=zaa hA rfl
 have q0:zad w1 (some ⟨w.heap.size+1,0,Option.none⟩)=some ow2:=zaa hB rfl
 refine rq ?_;intro gd K hgd hK
 try simp (disch:=first|omega|assumption|rfl) only[go_sem,p0,q0,Nat.add_zero]
 refine Fn.mono (zgj _ _ _ _ _ (a1.ext hE1) (b1.ext hE1) hoa.lb hob.lb (by have:=hoa.len;omega) (by have:=hob.len;omega)) ?_
 rintro _ w2 ⟨rfl,hE2⟩
 try simp only[go_sem]
 refine hK _ _ ?_;clear hK hgd;clear K;try clear gd
 repeat refine c_r ?_
 refine rg0 ?_
 repeat refine c_r ?_
 refine wc0 ?_ ?_
 ·intro hne
  simp only[Bool.not_eq_true',decide_eq_false_iff_not]at hne
  have hne':¬zcG a.owner b.owner=0:=hne
  repeat (first|refine c_r ?_|refine rg0 ?_)
  refine rt0 Tryz.ntmps41 ?_
  exact⟨by rw[ziz,if_neg hne'];rfl,hE1.trans hE2⟩
 ·intro heq
  simp only[Bool.not_eq_false',decide_eq_true_eq]at heq
  have heq':zcG a.owner b.owner=0:=heq
  have p5:zar w2 (some ⟨w.heap.size,2,Option.none⟩) 5=some [vi a.dat.ty,nm,nu,tx,rw']:=zay (hE2.at hA) (Nat.le_refl 7)
  have q5:zar w2 (some ⟨w.heap.size+1,2,Option.none⟩) 5=some [vi b.dat.ty,nm2,nu2,tx2,rw2]:=zay (hE2.at hB) (Nat.le_refl 7)
  repeat refine c_r ?_
  refine rq ?_;intro gd K hgd hK
  try simp (disch:=first|omega|assumption|rfl) only[go_sem,p5,q5,Nat.add_zero]
  refine Fn.mono (zgk _ _ _ a.dat b.dat (a2'.ext (hE1.trans hE2)) (b2'.ext (hE1.trans hE2)) hoa.dat hob.dat) ?_
  rintro _ w3 ⟨rfl,hE3⟩
  try simp only[go_sem]
  refine hK _ _ ?_;clear hK hgd;clear K;try clear gd
  repeat refine c_r ?_
  refine rt0 Tryz.ntmps41 ?_
  exact⟨by rw[ziz,if_pos heq'],(hE1.trans hE2).trans hE3⟩
theorem zgh(w:World)(ca cb:List Value)(a b:RecL)(ha:RecAt w ca a)(hb:RecAt w cb b)(hoa:zby a)(hob:zby b):
  Fn Tryz.prog 40 #[.agg ca.toArray,.agg cb.toArray] w (fun v w'=>v= .bool (decide (zaA a b=0))∧Ext w w'):=by
 have ha':=ha
 have hb':=hb
 obtain⟨ow,ds,rfl,a1,a2⟩:=ha.ex
 obtain⟨ow2,ds2,rfl,b1,b2⟩:=hb.ex
 obtain⟨nm,nu,tx,rw',rfl,_⟩:=a2.ex
 obtain⟨nm2,nu2,tx2,rw2,rfl,_⟩:=b2.ex
 refine enter Tryz.func40 Tryz.ntmps40 rfl rfl ?_
 repeat refine c_r ?_
 refine rg0 ?_
 repeat refine c_r ?_
 rw[zax]
 refine zb7 ?_
 intro w1 hE1 hs1 hA hB
 have p:=zf1 (n:=7) hA rfl
 have q:=zf1 (n:=7) hB rfl
 refine rq ?_;intro gd K hgd hK
 try simp (disch:=first|omega|assumption|rfl) only[go_sem,p,q]
 refine Fn.mono (zdR _ _ _ a b (ha'.ext hE1) (hb'.ext hE1) hoa hob) ?_
 rintro _ w2 ⟨rfl,hE2⟩
 try simp only[go_sem]
 refine hK _ _ ?_;clear hK hgd;clear K;try clear gd
 repeat refine c_r ?_
 refine rt0 Tryz.ntmps40 ?_
 exact⟨rfl,hE1.trans hE2⟩
theorem zew{β:Type}{cf:RecL→RecL→Int}{jn:RecL→RecL→RecL}{p:β→RecL}{Q:RecL→Prop}(hj:∀x r,Q x→Q r→cf x r=0→Q (jn x r)):∀(l:List β) (acc:List RecL),(∀x∈l,Q (p x))→(∀x∈acc,Q x)→∀x∈zdd cf jn p l acc,Q x
 | [],_,_,h=>h
 |r::l,acc,hl,ha=>zew hj l _ (fun x hx=>hl x (List.mem_cons_of_mem _ hx)) (zei (fun x hx h0=>hj x (p r) hx (hl r (List.mem_cons_self ..)) h0) (hl r (List.mem_cons_self ..)) ha)
theorem zk4{Q:RecL→Prop}(hQ:∀a b,Q a→Q (minT a b)){l:List RecL}(h:∀x∈l,Q x):∀x∈zbw l,Q x:=
 zew (fun x r hx _ _=>hQ x r hx) l [] h (fun x hx=>absurd hx (by simp))
theorem zgR:∀(l:List RecL),(zbw l).length≤l.length:=by
 have h1:∀(r:RecL) (O:List RecL),(putC zaA minT r O).length≤O.length+1:=fun r O=>by
  induction O with
  |nil=>simp[putC]
  |cons x O ih=>
   simp only[putC]
   split
   ·simp;omega
   ·split<;>simp
 have h2:∀(l acc:List RecL),(zdd zaA minT (fun r=>r) l acc).length≤acc.length+l.length:=fun l=>by
  induction l with
  |nil=>intro acc;simp[zdd]
  |cons r l ih=>
   intro acc
   have:=ih (putC zaA minT r acc)
   have:=h1 r acc
   show(zdd zaA minT (fun r=>r) l (putC zaA minT r acc)).length≤_
   simp only[List.length_cons];omega
 intro l
 have h3:(zbw l).length≤([]:List RecL).length+l.length:=h2 l []
 simpa using h3
def IterT{α:Type}(P:Program)(g:FuncId)(cap:Array Value)(W0:World)(n0:Nat)(C T:Nat→Prop)(own:Nat)(Pre:List α→α→Prop)(Full:List α→Prop)(enc:Nat→α→World→Array Value→Prop):Prop:=
 ∀(l:Nat) (J Jx:List α→World→Prop) (W:World),Ext W0 W→n0≤W.heap.size→
  (∀pre A B,J pre A→Keep (fun b=>span W.heap.size own b∨T b) A B→J pre B)→(∀pre A B,Jx pre A→Keep (fun b=>span W.heap.size own b∨T b) A B→Jx pre B)→
  (∀pre x A args,Pre pre x→J pre A→W.heap.size+own≤A.heap.size→KeepB n0 (fun b=>C b∨T b) W A→enc W.heap.size x A args→Yld P l args A (fun v B=>
   (v= .bool true∧J (pre++ [x]) B∧KeepB n0 C A B∧∀b,span W.heap.size own b→B.heap[b]? =A.heap[b]?)∨(v= .bool false∧Jx (pre++ [x]) B)))→
  J [] W→Fn P g (#[.func (.yield l) #[] #[]]++cap) W (fun _ B=>(∃xs,Full xs∧J xs B)∨∃pre x,Pre pre x∧Jx (pre++ [x]) B)
theorem W_rangeT{α:Type}{P:Program}{n:Nat}{f:Operand}{ps:Array Tmp}{assign body:Code}{Q:Post}{σ:Sto}{ds:List Deferred}{w:World}
  {g:FuncId} {cap:Array Value} {W0:World} {n0:Nat} {C T:Nat→Prop} {own:Nat} {Pre:List α→α→Prop} {Full:List α→Prop} {enc:Nat→α→World→Array Value→Prop}
  (hf:ev n σ f= .func (.func g) #[] cap) (hc:zaj P g=true) (hit:IterT P g cap W0 n0 C T own Pre Full enc) (hW0:Ext W0 w) (hn0:n0≤w.heap.size) (hCn:∀b,C b→b<w.heap.size) (hTn:∀b,T b→b<w.heap.size)
  (henc:∀x A args,enc (w.heap.size+2) x A args→args.size=ps.size)
  (I:List α→World→Prop) (Ix:Code→List α→World→Prop)
  (hI:∀pre A B,I pre A→Keep (fun b=>span w.heap.size (2+own) b∨T b) A B→I pre B)
  (hIx:∀c pre A B,Ix c pre A→Keep (fun b=>span w.heap.size (2+own) b∨T b) A B→Ix c pre B)
  (h0:I [] w)
  (hround:∀(l:Nat) (pre:List α) (x:α) (A:World) (args:Array Value),Pre pre x→w.heap.size+2+own≤A.heap.size→I pre A→enc (w.heap.size+2) x A args→
   W P (some l) n assign (zdU (fun σ1 ds1 A1=>ds1=[]∧KeepB (w.heap.size+2+own) C A A1∧∀A2,Keep (two w.heap.size) A1 A2→W P (some l) n body (zlO I Ix (w.heap.size+2+own) C (pre++ [x]) A2) σ1 [] A2) (fun _ _ _ _=>False))
    (ze8 σ (ps.zip args).toList) [] A)
  (hdone:∀xs w',Full xs→w.heap.size+2≤w'.heap.size→I xs w'→w'.heap[w.heap.size]? =some (.deferred (some []))→Q .normal σ ({target:= .collected w.heap.size,args:=#[]}::ds) w')
  (hstop:∀c pre x w',w.heap.size+2≤w'.heap.size→Pre pre x→Ix c (pre++ [x]) w'→w'.heap[w.heap.size]? =some (.deferred (some []))→
   W P Option.none n c Q σ ({target:= .collected w.heap.size,args:=#[]}::ds) w'):
  W P Option.none n (.rangeFunc f ps assign body) Q σ ds w:=by
 refine wpIn_rangeFunc ?_
 intro fn _
 generalize hrec:zhU fn (act n σ ds).tmps ps assign body w.heap.size=rec
 obtain⟨W1,hW1⟩:∃W1,(w.alloc (.deferred (some []))).alloc (.loop (rec .ready Option.none))=W1:=⟨_,rfl⟩
 have hsz1:W1.heap.size=w.heap.size+2:=by rw[←hW1];simp
 have hL1:W1.heap[w.heap.size+1]? =some (.loop (rec .ready Option.none)):=by
  rw[←hW1];have:=World.alloc_heap_new (w.alloc (.deferred (some []))) (.loop (rec .ready Option.none));rwa [World.size_alloc]at this
 have hK1:W1.heap[w.heap.size]? =some (.deferred (some [])):=by
  rw[←hW1];exact(RowKit.Below.heap_alloc _ _ _ (by simp)).trans (World.alloc_heap_new w _)
 have hE1:Ext w W1:=by rw[←hW1];exact(Ext.alloc w _).trans (Ext.alloc _ _)
 have hI1:I [] W1:=hI _ _ _ h0 (hE1.mono (fun _ _ h=>h.elim))
 have hl2:two w.heap.size (w.heap.size+1):= .inr rfl
 have hl2':span w.heap.size (2+own) (w.heap.size+1):=by unfold span;omega
 refine⟨w.heap.size+1,[{target:= .collected w.heap.size,args:=#[]}],W1,{target:= .fn (.func g) cap,args:=#[.func (.yield (w.heap.size+1)) #[] #[]]},W1,g,
  #[.func (.yield (w.heap.size+1)) #[] #[]]++cap,W1,?_,?_,?_,?_,zev,?_⟩
 ·rw[←hW1,←hrec];exact run_enterLoop_outer _ _ _ _ _
 ·simp only[resolve,zc4,hf]
  simp[Deferred.ofValue,ev]
 ·intro f' hf';trivial
 ·simp only[invoke];exact zdi hc
 ·-- the iterator's contract
  have hsp:∀{n:Nat} b,b<n→(span W1.heap.size own b∨T b)→(span w.heap.size (2+own) b∨T b):=fun b _ h=>h.imp (fun h=>by unfold span at*;omega) id
  have hno:∀b,two w.heap.size b→¬(span W1.heap.size own b∨T b):=fun b hb h=>by
   rcases h with h|h
   ·unfold span at h;unfold two at hb;omega
   ·have:=hTn _ h;unfold two at hb;omega
  have hCl:∀b,two w.heap.size b→¬C b:=fun b hb hcb=>by have:=hCn b hcb;rcases hb with rfl|rfl<;>omega
  refine zd3 (CallsIn.mono (hit (w.heap.size+1)
   (fun pre B=>I pre B∧w.heap.size+2≤B.heap.size∧B.heap[w.heap.size+1]? =some (.loop (rec .ready Option.none))∧B.heap[w.heap.size]? =some (.deferred (some [])))
   (fun pre B=>∃c,Ix c pre B∧w.heap.size+2≤B.heap.size∧B.heap[w.heap.size+1]? =some (.loop (rec .done (some c)))∧B.heap[w.heap.size]? =some (.deferred (some [])))
   W1 (hW0.trans hE1) (by omega) ?_ ?_ ?_ ⟨hI1,by omega,hL1,hK1⟩) ?_)
  ·rintro pre A B ⟨hi,hs,hl,hk⟩ hAB
   exact⟨hI _ _ _ hi (hAB.mono hsp),Nat.le_trans hs hAB.size,(hAB.block _ (by omega) (hno _ hl2)).trans hl,(hAB.block _ (by omega) (hno _ (.inl rfl))).trans hk⟩
  ·rintro pre A B ⟨c,hi,hs,hl,hk⟩ hAB
   exact⟨c,hIx _ _ _ _ hi (hAB.mono hsp),Nat.le_trans hs hAB.size,(hAB.block _ (by omega) (hno _ hl2)).trans hl,(hAB.block _ (by omega) (hno _ (.inl rfl))).trans hk⟩
  ·-- one round
   rintro pre x A args hxs ⟨hi,hs,hl,hk⟩ hsA _ hx
   rw[hsz1]at hx
   have hy:=run_yield (P:=P) (args:=args) hl (by rw[←hrec];exact henc x A args hx)
   unfold Yld ziF
   dsimp only
   rw[show (#[]++args:Array Value)=args from by simp]
   rw[hy,←hrec]
   dsimp only[zhU,opR]
   refine zdV (r:=Option.none) (n:=0) (roundIn_of_wpIn (F:=fw Option.none) (n:=0) trivial ?_)
   have hin:(fw Option.none).inRound (w.heap.size+1)=fw (some (w.heap.size+1)):=rfl
   rw[hin]
   have hfold:(ps.zip args).foldl (fun t (x:Tmp×Value)=>t.setIfInBounds x.1 x.2) (act n σ ds).tmps=(act n (ze8 σ (ps.zip args).toList) []).tmps:=by
    rw[←Array.foldl_toList]
    exact zdY n ds _ σ
   have hst:({tmps:=(ps.zip args).foldl (fun t (x:Tmp×Value)=>t.setIfInBounds x.1 x.2) (act n σ ds).tmps,defers:=[]}:Act)=act n (ze8 σ (ps.zip args).toList) []:=by
    rw[hfold];rfl
   have hr:=hround (w.heap.size+1) pre x A args hxs (by omega) hi hx
   unfold W at hr
   rw[←hst]at hr
   refine wpIn_mono hr ?_
   rintro e a A1 ⟨σ1,ds1,rfl,hq⟩
   cases e with
   |normal=>
    obtain⟨rfl,hA1,hbody⟩:=hq
    have hlA1:A1.heap[w.heap.size+1]? =some (.loop (rec .ready Option.none)):=(hA1.block _ (by omega) (hCl _ hl2)).trans hl
    have hkA1:A1.heap[w.heap.size]? =some (.deferred (some [])):=(hA1.block _ (by omega) (hCl _ (.inl rfl))).trans hk
    have hlt1:w.heap.size+1<A1.heap.size:=(Array.getElem?_eq_some_iff.1 hlA1).1
    refine⟨_,run_beginRound hlA1 (by rw[←hrec];rfl),?_⟩
    have hb:=hbody _ (zaK (w:=A1) (r:=w.heap.size+1) (o:= .loop {rec .ready Option.none with state:= .busy}) hl2)
    refine wpIn_mono hb ?_
    have hlA2:(A1.putObj (w.heap.size+1) (.loop {rec .ready Option.none with state:= .busy})).heap[w.heap.size+1]? =some (.loop {rec .ready Option.none with state:= .busy}):=World.putObj_heap_same hlt1
    have hkA2:(A1.putObj (w.heap.size+1) (.loop {rec .ready Option.none with state:= .busy})).heap[w.heap.size]? =some (.deferred (some [])):=(World.putObj_heap_other (by omega)).trans hkA1
    have fin:∀(jump:Option Code) (B:World),KeepB (w.heap.size+2+own) C (A1.putObj (w.heap.size+1) (.loop {rec .ready Option.none with state:= .busy})) B→
      (Instr.endRound (w.heap.size+1) jump).run P B= .ok (.bool jump.isNone) (B.putObj (w.heap.size+1) (.loop (rec (if jump.isNone then .ready else .done) jump)))∧
      w.heap.size+2≤(B.putObj (w.heap.size+1) (.loop (rec (if jump.isNone then .ready else .done) jump))).heap.size∧
      (B.putObj (w.heap.size+1) (.loop (rec (if jump.isNone then .ready else .done) jump))).heap[w.heap.size+1]? =some (.loop (rec (if jump.isNone then .ready else .done) jump))∧
      (B.putObj (w.heap.size+1) (.loop (rec (if jump.isNone then .ready else .done) jump))).heap[w.heap.size]? =some (.deferred (some []))∧
      KeepB n0 C A (B.putObj (w.heap.size+1) (.loop (rec (if jump.isNone then .ready else .done) jump)))∧
      ∀b,span W1.heap.size own b→(B.putObj (w.heap.size+1) (.loop (rec (if jump.isNone then .ready else .done) jump))).heap[b]? =A.heap[b]?:=by
     intro jump B hB
     have hlB:=(hB.block _ (by omega) (hCl _ hl2)).trans hlA2
     have hkB:=(hB.block _ (by omega) (hCl _ (.inl rfl))).trans hkA2
     have hltB:w.heap.size+1<B.heap.size:=(Array.getElem?_eq_some_iff.1 hlB).1
     refine⟨?_,by simp;omega,World.putObj_heap_same hltB,(World.putObj_heap_other (by omega)).trans hkB,?_,?_⟩
     ·have:=run_endRound (P:=P) jump hlB
      rw[←hrec]at this ⊢
      exact this
     ·refine(hA1.mono (by omega) (fun _ _ h=>h)).trans (KeepB.trans ?_ ((hB.mono (by omega) (fun _ _ h=>h)).trans ?_))
      ·exact(zaK (S:=two w.heap.size) hl2).toB (by omega) (fun i hi hs=>by rcases hs with rfl|rfl<;>omega)
      ·exact(zaK (S:=two w.heap.size) hl2).toB (by omega) (fun i hi hs=>by rcases hs with rfl|rfl<;>omega)
     ·intro b hb
      unfold span at hb
      have hCb:¬C b:=fun h=>by have:=hCn b h;omega
      exact(World.putObj_heap_other (by omega)).trans ((hB.block b (by omega) hCb).trans ((World.putObj_heap_other (by omega)).trans (hA1.block b (by omega) hCb)))
    rintro e a B ⟨σ2,ds2,rfl,hq⟩
    cases e with
    |normal=>
     obtain⟨hi',hB⟩:=hq
     obtain⟨h1,h2,h3,h4,h5,h6⟩:=fin Option.none B hB
     exact⟨_,_,h1,_,rfl,.inl ⟨rfl,⟨hI _ _ _ hi' (zaK (.inl hl2')),h2,h3.trans (by rw[←hrec];rfl),h4⟩,h5,h6⟩⟩
    |ret=>
     obtain⟨hi',hB⟩:=hq
     obtain⟨h1,h2,h3,h4,h5,_⟩:=fin (some .ret) B hB
     exact⟨_,_,h1,_,rfl,.inr ⟨rfl,_,hIx _ _ _ _ hi' (zaK (.inl hl2')),h2,h3.trans (by rw[←hrec];rfl),h4⟩⟩
    |exit id=>
     obtain⟨hi',hB⟩:=hq
     obtain⟨h1,h2,h3,h4,h5,_⟩:=fin (some (.exit id)) B hB
     exact⟨_,_,h1,_,rfl,.inr ⟨rfl,_,hIx _ _ _ _ hi' (zaK (.inl hl2')),h2,h3.trans (by rw[←hrec];rfl),h4⟩⟩
    |goto t=>
     obtain⟨hi',hB⟩:=hq
     obtain⟨h1,h2,h3,h4,h5,_⟩:=fin (some (.goto t)) B hB
     exact⟨_,_,h1,_,rfl,.inr ⟨rfl,_,hIx _ _ _ _ hi' (zaK (.inl hl2')),h2,h3.trans (by rw[←hrec];rfl),h4⟩⟩
    |panic c=>exact hq.elim
    |outgrown=>exact hq.elim
   |ret=>exact hq.elim
   |exit id=>exact hq.elim
   |goto t=>exact hq.elim
   |panic c=>exact hq.elim
   |outgrown=>exact hq.elim
  ·rintro e B ⟨v,rfl,h⟩
   rcases h with ⟨xs,hfull,hi,hs,hl,hk⟩| ⟨pre,x,hxs,c,hi,hs,hl,hk⟩
   ·have hend:=run_endLoop (P:=P) hl (by rw[←hrec];simp[zhU])
    have hp:(rec LoopState.ready Option.none).pending=Option.none:=by rw[←hrec];rfl
    rw[hp]at hend
    refine⟨Option.none,_,hend,?_⟩
    exact⟨σ,_,rfl,hdone xs _ hfull (by simp;omega) (hI _ _ _ hi (zaK (.inl hl2'))) ((World.putObj_heap_other (by omega)).trans hk)⟩
   ·have hend:=run_endLoop (P:=P) hl (by rw[←hrec];simp[zhU])
    have hp:(rec LoopState.done (some c)).pending=some c:=by rw[←hrec];rfl
    rw[hp]at hend
    refine⟨some c,_,hend,?_⟩
    exact hstop c pre x _ (by simp;omega) hxs (hIx _ _ _ _ hi (zaK (.inl hl2'))) ((World.putObj_heap_other (by omega)).trans hk)
end Go.Proofs.YtkpdfhbpdkifoaaGreatDoor
