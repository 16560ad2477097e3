/-
  Texts of a proof, joined: I1, I2, I3, I4, I6, I7, I5, X0, X1, X2, KR, KR2, G8, L3.
  Conditions: none.
-/
import Derived.Test.YtahbdamijngmmaaGreatJO10
import Derived.Test.YtahbdamijngmmaaGreatJO01
import Derived.Test.YtahbdamijngmmaaGreatJO05
import Derived.Test.YtahbdamijngmmaaGreatJO02
import Derived.Test.YtahbdamijngmmaaGreatJO06
import Derived.Test.YtahbdamijngmmaaGreatJO07
import Derived.Test.YtahbdamijngmmaaGreatJO03
set_option linter.unusedVariables false
set_option linter.unusedSimpArgs false
set_option linter.defProp false
set_option linter.unnecessarySimpa false
set_option maxHeartbeats 8000000
namespace Go.Proofs.YtahbdamijngmmaaGreat
open Go
set_option maxRecDepth 10000
theorem zbW:∀c∈digs,c.toNat<128:=by decide
theorem zgr{α β:Type}(f:α→β){l:List α}{i:Nat}(h:i<l.length):l.map f=(l.take i).map f++f l[i]::(l.drop (i+1)).map f:=by
 rw[←List.map_cons,←List.map_append,←List.drop_eq_getElem_cons h,List.take_append_drop]
theorem ziM{α β:Type}(f:α→List β){l:List α}{i:Nat}(h:i<l.length):l.flatMap f=(l.take i).flatMap f++(f l[i]++(l.drop (i+1)).flatMap f):=by
 rw[←List.flatMap_cons,←List.flatMap_append,←List.drop_eq_getElem_cons h,List.take_append_drop]
def encW(x:Lab)(_:World)(args:Array Value):Prop:=args=#[vs x]
theorem KeepR.str{n0 n1:Nat}{C:Nat→Prop}{A B:World}(h:KeepR n0 n1 C A B)(hC:∀b,C b→b<n1){r pos:Nat}{s:List UInt8}(hr:n1≤r)(hi:StrIt A r s pos):StrIt B r s pos:=
 hi.block (h.block _ hi.lt (.inr hr) (fun hc=>by have:=hC _ hc;omega))
theorem wordsIt{W0:World}{n0:Nat}{C:Nat→Prop}(hC:∀b,C b→b<n0):IterN Tryz.prog 161 #[] W0 n0 C wordsL encW:=by
 intro lp J Jx W hW hn hJ hJx hY h0
 have hCW:∀b,C b→b<W.heap.size:=fun b h=>by have:=hC b h;omega
 have dl:digs.length=36:=rfl
 refine enter Tryz.func161 Tryz.ntmps161 rfl rfl ?_
 refine go trivial ?_
 refine rq ?_;intro gd K hgd hK
 try simp only[go_sem]
 refine zeP (s:=digs) rfl rfl ?_
 intro w1 hI1 hE1 hs1
 try simp only[go_sem]
 refine hK _ _ ?_;clear hK hgd;clear K;try clear gd
 refine go trivial ?_
 refine zax (Q:=fun e σ' ds' v'=>ds'=[]∧((e= .exit 0∧σ' 0= .func (.yield lp) #[] #[]∧J (digs.map fun c=>[c]) v'∧W.heap.size≤v'.heap.size)∨(e= .ret∧∃pre x suf,wordsL=pre++x::suf∧Jx (pre++ [x]) v'))) ?_ ?_
 ·refine zgP 36 (fun i σ v=>σ 8= .pointer (some ⟨W.heap.size,0,Option.none⟩)∧σ 0= .func (.yield lp) #[] #[]∧J ((digs.take i).map fun c=>[c]) v∧StrIt v W.heap.size digs i∧W.heap.size≤v.heap.size) ?_ ?_ ?_
  ·exact⟨vq0,vq0,hJ _ _ _ h0 (hE1.mono fun _ _ h=>h.elim),hI1,by omega⟩
  ·rintro i σ v hi q ⟨s8,s0,hj,hIt,hsz⟩
   repeat refine c_r ?_
   refine rq ?_;intro gd K hgd hK
   try simp (disch:=first|omega|assumption|rfl) only[go_sem,s8]
   refine zc7 ((vq1 s8)) hIt zbW (fun h=>absurd hi (by omega)) ?_
   intro hi' v1 hIt1 hk1 hz1
   try simp only[go_sem]
   refine hK _ _ ?_;clear hK hgd;clear K;try clear gd
   refine go trivial ?_
   refine rq ?_;intro gd K hgd hK
   try simp (disch:=first|omega|assumption|rfl) only[go_sem,s0]
   refine conv_i2s rfl rfl (vr0) (zbW _ (List.getElem_mem hi')) ?_
   try simp (disch:=first|omega|assumption|rfl) only[go_sem,s0]
   have hsp:wordsL=(digs.take i).map (fun c=>[c])++ [digs[i]]::((digs.drop (i+1)).map (fun c=>[c])++(digs.flatMap (fun c=>digs.map fun d=>[c,d])++ [[48,48,48]])):=by
    unfold wordsL
    rw[zgr (fun c=>[c]) hi',List.append_assoc,List.append_assoc,List.cons_append]
   have hj1:=hJ _ _ _ hj (hk1.mono fun b _ h=>by omega)
   refine Yld.mono (hY _ _ _ v1 _ hsp hj1 rfl) ?_
   rintro u z (⟨rfl,hjz,hkr⟩| ⟨rfl,hjx⟩)
   ·try simp only[go_sem]
    refine hK _ _ ?_;clear hK hgd;clear K;try clear gd
    refine go trivial ?_
    have hz2:=hkr.size
    exact⟨rfl,(vq1 s8),(vq1 s0),by rw[zak hi',List.map_append];exact hjz,hkr.str hCW (Nat.le_refl _) hIt1,by omega⟩
   ·try simp only[go_sem]
    refine hK _ _ ?_;clear hK hgd;clear K;try clear gd
    refine go trivial ?_
    exact⟨rfl,.inr ⟨rfl,_,_,_,hsp,hjx⟩⟩
  ·rintro σ v _ ⟨s8,s0,hj,hIt,hsz⟩
   repeat refine c_r ?_
   refine rq ?_;intro gd K hgd hK
   try simp (disch:=first|omega|assumption|rfl) only[go_sem,s8]
   refine zc7 ((vq1 s8)) hIt zbW (fun h=>?_) (fun h=>absurd h (by rw[dl];omega))
   try simp only[go_sem]
   refine hK _ _ ?_;clear hK hgd;clear K;try clear gd
   refine go trivial ?_
   exact⟨rfl,.inl ⟨rfl,(vq1 s0),by rw[←dl,List.take_length]at hj;exact hj,hsz⟩⟩
 rintro e σ ds w2 ⟨rfl,(⟨rfl,s0,hj,hsz⟩| ⟨rfl,hjx⟩)⟩
 rotate_left
 ·refine go trivial ?_
  exact zat (by simp) rfl (.inr hjx)
 refine go trivial ?_
 refine rq ?_;intro gd K hgd hK
 try simp only[go_sem]
 refine zeP (s:=digs) rfl rfl ?_
 intro w3 hI3 hE3 hs3
 try simp only[go_sem]
 refine hK _ _ ?_;clear hK hgd;clear K;try clear gd
 refine go trivial ?_
 obtain⟨r,hr⟩:∃r,w2.heap.size=r:=⟨_,rfl⟩
 rw[hr]at hI3 ⊢
 have hrW:W.heap.size≤r:=by omega
 refine zax (Q:=fun e σ' ds' v'=>ds'=[]∧((e= .exit 2∧σ' 0= .func (.yield lp) #[] #[]∧J (digs.map (fun c=>[c])++digs.flatMap fun c=>digs.map fun d=>[c,d]) v')∨(e= .ret∧∃pre x suf,wordsL=pre++x::suf∧Jx (pre++ [x]) v'))) ?_ ?_
 ·refine zgP 36 (fun i σ v=>σ 17= .pointer (some ⟨r,0,Option.none⟩)∧σ 0= .func (.yield lp) #[] #[]∧J (digs.map (fun c=>[c])++(digs.take i).flatMap fun c=>digs.map fun d=>[c,d]) v∧StrIt v r digs i) ?_ ?_ ?_
  ·exact⟨vq0,(vq1 s0),by simpa using hJ _ _ _ hj (hE3.mono fun _ _ h=>h.elim),hI3⟩
  ·rintro i σ v hi q ⟨s17,s0,hj,hIt⟩
   repeat refine c_r ?_
   refine rq ?_;intro gd K hgd hK
   try simp (disch:=first|omega|assumption|rfl) only[go_sem,s17]
   refine zc7 ((vq1 s17)) hIt zbW (fun h=>absurd hi (by omega)) ?_
   intro hi' v1 hIt1 hk1 hz1
   try simp only[go_sem]
   refine hK _ _ ?_;clear hK hgd;clear K;try clear gd
   refine go trivial ?_
   refine rq ?_;intro gd K hgd hK
   try simp only[go_sem]
   refine zeP (s:=digs) rfl rfl ?_
   intro v2 hI2 hE2 hs2
   try simp only[go_sem]
   refine hK _ _ ?_;clear hK hgd;clear K;try clear gd
   refine go trivial ?_
   have hlt:=hIt1.lt
   obtain⟨p,hp⟩:∃p,v1.heap.size=p:=⟨_,rfl⟩
   rw[hp]at hI2 hlt ⊢
   obtain⟨c,hc⟩:∃c,digs[i]=c:=⟨_,rfl⟩
   have hcl:c.toNat<128:=zbW _ (by rw[←hc];exact List.getElem_mem hi')
   rw[hc]
   have hsp0:wordsL=(digs.map (fun c=>[c])++(digs.take i).flatMap fun c=>digs.map fun d=>[c,d])++((digs.map fun d=>[c,d])++((digs.drop (i+1)).flatMap (fun c=>digs.map fun d=>[c,d])++ [[48,48,48]])):=by
    unfold wordsL
    rw[ziM (fun c=>digs.map fun d=>[c,d]) hi',hc]
    simp only[List.append_assoc]
   have hjn:J ((digs.map (fun c=>[c])++(digs.take i).flatMap fun c=>digs.map fun d=>[c,d])++(digs.map fun d=>[c,d]))=J (digs.map (fun c=>[c])++(digs.take (i+1)).flatMap fun c=>digs.map fun d=>[c,d]):=by
    rw[zak hi',List.flatMap_append,List.append_assoc,hc];simp
   obtain⟨A,hA⟩:∃A,digs.map (fun c=>[c])++(digs.take i).flatMap (fun c=>digs.map fun d=>[c,d])=A:=⟨_,rfl⟩
   rw[hA]at hj hsp0 hjn
   have hj2:=hJ _ _ _ (hJ _ _ _ hj (hk1.mono fun b _ h=>by show _≤_;omega)) (hE2.mono fun _ _ h=>h.elim)
   have hIt2:StrIt v2 r digs (i+1):=hIt1.block (hE2.block _ (by omega) (fun h=>h))
   refine zgP 36 (fun k σ v=>σ 21= .pointer (some ⟨p,0,Option.none⟩)∧σ 17= .pointer (some ⟨r,0,Option.none⟩)∧σ 0= .func (.yield lp) #[] #[]∧σ 5= .int .i32 c.toNat∧J (A++(digs.take k).map fun d=>[c,d]) v∧StrIt v r digs (i+1)∧StrIt v p digs k) ?_ ?_ ?_
   ·exact⟨vq0,(vq1 s17),(vq1 s0),vq0,by simpa using hj2,hIt2,hI2⟩
   ·rintro k σ v hk q ⟨s21,s17,s0,s5,hj,hItr,hItp⟩
    repeat refine c_r ?_
    refine rq ?_;intro gd K hgd hK
    try simp (disch:=first|omega|assumption|rfl) only[go_sem,s21]
    refine zc7 ((vq1 s21)) hItp zbW (fun h=>absurd hk (by omega)) ?_
    intro hk' v3 hIt3 hk3 hz3
    try simp only[go_sem]
    refine hK _ _ ?_;clear hK hgd;clear K;try clear gd
    refine go trivial ?_
    obtain⟨d,hd⟩:∃d,digs[k]=d:=⟨_,rfl⟩
    have hdl:d.toNat<128:=zbW _ (by rw[←hd];exact List.getElem_mem hk')
    rw[hd]
    refine rq ?_;intro gd K hgd hK
    try simp (disch:=first|omega|assumption|rfl) only[go_sem,s0,s5]
    refine zko (z:= .int .i32 0) rfl rfl rfl rfl rfl rfl ?_
    intro v4 hE4 hs4 ho4
    try simp only[go_sem]
    have hr4:=ho4.row
    obtain⟨a4,c4,e4,_,hg4⟩:=id hr4
    refine conv_r2s rfl rfl rfl (vr0) hcl hdl ?_ ?_ ?_
    ·have:=hg4 0 (by simp);cases e4;exact this
    ·have:=hg4 1 (by simp);cases e4;exact this
    try simp (disch:=first|omega|assumption|rfl) only[go_sem,s0]
    have hsp:wordsL=(A++(digs.take k).map fun d=>[c,d])++ [c,d]::((digs.drop (k+1)).map (fun d=>[c,d])++((digs.drop (i+1)).flatMap (fun c=>digs.map fun d=>[c,d])++ [[48,48,48]])):=by
     rw[hsp0,zgr (fun d=>[c,d]) hk',hd]
     simp only[List.append_assoc,List.cons_append]
    have hj4:=hJ _ _ _ (hJ _ _ _ hj (hk3.mono fun b _ h=>by show _≤_;omega)) (hE4.mono fun _ _ h=>h.elim)
    refine Yld.mono (hY _ _ _ v4 _ hsp hj4 rfl) ?_
    have hItr4:StrIt v4 r digs (i+1):=(hItr.block (hk3.block _ hItr.lt (by omega))).block (hE4.block _ (by have:=hItr.lt;omega) (fun h=>h))
    have hItp4:StrIt v4 p digs (k+1):=hIt3.block (hE4.block _ hIt3.lt (fun h=>h))
    rintro u z (⟨rfl,hjz,hkr⟩| ⟨rfl,hjx⟩)
    ·try simp only[go_sem]
     refine hK _ _ ?_;clear hK hgd;clear K;try clear gd
     refine go trivial ?_
     exact⟨rfl,(vq1 s21),(vq1 s17),(vq1 s0),(vq1 s5),by rw[zak hk',List.map_append,←List.append_assoc,hd];exact hjz,hkr.str hCW hrW hItr4,hkr.str hCW (by omega) hItp4⟩
    ·try simp only[go_sem]
     refine hK _ _ ?_;clear hK hgd;clear K;try clear gd
     refine go trivial ?_
     exact⟨rfl,.inr ⟨rfl,_,_,_,hsp,hjx⟩⟩
   ·rintro σ v _ ⟨s21,s17,s0,s5,hj,hItr,hItp⟩
    repeat refine c_r ?_
    refine rq ?_;intro gd K hgd hK
    try simp (disch:=first|omega|assumption|rfl) only[go_sem,s21]
    refine zc7 ((vq1 s21)) hItp zbW (fun h=>?_) (fun h=>absurd h (by rw[dl];omega))
    try simp only[go_sem]
    refine hK _ _ ?_;clear hK hgd;clear K;try clear gd
    refine go trivial ?_
    rw[←dl,List.take_length,hjn]at hj
    exact⟨rfl,(vq1 s17),(vq1 s0),hj,hItr⟩
  ·rintro σ v _ ⟨s17,s0,hj,hIt⟩
   repeat refine c_r ?_
   refine rq ?_;intro gd K hgd hK
   try simp (disch:=first|omega|assumption|rfl) only[go_sem,s17]
   refine zc7 ((vq1 s17)) hIt zbW (fun h=>?_) (fun h=>absurd h (by rw[dl];omega))
   try simp only[go_sem]
   refine hK _ _ ?_;clear hK hgd;clear K;try clear gd
   refine go trivial ?_
   rw[←dl,List.take_length]at hj
   exact⟨rfl,.inl ⟨rfl,(vq1 s0),hj⟩⟩
 rintro e σ ds w4 ⟨rfl,(⟨rfl,s0,hj⟩| ⟨rfl,hjx⟩)⟩
 rotate_left
 ·refine go trivial ?_
  exact zat (by simp) rfl (.inr hjx)
 refine go trivial ?_
 refine rq ?_;intro gd K hgd hK
 try simp (disch:=first|omega|assumption|rfl) only[go_sem,s0]
 have hsp:wordsL=(digs.map (fun c=>[c])++digs.flatMap fun c=>digs.map fun d=>[c,d])++ [48,48,48]::[]:=rfl
 refine Yld.mono (hY _ _ _ w4 _ hsp hj rfl) ?_
 rintro u z (⟨rfl,hjz,hkr⟩| ⟨rfl,hjx⟩)
 ·try simp only[go_sem]
  refine hK _ _ ?_;clear hK hgd;clear K;try clear gd
  refine go trivial ?_
  exact zat (by simp) rfl (.inl hjz)
 ·try simp only[go_sem]
  refine hK _ _ ?_;clear hK hgd;clear K;try clear gd
  refine go trivial ?_
  exact zat (by simp) rfl (.inr ⟨_,_,_,hsp,hjx⟩)
def hadK(kids:List Lab)(y:Lab):Bool:=kids.any fun k=>decide (zaF k=y)
theorem fresh_at{kids:List Lab}{pre suf:List Lab}{x:Lab}(h:wordsL=pre++x::suf)(hp:∀y∈pre,hadK kids y=true)(hx:hadK kids x=false):zbc kids=x:=by
 unfold zbc
 rw[h,List.find?_append]
 have:pre.find? (fun w=>!(kids.any fun k=>decide (zaF k=w)))=Option.none:=List.find?_eq_none.2 fun y hy=>by
  have:=hp y hy
  unfold hadK at this
  rw[this];simp
 rw[this]
 unfold hadK at hx
 simp[hx]
theorem fresh_no{kids:List Lab}(hp:∀y∈wordsL,hadK kids y=true):zbc kids=[]:=by
 unfold zbc
 have:wordsL.find? (fun w=>!(kids.any fun k=>decide (zaF k=w)))=Option.none:=List.find?_eq_none.2 fun y hy=>by
  have:=hp y hy
  unfold hadK at this
  rw[this];simp
 rw[this];rfl
theorem had_snoc{kids:List Lab}{i:Nat}(h:i<kids.length)(y:Lab):hadK (kids.take (i+1)) y=(hadK (kids.take i) y||decide (zaF kids[i]=y)):=by
 unfold hadK;rw[zak h,List.any_append];simp
theorem words_ok(w:World):Fn Tryz.prog 112 #[] w (fun v w'=>v= .func (.func 161) #[] #[]∧Ext w w'):=by
 refine enter Tryz.func112 Tryz.ntmps112 rfl rfl ?_
 refine go trivial ?_
 refine rt0 Tryz.ntmps112 ?_
 exact⟨rfl,Keep.refl _ _⟩
structure FrI(w v:World)(b:Nat)(M:List (Lab×Value)):Prop where
 r:v.heap[b]? =some (.cells #[vs []] 9 (0,0))
 c:v.heap[b+2]? =some (.cells #[.map (some (b+1))] 202 (0,0))
 m:MapAt v (b+1) M
 e:Ext w v
theorem FrI.lt{w v:World}{b:Nat}{M:List (Lab×Value)}(h:FrI w v b M):b+2<v.heap.size:=(Array.getElem?_eq_some_iff.1 h.c).1
theorem FrI.keep{w v x:World}{b:Nat}{M:List (Lab×Value)}{S:Nat→Prop}(h:FrI w v b M)(hw:w.heap.size≤b)(hk:Keep S v x)(hS:∀i,S i→b+3≤i):FrI w x b M:=by
 have:=h.lt
 have hn:∀i,i<b+3→¬S i:=fun i hi hs=>by have:=hS i hs;omega
 exact⟨(hk.block _ (by omega) (hn _ (by omega))).trans h.r,(hk.block _ (by omega) (hn _ (by omega))).trans h.c,h.m.block (hk.block _ (by omega) (hn _ (by omega))),Keep.to_ext h.e rfl (fun i hi=>by have:=hS i hi;omega) hk⟩
theorem zij(w:World)(kv:Value)(kids:List Lab)(hk:Row w kv (kids.map vs))(hb:LB kids)(hl:kids.length≤1000000000):
  Fn Tryz.prog 61 #[kv] w (fun v w'=>v=vs (zbc kids)∧Ext w w'):=by
 obtain⟨a,c,rfl,hc,hg⟩:=hk
 rw[List.length_map]at hc ⊢
 refine enter Tryz.func61 Tryz.ntmps61 rfl rfl ?_
 refine go trivial ?_
 refine zaM ?_
 intro w1 hE1 hs1 hA
 obtain⟨b,hbe⟩:∃b,w.heap.size=b:=⟨_,rfl⟩
 rw[hbe]at hA hs1 ⊢
 refine rq ?_;intro gd K hgd hK
 try simp only[go_sem]
 rw[zap,hs1]
 refine st_al2 ?_
 rw[hs1]
 intro z hEz hsz hM hC
 rw[show b+1+1=b+2 from rfl]at hC ⊢
 refine zbj rfl rfl rfl hC (by simp) (by simp) ?_
 intro w2 hs2 hC2 hk2
 try simp only[go_sem]
 refine hK _ _ ?_;clear hK hgd;clear K;try clear gd
 have hF:FrI w w2 b []:=⟨(hk2.block _ (by omega) (by omega)).trans (Ext.at hEz hA),hC2,MapAt.block ⟨_,_,hM,rfl,by simp,by simp⟩ (hk2.block _ (by omega) (by omega)),Keep.to_ext (hE1.trans hEz) rfl (fun i hi=>by omega) hk2⟩
 clear hA hEz hsz hM hC hs2 hC2 hk2 z
 refine go trivial ?_
 refine zax (Q:=fun e σ' ds' v=>e= .exit 0∧ds'=[]∧σ' 2= .pointer (some ⟨b,0,Option.none⟩)∧σ' 3= .pointer (some ⟨b+2,0,Option.none⟩)∧∃M,FrI w v b M∧∀k,M.lookup k=if hadK kids k then some (.bool true) else Option.none) ?_ ?_
 ·refine zgP kids.length (fun i σ v=>(σ 10=vi i∧σ 9=vi kids.length∧σ 8= .slice a kids.length c∧σ 2= .pointer (some ⟨b,0,Option.none⟩)∧σ 3= .pointer (some ⟨b+2,0,Option.none⟩))∧∃M,FrI w v b M∧∀k,M.lookup k=if hadK (kids.take i) k then some (.bool true) else Option.none) ?_ ?_ ?_
  ·exact⟨⟨vr0,vq0,vq0,vq0,vq0⟩,[],hF,fun k=>rfl⟩
  ·rintro i σ v hi q ⟨s,M,hFv,hMl⟩
   have g:=zaa hFv.e (hg i (by rw[List.length_map];exact hi))
   rw[List.getElem_map]at g
   obtain⟨xa,rfl⟩:=Option.isSome_iff_exists.1 (zad g)
   have pc:zah v (some ⟨b+2,0,Option.none⟩)=some (.map (some (b+1))):=zac hFv.c rfl
   obtain⟨k,hke⟩:∃k,kids[i]=k:=⟨_,rfl⟩
   have hsn:=had_snoc hi
   rw[hke]at g hsn
   have hkb:k.length≤9000000000000000000:=hb k (by rw[←hke];exact List.getElem_mem hi)
   refine go (an3 s q g) ?_
   refine zax (Q:=fun e σ' ds' v'=>e= .normal∧ds'=[]∧(σ' 10=vi i∧σ' 9=vi kids.length∧σ' 8= .slice (some xa) kids.length c∧σ' 2= .pointer (some ⟨b,0,Option.none⟩)∧σ' 3= .pointer (some ⟨b+2,0,Option.none⟩))∧∃M,FrI w v' b M∧∀k,M.lookup k=if hadK (kids.take (i+1)) k then some (.bool true) else Option.none) ?_ ?_
   ·refine zaL (fun i=>i==3) [(0,true),(1,true),(2,false),(3,false)] NoS mixed (by kernel_rfl) ?_;intro gd K x hgd hx hxe hK;clear hxe
    have pcx:=zaa hx pc
    simp (disch:=first|omega|assumption|rfl) only[go_sem,s,pcx]
    refine Fn.mono (zcg x k hkb) ?_
    rintro _ y ⟨rfl,hy⟩
    refine⟨.inr hy,?_⟩
    simp (disch:=first|omega|assumption|rfl) only[go_sem]
    have hFy:=hFv.keep (by omega) (hx.trans hy) (fun i h=>h.elim)
    have hly:=hFy.lt
    cases hh:hadK (kids.take i) (zaF k) with
    |true=>
     refine ziy (l:=M) (key:=zaF k) (v:= .bool true) rfl rfl (vq0) (vq0) (vr0) hFy.m (by rw[hMl,hh];rfl) ?_
     intro z hm hkz hz
     refine⟨.inl rfl,?_⟩
     simp (disch:=first|omega|assumption|rfl) only[go_sem]
     refine hK _ _ ?_;clear hK hgd;clear K;try clear gd
     refine⟨rfl,rfl,sc s,M,⟨(hkz.block _ (by omega) (by omega)).trans hFy.r,(hkz.block _ (by omega) (by omega)).trans hFy.c,hm,Keep.to_ext hFy.e rfl (fun i hi=>by omega) hkz⟩,fun y=>?_⟩
     rw[hMl,hsn]
     by_cases hy:zaF k=y
     ·subst hy;rw[hh];rfl
     ·rw[decide_eq_false hy,Bool.or_false]
    |false=>
     refine zec (l:=M) (key:=zaF k) (v:= .bool true) rfl rfl (vq0) (vq0) (vr0) hFy.m (by rw[hMl,hh];rfl) ?_
     intro z hm hkz hz
     refine⟨.inl rfl,?_⟩
     simp (disch:=first|omega|assumption|rfl) only[go_sem]
     refine hK _ _ ?_;clear hK hgd;clear K;try clear gd
     refine⟨rfl,rfl,sc s,_,⟨(hkz.block _ (by omega) (by omega)).trans hFy.r,(hkz.block _ (by omega) (by omega)).trans hFy.c,hm,Keep.to_ext hFy.e rfl (fun i hi=>by omega) hkz⟩,fun y=>?_⟩
     rw[List.lookup_append,hMl,hsn]
     by_cases hy:zaF k=y
     ·subst hy;rw[hh];simp
     ·rw[decide_eq_false hy,Bool.or_false]
      have:(y==zaF k)=false:=beq_eq_false_iff_ne.2 fun e=>hy e.symm
      cases hadK (kids.take i) y<;>simp[List.lookup,this]
   rintro _ σ1 _ v1 ⟨rfl,rfl,s1,M1,hF1,hM1⟩
   refine go (an2 s1 q) ?_
   exact⟨rfl,sc (an2 s1 q),M1,hF1,hM1⟩
  ·rintro σ v q ⟨s,M,hFv,hMl⟩
   refine go (an2 s q) ?_
   rw[List.take_length]at hMl
   exact⟨rfl,rfl,(vq1 s),(vq1 s),M,hFv,hMl⟩
 rintro _ σ _ w3 ⟨rfl,rfl,s2,s3,M,hF3,hMl⟩
 refine go trivial ?_
 refine rc trivial (words_ok w3) ?_
 rintro _ w4 ⟨rfl,hE4⟩
 refine rgo trivial ?_
 have hF4:=hF3.keep (by omega) hE4 (fun i h=>h.elim)
 have hl4:=hF4.lt
 obtain⟨D,hD⟩:∃D,w4.heap.size=D:=⟨_,rfl⟩
 refine zax (Q:=fun e σ' ds' v'=>(e= .normal∨e= .ret)∧ds'=[{target:= .collected D,args:=#[]}]∧v'.heap[D]? =some (.deferred (some []))∧σ' 2= .pointer (some ⟨b,0,Option.none⟩)∧Ext w v'∧b<D∧((e= .normal∧zbc kids=[]∧v'.heap[b]? =some (.cells #[vs []] 9 (0,0)))∨(e= .ret∧v'.heap[b]? =some (.cells #[vs (zbc kids)] 9 (0,0))))) ?_ ?_
 ·refine W_rangeN (g:=161) (cap:=#[]) (vq0) rfl (wordsIt (C:=fun i=>i=b) (W0:=w4) (n0:=w4.heap.size) (fun i hi=>by omega)) (Keep.refl _ _) (Nat.le_refl _) (fun i hi=>by omega)
   (fun x B args h=>by rw[h];rfl)
   (fun pre v=>FrI w v b M∧∀y∈pre,hadK kids y=true)
   (fun c pre v=>c= .ret∧Ext w v∧∃pre' x,pre=pre'++ [x]∧(∀y∈pre',hadK kids y=true)∧hadK kids x=false∧v.heap[b]? =some (.cells #[vs x] 9 (0,0))) ?_ ?_ ?_ ?_ ?_ ?_
  ·rintro pre A B ⟨h1,h2⟩ hk
   exact⟨h1.keep (by omega) hk (fun i hi=>by omega),h2⟩
  ·rintro c pre A B ⟨rfl,h1,pre',x,h2,h3,h4,h5⟩ hk
   exact⟨rfl,Keep.to_ext h1 rfl (fun i hi=>by omega) hk,pre',x,h2,h3,h4,(hk.block _ (Array.getElem?_eq_some_iff.1 h5).1 (by omega)).trans h5⟩
  ·exact⟨hF4,fun y hy=>by cases hy⟩
  ·rintro lp pre x suf A args hxs hszA ⟨h1,h2⟩ rfl
   refine rq ?_;intro gd K hgd hK
   try simp only[go_sem]
   refine hK _ _ ?_;clear hK hgd;clear K;try clear gd
   refine zaC ?_
   refine⟨rfl,Keep.refl _ _,fun Y hY=>?_⟩
   have hFY:=h1.keep (by omega) hY (fun i hi=>by unfold two at hi;omega)
   have hlY:=hFY.lt
   have pc:zah Y (some ⟨b+2,0,Option.none⟩)=some (.map (some (b+1))):=zac hFY.c rfl
   have hlk:=hFY.m.lk (P:=Tryz.prog) (t:=202) (kt:=9) (et:=4) (z:= .bool false) rfl rfl rfl x
   replace hlk:lkV Tryz.prog Y 202 (.map (some (b+1))) (vs x) false=some (.bool (hadK kids x)):=by rw[hlk,hMl];cases hadK kids x<;>rfl
   cases hh:hadK kids x with
   |true=>
    rw[hh]at hlk
    refine go trivial ?_
    refine rq ?_;intro gd K hgd hK
    try simp (disch:=first|omega|assumption|rfl) only[go_sem,s3,pc]
    refine zgn (vr0) (vr0) hlk ?_
    try simp only[go_sem]
    refine hK _ _ ?_;clear hK hgd;clear K;try clear gd
    refine go trivial ?_
    refine⟨⟨hFY,fun y hy=>?_⟩,Keep.refl _ _⟩
    rcases List.mem_append.1 hy with hy|hy
    ·exact h2 y hy
    ·rw[List.mem_singleton.1 hy];exact hh
   |false=>
    rw[hh]at hlk
    refine go trivial ?_
    refine rq ?_;intro gd K hgd hK
    try simp (disch:=first|omega|assumption|rfl) only[go_sem,s3,pc]
    refine zgn (vr0) (vr0) hlk ?_
    try simp only[go_sem]
    refine hK _ _ ?_;clear hK hgd;clear K;try clear gd
    refine go trivial ?_
    refine rq ?_;intro gd K hgd hK
    try simp (disch:=first|omega|assumption|rfl) only[go_sem,s2]
    refine zbj rfl rfl rfl hFY.r (by simp) (by simp) ?_
    intro z hz1 hz2 hk
    try simp only[go_sem]
    refine hK _ _ ?_;clear hK hgd;clear K;try clear gd
    refine go trivial ?_
    exact⟨⟨rfl,Keep.to_ext hFY.e rfl (fun i hi=>by omega) hk,pre,x,rfl,h2,hh,hz2⟩,hk⟩
  ·rintro v hsz ⟨h1,h2⟩ hDv
   rw[hD]at hDv
   exact⟨.inl rfl,by rw[hD],hDv,(vq1 s2),h1.e,by omega,.inl ⟨rfl,fresh_no h2,h1.r⟩⟩
  ·rintro c pre x suf v hsz hxs ⟨rfl,h1,pre',x',h2,h3,h4,h5⟩ hDv
   rw[hD]at hDv
   obtain⟨rfl,h6⟩:=List.append_inj' h2 rfl
   obtain rfl:x=x':=by simpa using h6
   refine go trivial ?_
   exact⟨.inr rfl,by rw[hD],hDv,(vq1 s2),h1,by omega,.inr ⟨rfl,by rw[fresh_at hxs h3 h4];exact h5⟩⟩
 rintro e σ2 ds v ⟨_,rfl,hDv,t2,hEv,hbD,(⟨rfl,hf,hr⟩| ⟨rfl,hr⟩)⟩
 ·have hlv:=(Array.getElem?_eq_some_iff.1 hr).1
  refine go trivial ?_
  refine rq ?_;intro gd K hgd hK
  try simp (disch:=first|omega|assumption|rfl) only[go_sem,t2]
  refine zbj rfl rfl rfl hr (by simp) (by simp) ?_
  intro z hz1 hz2 hk
  try simp only[go_sem]
  refine hK _ _ ?_;clear hK hgd;clear K;try clear gd
  refine go trivial ?_
  refine zhN (.inr rfl) Tryz.ntmps61 rfl ((hk.block _ (Array.getElem?_eq_some_iff.1 hDv).1 (by omega)).trans hDv) fun y hy hys=>⟨_,zjt (v:=vs []) ((vq1 t2)) rfl rfl (zac (i:=0) ((hy.block _ (by omega) (by omega)).trans hz2) rfl) zaz,?_⟩
  exact⟨by rw[hf];rfl,Keep.to_ext (Keep.to_ext hEv rfl (fun i hi=>by omega) hk) rfl (fun i hi=>by omega) hy⟩
 ·have hlv:=(Array.getElem?_eq_some_iff.1 hr).1
  refine go trivial ?_
  refine zhN (.inr rfl) Tryz.ntmps61 rfl hDv fun y hy hys=>⟨_,zjt (v:=vs (zbc kids)) ((vq1 t2)) rfl rfl (zac (i:=0) ((hy.block _ (by omega) (by omega)).trans hr) rfl) zaz,?_⟩
  exact⟨rfl,Keep.to_ext hEv rfl (fun i hi=>by omega) hy⟩
structure ClsAt(w:World)(cs:List Value)(c:ClsL):Prop where
 ex:∃nv,cs=[nv,.bool c.other]∧Row w nv (c.name.map vs)
theorem ClsAt.ext{w x:World}{cs:List Value}{c:ClsL}(h:ClsAt w cs c)(hE:Ext w x):ClsAt x cs c:=by
 obtain⟨nv,e,hr⟩:=h.ex
 exact⟨nv,e,hr.ext hE⟩
instance Tr.cls{v:Value}{C:List ClsL}:Tr fun w=>Rows 2 (ClsAt w) w v C:=⟨fun hE h=>(h.ext hE).to fun _ _ h=>h.ext hE⟩
theorem zfX{w:World}{v:Value}{C:List ClsL}(h:Rows 2 (ClsAt w) w v C):∃a c,v= .slice a C.length c∧∀i (hi:i<C.length),∃x nv,adr a (i*2)=some x∧a.isSome=true∧zaw w (some x) 2=some [nv,.bool C[i].other]∧Row w nv (C[i].name.map vs):=by
 obtain⟨a,c,e,_,hg⟩:=h.open
 refine⟨a,c,e,fun i hi=>?_⟩
 obtain⟨cs,hc,hA⟩:=hg i hi
 obtain⟨nv,rfl,hr⟩:=hA.ex
 obtain⟨y,rfl⟩:=Option.isSome_iff_exists.1 (zan hc)
 obtain⟨x,hx⟩:∃x,adr (some y) (i*2)=some x:=⟨_,rfl⟩
 rw[hx]at hc
 exact⟨x,nv,hx,rfl,hc,hr⟩
theorem ofF_snoc{st:Bool}{C:List ClsL}{q:Nm}{i:Nat}(h:i<C.length):ofF st (C.take (i+1)) q=ofP st q (ofF st (C.take i) q) C[i]:=by
 unfold ofF;rw[zak h,List.foldl_append];rfl
theorem ofF_name{st:Bool}{C:List ClsL}{q:Nm}{p:Nm→Prop}(h0:p [])(h:∀c∈C,p c.name):p (ofF st C q).1.name:=by
 obtain⟨_,_,_,i4⟩:=zhc (st:=st) (q:=q) (C:=C) (b:=(⟨[],false⟩,false)) (fun h=>by cases h)
 rcases i4 with e| ⟨c,hc,e⟩
 ·unfold ofF;rw[e];exact h0
 ·unfold ofF;rw[e];exact h c hc
structure OfI(w v:World)(b t:Nat)(nv:Value)(B:ClsL):Prop where
 r:v.heap[b]? =some (.cells #[.slice Option.none 0 0,.bool false] t (0,0))
 c:v.heap[b+1]? =some (.cells #[nv,.bool B.other] t (0,0))
 n:Row w nv (B.name.map vs)
 e:Ext w v
theorem OfI.ext{w v x:World}{b t:Nat}{nv:Value}{B:ClsL}(h:OfI w v b t nv B)(hE:Ext v x):OfI w x b t nv B:=⟨Ext.at hE h.r,Ext.at hE h.c,h.n,h.e.trans hE⟩
theorem OfI.lt{w v:World}{b t:Nat}{nv:Value}{B:ClsL}(h:OfI w v b t nv B):b+1<v.heap.size:=(Array.getElem?_eq_some_iff.1 h.c).1
theorem OfI.set{w v x:World}{b t:Nat}{nv mv:Value}{B B':ClsL}(h:OfI w v b t nv B)(hw:w.heap.size≤b)(hk:Keep (fun i=>i=b+1) v x)(hc:x.heap[b+1]? =some (.cells #[mv,.bool B'.other] t (0,0)))(hn:Row w mv (B'.name.map vs)):OfI w x b t mv B':=
 ⟨(hk.block _ (Array.getElem?_eq_some_iff.1 h.r).1 (by omega)).trans h.r,hc,hn,Keep.to_ext h.e rfl (fun i hi=>by omega) hk⟩
theorem zkN(w:World){lv qv:Value}{C:List ClsL}{q:Nm}(hC:Rows 2 (ClsAt w) w lv C)(hq:Row w qv (q.map vs))(hk:∀c∈C,NmK c.name)(mq:NmM q)(hl:C.length≤1000000000):
  Fn Tryz.prog 23 #[lv,qv] w (fun v w'=>Ext w w'∧∃nv,v= .tuple #[.agg #[nv,.bool (ofF true C q).1.other],.bool (ofF true C q).2]∧Row w' nv ((ofF true C q).1.name.map vs)):=by
 obtain⟨a,c,rfl,hg⟩:=zfX hC
 obtain⟨aq,cq,hqv,_⟩:=id hq
 rw[List.length_map]at hqv
 have lq:=mq.len
 obtain⟨b,hb⟩:∃b,w.heap.size=b:=⟨_,rfl⟩
 refine enter Tryz.func23 Tryz.ntmps23 rfl rfl ?_
 refine go trivial ?_
 refine zaM ?_
 rw[hb]
 intro w1 hE1 hs1 hA
 refine rq ?_;intro gd K hgd hK
 try simp only[go_sem]
 refine⟨by kernel_rfl,?_⟩
 rw[show bdV Tryz.prog 44 []=some (.agg #[.slice Option.none 0 0,.bool false]) from by kernel_rfl]
 try simp only[go_sem]
 rw[hs1]
 refine st_al1 ?_
 rw[hs1]
 intro z hEz hsz hB
 refine zbQ (P:=Tryz.prog) (l:=[.slice Option.none 0 0,.bool false]) hB rfl (zaX rfl rfl) rfl rfl ?_
 intro w2 hs2 hB2 hk2
 try simp only[go_sem]
 refine hK _ _ ?_;clear hK hgd;clear K;try clear gd
 have hI:OfI w w2 b 44 (.slice Option.none 0 0) ⟨[],false⟩:=⟨(hk2.block _ (by omega) (by omega)).trans (Ext.at hEz hA),hB2,⟨Option.none,0,rfl,Nat.le_refl _,fun j h=>by simp at h⟩,Keep.to_ext (hE1.trans hEz) rfl (fun i hi=>by omega) hk2⟩
 clear hA hB hB2 hk2 hs2 hEz hsz z
 refine go trivial ?_
 refine zax (Q:=fun e σ' ds' v=>e= .exit 0∧ds'=[]∧(σ' 4= .pointer (some ⟨b,0,Option.none⟩)∧σ' 6= .pointer (some ⟨b+1,0,Option.none⟩)∧σ' 7= .bool (ofF true C q).2)∧∃nv,OfI w v b 44 nv (ofF true C q).1) ?_ ?_
 ·refine zgP C.length (fun i σ v=>(σ 13=vi i∧σ 12=vi C.length∧σ 11= .slice a C.length c∧σ 1=qv∧σ 4= .pointer (some ⟨b,0,Option.none⟩)∧σ 6= .pointer (some ⟨b+1,0,Option.none⟩)∧σ 7= .bool (ofF true (C.take i) q).2)∧∃nv,OfI w v b 44 nv (ofF true (C.take i) q).1) ?_ ?_ ?_
  ·exact⟨⟨vr0,vq0,vq0,vq0,vq0,vq0,vr0⟩,_,hI⟩
  ·rintro i σ v hi p ⟨s,mv,hIv⟩
   obtain⟨x,nv,hx,ha,hcs,hnv⟩:=hg i hi
   obtain⟨xa,rfl⟩:=Option.isSome_iff_exists.1 ha
   have d:=zaf hIv.e hcs
   have hmem:=List.getElem_mem hi
   obtain⟨y,hy⟩:∃y,C[i]=y:=⟨_,rfl⟩
   have hsn:=ofF_snoc (st:=true) (q:=q) hi
   rw[hy]at hcs hnv d hmem hsn
   obtain⟨B,hB⟩:∃B,ofF true (C.take i) q=B:=⟨_,rfl⟩
   rw[hB]at s hIv hsn
   have ky:=hk y hmem
   have ly:=ky.len
   obtain⟨ay,cy,hnve,_⟩:=id hnv
   obtain⟨am,cm,hmve,_⟩:=id hIv.n
   rw[List.length_map]at hnve hmve
   refine go (an3 s p hx) ?_
   refine rq ?_;intro gd K hgd hK
   try simp (disch:=first|omega|assumption|rfl) only[go_sem,s,p,hx,d]
   refine za3 (P:=Tryz.prog) (l:=[nv,.bool y.other]) rfl (zaX hnv.isOne rfl) rfl rfl ?_
   intro v1 hE3 hs3 hD
   try simp only[go_sem]
   refine hK _ _ ?_;clear hK hgd;clear K;try clear gd
   have hI1:=hIv.ext hE3
   have hl1:=hIv.lt
   obtain⟨p9,hp9⟩:∃p,v.heap.size=p:=⟨_,rfl⟩
   rw[hp9]at hD ⊢
   have g0:zah v1 (some ⟨p9,0,Option.none⟩)=some nv:=zac (i:=0) hD rfl
   refine go trivial ?_
   refine zax (Q:=fun e σ' ds' v'=>e= .normal∧ds'=[]∧(σ' 9= .pointer (some ⟨p9,0,Option.none⟩)∧σ' 13=vi i∧σ' 12=vi C.length∧σ' 11= .slice (some xa) C.length c∧σ' 1=qv∧σ' 4= .pointer (some ⟨b,0,Option.none⟩)∧σ' 6= .pointer (some ⟨b+1,0,Option.none⟩)∧σ' 7= .bool B.2)∧Ext v1 v'∧σ' 33= .bool (za0 q y.name && (!B.2||zgs true B.1.name.length y.name.length))) ?_ ?_
   ·cases hu:za0 q y.name with
    |false=>
     refine rcg [(4,21),(7,24)] (an2 s g0) (zdk v1 _ _ _ _ (hq.ext hI1.e) (hnv.ext hI1.e) mq.LB ky.LB (by omega) (by omega)) ?_
     rintro _ v2 ⟨rfl,hE4⟩
     refine reg [(4,21),(7,24)] hu ?_
     exact⟨rfl,rfl,sc s,hE4,(vr1 hu)⟩
    |true=>
     cases hb2:B.2 with
     |false=>
      rw[hb2]at s
      refine rcg [(4,21),(7,24)] (an2 s g0) (zdk v1 _ _ _ _ (hq.ext hI1.e) (hnv.ext hI1.e) mq.LB ky.LB (by omega) (by omega)) ?_
      rintro _ v2 ⟨rfl,hE4⟩
      refine reg [(4,21),(7,24)] (an2 hu s) ?_
      exact⟨rfl,rfl,sc s,hE4,(vr1 hu)⟩
     |true=>
      rw[hb2]at s
      refine rcg [(4,21),(7,24)] (an2 s g0) (zdk v1 _ _ _ _ (hq.ext hI1.e) (hnv.ext hI1.e) mq.LB ky.LB (by omega) (by omega)) ?_
      rintro _ v2 ⟨rfl,hE4⟩
      have g02:=zaa hE4 g0
      have g62:zah v2 (some ⟨b+1,0,Option.none⟩)=some mv:=zac (i:=0) (hI1.ext hE4).c rfl
      rw[hnve]at g02
      rw[hmve]at g62
      refine reg [(4,21),(7,24)] (an4 hu s g02 g62) ?_
      have hlt:decide ((y.name.length:Int)>(B.1.name.length:Int))=zgs true B.1.name.length y.name.length:=by
       show decide _=decide _
       exact decide_eq_decide.2 (by omega)
      exact⟨rfl,rfl,sc s,hE4,(vr1 hlt)⟩
   clear s
   rintro _ σ1 _ v2 ⟨rfl,rfl,s,hE4,s33⟩
   have hI2:=hI1.ext hE4
   have g02:=zaa hE4 g0
   cases ht:(za0 q y.name && (!B.2||zgs true B.1.name.length y.name.length)) with
   |false=>
    rw[ht]at s33
    refine go (an3 s s33 p) ?_
    have e:ofF true (C.take (i+1)) q=B:=by rw[hsn];unfold ofP;rw[ht];rfl
    exact⟨rfl,by rw[e];exact sc (an2 s p),mv,by rw[e];exact hI2⟩
   |true=>
    rw[ht]at s33
    have e:ofF true (C.take (i+1)) q=(⟨y.name,decide (y.name.length<q.length)⟩,true):=by rw[hsn];unfold ofP;rw[ht];rfl
    refine go (an2 s s33) ?_
    refine rq ?_;intro gd K hgd hK
    have hlt:decide ((y.name.length:Int)<(q.length:Int))=decide (y.name.length<q.length):=decide_eq_decide.2 (by omega)
    rw[hnve]at g02
    try simp (disch:=first|omega|assumption|rfl) only[go_sem,s,g02,hqv,hlt]
    refine⟨by kernel_rfl,?_⟩
    rw[show bdV Tryz.prog 44 [(0,.slice ay y.name.length cy),(1,.bool (decide (y.name.length<q.length)))]=some (.agg #[.slice ay y.name.length cy,.bool (decide (y.name.length<q.length))]) from by kernel_rfl]
    try simp (disch:=first|omega|assumption|rfl) only[go_sem,s]
    refine zbQ (P:=Tryz.prog) (l:=[.slice ay y.name.length cy,.bool (decide (y.name.length<q.length))]) hI2.c rfl (zaX rfl rfl) rfl rfl ?_
    intro v3 hs5 hB5 hk5
    try simp only[go_sem]
    refine hK _ _ ?_;clear hK hgd;clear K;try clear gd
    refine go (an2 s p) ?_
    exact⟨rfl,by rw[e];exact sc (an2 s p),_,by rw[e];exact hI2.set (by omega) hk5 hB5 (by rw[←hnve];exact hnv)⟩
  ·rintro σ v p ⟨s,mv,hIv⟩
   rw[List.take_length]at s hIv
   refine go (an2 s p) ?_
   exact⟨rfl,rfl,sc s,mv,hIv⟩
 rintro _ σ _ v ⟨rfl,rfl,s,mv,hIv⟩
 have hl1:=hIv.lt
 have d6:zaw v (some ⟨b+1,0,Option.none⟩) 2=some [mv,.bool (ofF true C q).1.other]:=zay (l:=[mv,.bool (ofF true C q).1.other]) hIv.c rfl
 refine go trivial ?_
 refine rq ?_;intro gd K hgd hK
 try simp (disch:=first|omega|assumption|rfl) only[go_sem,s,d6]
 refine zbQ (P:=Tryz.prog) (l:=[mv,.bool (ofF true C q).1.other]) hIv.r rfl (zaX hIv.n.isOne rfl) rfl rfl ?_
 intro v2 hs2 hB2 hk2
 try simp only[go_sem]
 refine hK _ _ ?_;clear hK hgd;clear K;try clear gd
 refine go trivial ?_
 have hE2:Ext w v2:=Keep.to_ext hIv.e rfl (fun i hi=>by omega) hk2
 refine zaA (.inr rfl) Tryz.ntmps23 rfl (zcB (k:=2) (cs:=[mv,.bool (ofF true C q).1.other]) ((vq1 s)) rfl rfl (zay (l:=[mv,.bool (ofF true C q).1.other]) hB2 rfl) (zal (v:= .bool (ofF true C q).2) ((vq1 s)) zaz)) ?_
 exact⟨hE2,mv,rfl,hIv.n.ext hE2⟩
theorem kid_snoc{C:List ClsL}{z:Nm}{i:Nat}(h:i<C.length)(hf:zag C[i].name=C[i].name):
  ((decide (C[i].name.length=z.length+1) && za0 C[i].name z)=true→∃l t,C[i].name=l::t∧kidC (C.take (i+1)) z=kidC (C.take i) z++ [l])∧
  ((decide (C[i].name.length=z.length+1) && za0 C[i].name z)=false→kidC (C.take (i+1)) z=kidC (C.take i) z):=by
 have hs:=zhf ((C.take i).map fun c=>c.name) C[i].name (zag z)
 have he:kidC (C.take (i+1)) z=zaS ((C.take i).map (fun c=>c.name)++ [C[i].name]) (zag z):=by unfold kidC;rw[zak h,List.map_append];rfl
 constructor
 ·intro ht
  obtain⟨l,hl⟩:=(zjW hf).1 ht
  exact⟨l,_,hl,by rw[he,hs.1 l hl];rfl⟩
 ·intro ht
  rw[he,hs.2 (fun hh=>by rw[(zjW hf).2 hh]at ht;cases ht)];rfl
theorem zhV{C:List ClsL}{z:Nm}:(kidC C z).length≤C.length:=by
 have:=ziE (C.map fun c=>c.name) (zag z)
 rw[List.length_map]at this
 exact this
theorem kidC_LB{C:List ClsL}{z:Nm}(hk:∀c∈C,NmK c.name):LB (kidC C z):=fun l hl=>by
 unfold kidC zaS at hl
 obtain⟨x,hx,he⟩:=List.mem_filterMap.1 hl
 obtain⟨c,hc,rfl⟩:=List.mem_map.1 hx
 cases hn:c.name with
 |nil=>rw[hn]at he;cases he
 |cons a t=>
  rw[hn]at he
  simp only at he
  split at he
  ·cases he
   have:=(hk c hc).lb l (by rw[hn];simp)
   omega
  ·cases he
theorem zj5{kids:List Lab}:(zbc kids).length≤3:=by
 unfold zbc
 cases hf:wordsL.find? fun w=>!(kids.any fun k=>decide (zaF k=w)) with
 |none=>simp
 |some w=>
  have h:=List.mem_of_find?_eq_some hf
  unfold wordsL at h
  simp only[List.mem_append,List.mem_map,List.mem_flatMap,List.mem_singleton]at h
  rcases h with (⟨c,_,rfl⟩| ⟨c,_,d,_,rfl⟩)|rfl<;>simp
theorem zkM(w:World){lv nv:Value}{C:List ClsL}{c:ClsL}(hC:Rows 2 (ClsAt w) w lv C)(hn:Row w nv (c.name.map vs))(hk:∀x∈C,NmK x.name∧zag x.name=x.name)(hc:NmK c.name)(hl:C.length≤1000000000):
  Fn Tryz.prog 25 #[lv,.agg #[nv,.bool c.other]] w (fun v w'=>Ext w w'∧∃rv,v= .tuple #[rv,.bool (repC C c).isSome]∧Row w' rv (((repC C c).getD []).map vs)):=by
 obtain⟨a,cp,rfl,hg⟩:=zfX hC
 obtain⟨an,cn,hnve,_⟩:=id hn
 rw[List.length_map]at hnve
 have lc:=hc.len
 obtain⟨b,hb⟩:∃b,w.heap.size=b:=⟨_,rfl⟩
 have zbI:∀x,Row x (.slice Option.none 0 0) (([]:Nm).map vs):=fun x=>⟨Option.none,0,rfl,Nat.le_refl _,fun j h=>by simp at h⟩
 refine enter Tryz.func25 Tryz.ntmps25 rfl rfl ?_
 repeat refine c_r ?_
 rw[hnve]
 refine go trivial ?_
 rw[←hnve]
 refine zaM ?_
 rw[hb]
 intro w1 hE1 hs1 hA
 have p0:zah w1 (some ⟨b,0,Option.none⟩)=some nv:=zac (i:=0) hA rfl
 have p1:zah w1 (some ⟨b,1,Option.none⟩)=some (.bool c.other):=zac (i:=1) hA rfl
 cases ho:c.other with
 |false=>
  rw[ho]at p1
  refine go (an2 p1 p0) ?_
  refine zaA (.inr rfl) Tryz.ntmps25 rfl (zal (v:=nv) (vq0) (zal (v:= .bool true) (vr0) zaz)) ?_
  unfold repC
  rw[ho]
  exact⟨hE1,nv,rfl,hn.ext hE1⟩
 |true=>
 rw[ho]at p1
 have hrep:repC C c=if zbc (kidC C c.name)=[] then Option.none else if zaH (zbc (kidC C c.name)::c.name)=0 then some (zbc (kidC C c.name)::c.name) else Option.none:=by unfold repC;rw[if_pos ho]
 refine go (an2 p1 p0) ?_
 refine zax (Q:=fun e σ' ds' v=>e= .exit 0∧ds'=[]∧σ' 3= .pointer (some ⟨b,0,Option.none⟩)∧Ext w1 v∧∃kv,σ' 6=kv∧Own w1.heap.size v 9 kv ((kidC C c.name).map vs)) ?_ ?_
 ·refine zgP C.length (fun i σ v=>(σ 18=vi i∧σ 17=vi C.length∧σ 16= .slice a C.length cp∧σ 3= .pointer (some ⟨b,0,Option.none⟩))∧Ext w1 v∧∃kv,σ 6=kv∧Own w1.heap.size v 9 kv ((kidC (C.take i) c.name).map vs)) ?_ ?_ ?_
  ·exact⟨⟨vr0,vq0,vq0,vq0⟩,Keep.refl _ _,_,vr0,Own.nil _ _ _⟩
  ·rintro i σ v hi p ⟨s,hE,kv,s6,hown⟩
   obtain⟨z,yv,hz,ha,hcs,hyv⟩:=hg i hi
   obtain⟨xa,rfl⟩:=Option.isSome_iff_exists.1 ha
   have hE0:=hE1.trans hE
   have d:=zaf hE0 hcs
   obtain⟨ky,fy⟩:=hk _ (List.getElem_mem hi)
   obtain⟨k1,k2⟩:=kid_snoc (z:=c.name) hi fy
   have hkl:=zhV (C:=C.take i) (z:=c.name)
   have hkl2:=List.length_take_le i C
   obtain⟨y,hy⟩:∃y,C[i]=y:=⟨_,rfl⟩
   rw[hy]at hcs hyv d ky fy k1 k2
   have ly:=ky.len
   obtain⟨ay,cy,hyve,hcy,hgy⟩:=id hyv
   rw[List.length_map]at hyve
   refine go (an3 s p hz) ?_
   refine rq ?_;intro gd K hgd hK
   try simp (disch:=first|omega|assumption|rfl) only[go_sem,s,p,hz,d]
   refine za3 (P:=Tryz.prog) (l:=[yv,.bool y.other]) rfl (zaX hyv.isOne rfl) rfl rfl ?_
   intro v1 hE3 hs3 hD
   try simp only[go_sem]
   refine hK _ _ ?_;clear hK hgd;clear K;try clear gd
   obtain⟨p9,hp9⟩:∃p,v.heap.size=p:=⟨_,rfl⟩
   rw[hp9]at hD ⊢
   have g0:zah v1 (some ⟨p9,0,Option.none⟩)=some yv:=zac (i:=0) hD rfl
   have q0:=zaa (hE.trans hE3) p0
   refine go trivial ?_
   refine zax (Q:=fun e σ' ds' v'=>e= .normal∧ds'=[]∧(σ' 8= .pointer (some ⟨p9,0,Option.none⟩)∧σ' 18=vi i∧σ' 17=vi C.length∧σ' 16= .slice (some xa) C.length cp∧σ' 3= .pointer (some ⟨b,0,Option.none⟩))∧σ' 6=kv∧Ext v1 v'∧σ' 36= .bool (decide (y.name.length=c.name.length+1) && za0 y.name c.name)) ?_ ?_
   ·have gl:=g0
    have ql:=q0
    rw[hyve]at gl
    rw[hnve]at ql
    by_cases hl:y.name.length=c.name.length+1
    ·have hle:decide ((y.name.length:Int)=(c.name.length:Int)+1)=true:=decide_eq_true (by omega)
     refine rcg [(8,30)] (an5 s gl ql hle Nat.zero_add) (zdk v1 (.slice ay y.name.length cy) (.slice an c.name.length cn) y.name c.name (by rw[←hyve];exact hyv.ext (hE0.trans hE3)) (by rw[←hnve];exact hn.ext (hE0.trans hE3)) ky.LB hc.LB (by omega) (by omega)) ?_
     rintro _ v2 ⟨rfl,hE4⟩
     refine reg [(8,30)] trivial ?_
     exact⟨rfl,rfl,sc s,(vq1 s6),hE4,by rw[decide_eq_true hl,Bool.true_and];simp only[go_sem]⟩
    ·have hle:decide ((y.name.length:Int)=(c.name.length:Int)+1)=false:=decide_eq_false (by omega)
     refine rgg [(8,30)] (an5 s gl ql hle Nat.zero_add) ?_
     exact⟨rfl,rfl,sc s,(vq1 s6),Keep.refl _ _,by rw[decide_eq_false hl,Bool.false_and];simp only[go_sem]⟩
   clear s s6
   rintro _ σ1 _ v2 ⟨rfl,rfl,s,s6,hE4,s36⟩
   cases ht:(decide (y.name.length=c.name.length+1) && za0 y.name c.name) with
   |false=>
    rw[ht]at s36
    refine go (an3 s s36 p) ?_
    exact⟨rfl,sc (an2 s p),hE.trans (hE3.trans hE4),kv,(vq1 s6),by rw[k2 ht];exact(hown.ext hE3).ext hE4⟩
   |true=>
    rw[ht]at s36
    obtain⟨l,t,hlt,hkk⟩:=k1 ht
    have g02:=zaa hE4 g0
    have c0:=zaa (hE0.trans (hE3.trans hE4)) (hgy 0 (by rw[hlt];simp))
    have hlen0:(0:Int)<(y.name.length:Int):=by rw[hlt];simp
    obtain⟨xy,rfl⟩:=Option.isSome_iff_exists.1 (zad c0)
    rw[zar,List.getElem_map]at c0
    rw[hyve]at g02
    have hl0:y.name[0]'(by rw[hlt];simp)=l:=by simp[hlt]
    rw[hl0]at c0
    refine go (an2 s s36) ?_
    refine rq ?_;intro gd K hgd hK
    try simp (disch:=first|omega|assumption|rfl) only[go_sem,s,s6,g02,hlen0,Int.toNat_zero,zar,c0,Nat.zero_mul]
    refine zdS (z:=vs []) rfl rfl rfl rfl rfl ?_
    intro v3 hE5 hs5 ho5
    try simp (disch:=first|omega|assumption|rfl) only[go_sem,s6]
    have hE13:=hE.trans (hE3.trans hE4)
    refine zbU (((hown.ext hE3).ext hE4).ext hE5) ho5.row rfl rfl rfl rfl rfl rfl ((vq1 s6)) (vr0) (zd3 [l]) (by rw[List.length_map];simp;omega) (by decide) (hE13.trans hE5).size ?_
    intro u v4 ho6 hE6 _ _
    try simp only[go_sem]
    refine hK _ _ ?_;clear hK hgd;clear K;try clear gd
    refine go (an2 s p) ?_
    refine⟨rfl,sc (an2 s p),hE6 _ (hE13.trans hE5) (Nat.le_refl _),u,vq0,?_⟩
    rw[hkk,List.map_append];exact ho6
  ·rintro σ v p ⟨s,hE,kv,s6,hown⟩
   rw[List.take_length]at hown
   refine go (an2 s p) ?_
   exact⟨rfl,rfl,(vq1 s),hE,kv,(vq1 s6),hown⟩
 rintro _ σ _ v ⟨rfl,rfl,s3,hE,kv,s6,hown⟩
 have hkl:=zhV (C:=C) (z:=c.name)
 obtain⟨f,hf⟩:∃f,zbc (kidC C c.name)=f:=⟨_,rfl⟩
 have hfl:=zj5 (kids:=kidC C c.name)
 rw[hf]at hrep hfl
 refine go trivial ?_
 refine rc s6 (zij v kv _ hown.row (kidC_LB fun x hx=>(hk x hx).1) (by omega)) ?_
 rintro _ v1 ⟨rfl,hE2⟩
 rw[hf]
 refine rgo trivial ?_
 have hnil:Value.string ⟨#[]⟩=vs []:=rfl
 have hE12:=hE.trans hE2
 by_cases hf0:f=[]
 ·refine go (an2 hnil (decide_eq_true hf0)) ?_
  refine zaA (.inr rfl) Tryz.ntmps25 rfl (zal (v:= .slice Option.none 0 0) (vr0) (zal (v:= .bool false) (vr0) zaz)) ?_
  rw[hrep,if_pos hf0]
  exact⟨hE1.trans hE12,_,rfl,zbI _⟩
 rw[if_neg hf0]at hrep
 refine go (an2 hnil (decide_eq_false hf0)) ?_
 have q0:=zaa hE12 p0
 have hE02:=hE1.trans hE12
 refine rc (an2 s3 q0) (zim v1 nv f c.name (hn.ext hE02) (by omega)) ?_
 rintro uv v2 ⟨hu,hE3⟩
 refine rgo trivial ?_
 obtain⟨au,cu,huv,hcu,_⟩:=id hu.1
 rw[List.length_map]at huv hcu
 refine rc trivial (zgW v2 uv (f::c.name) hu.1 (fun l hl=>by
  rcases List.mem_cons.1 hl with rfl|hl
  ·omega
  ·have:=hc.lb l hl;omega) (by simp;omega)) ?_
 rintro _ v3 ⟨rfl,hE4⟩
 refine rgo trivial ?_
 have hE03:=hE02.trans (hE3.trans hE4)
 by_cases hck:zaH (f::c.name)=0
 ·rw[if_pos hck]at hrep
  refine go (decide_eq_true hck) ?_
  rw[huv]
  refine rc trivial (P_cs.Clip_ok hcu) ?_
  rintro _ v4 ⟨rfl,hv4⟩
  replace hv4:=hv4.symm
  subst hv4
  refine rgo trivial ?_
  have hul:Row v3 (.slice au (f::c.name).length (f::c.name).length) ((f::c.name).map vs):=by
   have h1:=hu.1.ext hE4
   rw[huv]at h1
   obtain⟨a',c',e,_,hg'⟩:=h1
   rw[Value.slice.injEq]at e
   obtain⟨rfl,_,rfl⟩:=e
   exact⟨au,_,by rw[List.length_map],by rw[List.length_map];exact Nat.le_refl _,hg'⟩
  refine zaA (.inr rfl) Tryz.ntmps25 rfl (zal (v:= .slice au (f::c.name).length (f::c.name).length) (vr0) (zal (v:= .bool true) (vr0) zaz)) ?_
  rw[hrep]
  exact⟨hE03,_,rfl,hul⟩
 ·rw[if_neg hck]at hrep
  refine go (decide_eq_false hck) ?_
  refine zaA (.inr rfl) Tryz.ntmps25 rfl (zal (v:= .slice Option.none 0 0) (vr0) (zal (v:= .bool false) (vr0) zaz)) ?_
  rw[hrep]
  exact⟨hE03,_,rfl,zbI _⟩
section
variable {H : Type} {enc : TypeId × Value → H} {P : Program} {w : World} {base : Nat} {sp : Nat → Bool} {held : Bool}
def RdC(enc:TypeId×Value→H)(P:Program)(w:World)(base:Nat)(sp:Nat→Bool)(held:Bool)(t:TypeId)(cs:List Value):Prop:=∃n x,DataW.trod enc P w base sp held n t cs=some x∧∀k∈x.1.weights P t,k≤reachBytes
theorem RdC.one{t:TypeId}{v:Value}(h:RdC enc P w base sp held t [v]):Rd enc P w base sp held t v:=h
theorem Rd.c{t:TypeId}{v:Value}(h:Rd enc P w base sp held t v):RdC enc P w base sp held t [v]:=h
theorem zgI{a:Addr}:∀(k i:Nat) {l:List Value},l.length=k→(∀j (h:j<l.length),w.cell? (a.add (i+j))=some l[j])→zaN w a i k=some l
 |0,_,l,hl,_=>by
  have:l=[]:=List.length_eq_zero_iff.1 hl
  subst this;rfl
 |k+1,i,l,hl,h=>by
  cases l with
  |nil=>cases hl
  |cons v l=>
   have h0:=h 0 (by simp)
   have ih:=zgI (l:=l) k (i+1) (by simpa using hl) (fun j hj=>by
    have:=h (j+1) (by simpa using hj)
    rw[show i+(j+1)=i+1+j from by omega]at this
    simpa using this)
   unfold zaN
   rw[Nat.add_zero]at h0
   rw[h0,ih];rfl
theorem zeK{t e:TypeId}{k:Nat}{v:Value}(h:Rd enc P w base sp held t v)(ht:P.underlying t=some (.slice e))(hc:P.cellsOf e=k):
  ∃L,RowK k w v L∧(∀cs∈L,RdC enc P w base sp held e cs)∧L.length*P.bytesOf e≤reachBytes:=by
 obtain⟨n,x,h,hw⟩:=h
 rcases Go.Deep.open_slice ht h with ⟨h1,_⟩| ⟨a,len,cap,m,q,D,Pl,h1,_,hl,hm,hmm,rfl,hx⟩
 ·simp only[List.cons.injEq,and_true]at h1
  subst h1
  exact⟨[],⟨Option.none,0,rfl,Nat.le_refl _,fun j h=>by simp at h⟩,fun u h=>(by cases h),by simp⟩
 ·simp only[List.cons.injEq,and_true]at h1
  subst h1
  have hml:len≤m:=by rw[hmm];split<;>omega
  simp only[DataW.weights,ht]at hw
  rw[hc]at hx
  obtain⟨V,hV⟩:=Go.Deep.choose_lt (α:=List Value) (p:=fun i cs=>w.cells? base (a.add (i*k)) k=some cs∧DataW.trod enc P w base sp held q e cs=some (D i,Pl i)) hx
  refine⟨(List.range len).map V,⟨some a,cap,by simp,by simpa using hl,fun j hj=>?_⟩,fun u hu=>?_,?_⟩
  ·simp at hj
   obtain⟨_,h2,h3⟩:=World.cells?_some (hV j (by omega)).1
   have e1:((List.range len).map V)[j]'(by simpa using hj)=V j:=by simp
   rw[e1]
   show zaN w (a.add (j*k)) 0 k=_
   refine zgI k 0 h2 (fun i hi=>?_)
   rw[Nat.zero_add,h3 i (by omega)]
   exact List.getElem?_eq_getElem hi
  ·obtain⟨j,hj,rfl⟩:=List.mem_map.1 hu
   simp at hj
   refine⟨_,_,(hV j (by omega)).2,fun q hq=>hw q (List.mem_cons_of_mem _ (List.mem_append_left _ (zcx (d:=D j) ?_ hq)))⟩
   exact List.mem_map.2 ⟨j,by simpa using hj,rfl⟩
  ·have h1:=hw _ (List.mem_cons_self ..)
   have h2:((List.range len).map V).length*P.bytesOf e≤(((List.range len).map D).length+((List.range (m - len)).map fun j=>D (len+j)).length)*P.bytesOf e:=Nat.mul_le_mul (by simp) (Nat.le_refl _)
   omega
theorem zdJ{e:TypeId}{fs:Array Field}{cs:List Value}(h:RdC enc P w base sp held e cs)(he:P.underlying e=some (.struct fs)):cs.length=P.cellsOf e∧∀(i:Nat) (f:Field),fs[i]? =some f→RdC enc P w base sp held f.type ((cs.drop f.offset).take (P.cellsOf f.type)):=by
 obtain⟨n,x,h,hw⟩:=h
 obtain⟨xs,m,_,rfl,hl,hxl,hf⟩:=DataW.trod_struct he h
 refine⟨hl,fun i f hfi=>?_⟩
 have hi:i<fs.size:=(Array.getElem?_eq_some_iff.1 hfi).1
 have h1:=hf i f hfi
 rw[List.getElem?_eq_getElem (by omega)]at h1
 refine⟨m,_,h1,fun k hk=>hw k ?_⟩
 simp only[DataW.weights,he]
 refine DataW.weights_mem_each (ts:=fs.toList.map (·.type)) (ds:=xs.map (·.1)) (j:=i) (t:=f.type) (d:=xs[i].1) ?_ ?_ k hk
 ·rw[List.getElem?_map]
  rw[show fs.toList[i]? =some f from by simpa using hfi];rfl
 ·rw[List.getElem?_map,List.getElem?_eq_getElem (by omega)];rfl
theorem zgh{t:TypeId}{k:IntKind}{cs:List Value}(h:RdC enc P w base sp held t cs)(ht:P.underlying t=some (.int k)):∃n,cs=[.int k n]∧(Lit.int k n).wf=true:=by
 obtain⟨n,x,h,_⟩:=h
 obtain⟨m,h1,_,h2⟩:=DataW.trod_int ht h
 exact⟨m,h1,h2⟩
end
set_option maxRecDepth 100000
section
variable {H : Type} {enc : TypeId × Value → H} {P : Program} {w : World} {base : Nat} {sp : Nat → Bool} {held : Bool}
theorem zg8{t e:TypeId}{k:IntKind}{v:Value}(h:Rd enc P w base sp held t v)(ht:P.underlying t=some (.slice e))(hc:P.cellsOf e=1)(he:P.underlying e=some (.int k)):∃l:List Int,Row w v (l.map (.int k))∧∀n∈l,(Lit.int k n).wf=true:=by
 obtain⟨vals,hr,hall,_⟩:=zfL h ht hc
 obtain⟨m,rfl,hm⟩:=zhe (f:=fun n=>Value.int k n) (Q:=fun n=>(Lit.int k n).wf=true) (fun u hu=>by
  obtain⟨n,h1,h2⟩:=zgh (hall u hu).c he
  exact⟨n,by simpa using h1,h2⟩)
 exact⟨m,hr,hm⟩
theorem wf_u32{n:Int}(h:(Lit.int .u32 n).wf=true):0≤n∧n≤4294967295:=by
 simp[Lit.wf,IntKind.min,IntKind.max,IntKind.signed,IntKind.bits]at h
 omega
theorem wf_u8{n:Int}(h:(Lit.int .u8 n).wf=true):0≤n∧n≤255:=by
 simp[Lit.wf,IntKind.min,IntKind.max,IntKind.signed,IntKind.bits]at h
 omega
theorem bytes_of{l:List Int}(h:∀n∈l,(Lit.int .u8 n).wf=true):∃m:List UInt8,l.map (Value.int .u8)=m.map zae:=by
 induction l with
 |nil=>exact⟨[],rfl⟩
 |cons n l ih=>
  obtain⟨m,hm⟩:=ih (fun x hx=>h x (List.mem_cons_of_mem _ hx))
  have hb:=wf_u8 (h n (List.mem_cons_self ..))
  obtain⟨k,rfl⟩:∃k:Nat,n=(k:Int):=⟨n.toNat,by omega⟩
  exact⟨UInt8.ofNat k::m,by rw[List.map_cons,List.map_cons,hm,zh9 (by omega)]⟩
theorem rd_data{cs:List Value}(h:RdC enc Tryz.prog w base sp held 197 cs):∃d:DatL,DatAt w cs d∧∀n∈d.nums,0≤n∧n≤4294967295:=by
 obtain⟨hl,hf⟩:=zdJ h rfl
 have hl5:cs.length=5:=hl
 match cs,hl5 with
 | [c0,c1,c2,c3,c4],_=>
  obtain⟨ty,e0,_⟩:=zgh (hf 0 _ rfl) rfl
  obtain⟨names,n1,_⟩:=rd_names (P:=Tryz.prog) (ts:=27) (tb:=9) (RdC.one (hf 1 _ rfl)) rfl rfl rfl rfl rfl rfl
  obtain⟨nums,n2,n3⟩:=zg8 (RdC.one (hf 2 _ rfl)) rfl rfl rfl
  obtain⟨texts,n4,_⟩:=zeL (P:=Tryz.prog) (RdC.one (hf 3 _ rfl)) (e:=9) rfl rfl rfl rfl
  obtain⟨raw,n5,n6⟩:=zg8 (RdC.one (hf 4 _ rfl)) rfl rfl rfl
  obtain⟨rb,hrb⟩:=bytes_of n6
  rw[hrb]at n5
  have e0':c0=vi ty:=List.head_eq_of_cons_eq (show [c0]=[vi ty] from e0)
  exact⟨⟨ty,names,nums,texts,rb⟩,⟨c1,c2,c3,c4,by rw[e0'],n1,n2,n4,n5⟩,fun n hn=>wf_u32 (n3 n hn)⟩
theorem rd_rec{cs:List Value}(h:RdC enc Tryz.prog w base sp held 201 cs):∃r:RecL,RecAt w cs r∧∀n∈r.dat.nums,0≤n∧n≤4294967295:=by
 obtain⟨hl,hf⟩:=zdJ h rfl
 have hl7:cs.length=7:=hl
 match cs,hl7 with
 | [c0,c1,c2,c3,c4,c5,c6],_=>
  obtain⟨owner,n0,_⟩:=zeL (P:=Tryz.prog) (RdC.one (hf 0 _ rfl)) (e:=9) rfl rfl rfl rfl
  obtain⟨ttl,e1,_⟩:=zgh (hf 1 _ rfl) rfl
  obtain⟨d,hd,hn⟩:=rd_data (hf 2 _ rfl)
  have e1':c1=v32 ttl:=List.head_eq_of_cons_eq (show [c1]=[v32 ttl] from e1)
  have hd':DatAt w [c2,c3,c4,c5,c6] d:=hd
  exact⟨⟨owner,ttl,d⟩,⟨c0,[c2,c3,c4,c5,c6],by rw[e1'],n0,hd'⟩,hn⟩
theorem rd_recs{v:Value}(h:Rd enc Tryz.prog w base sp held 120 v):∃R:List RecL,Rows 7 (RecAt w) w v R∧NumR R:=by
 obtain⟨L,hL,hall,_⟩:=zeK h (e:=201) (k:=7) rfl rfl
 have:∀L:List (List Value),(∀cs∈L,RdC enc Tryz.prog w base sp held 201 cs)→∃R:List RecL,L.length=R.length∧(∀i (h:i<L.length) (h':i<R.length),RecAt w L[i] R[i])∧NumR R:=fun L=>by
  induction L with
  |nil=>intro _;exact⟨[],rfl,fun i h=>by simp at h,fun r h=>by cases h⟩
  |cons cs L ih=>
   intro h
   obtain⟨r,h1,h2⟩:=rd_rec (h cs (List.mem_cons_self ..))
   obtain⟨R,a1,a2,a3⟩:=ih (fun x hx=>h x (List.mem_cons_of_mem _ hx))
   refine⟨r::R,by simp[a1],fun i a b=>?_,fun x hx=>?_⟩
   ·cases i with
    |zero=>exact h1
    |succ i=>exact a2 i (by simpa using a) (by simpa using b)
   ·rcases List.mem_cons.1 hx with rfl|hx
    ·exact h2
    ·exact a3 x hx
 obtain⟨R,a1,a2,a3⟩:=this L hall
 exact⟨R,⟨L,hL,a1,a2⟩,a3⟩
end
end Go.Proofs.YtahbdamijngmmaaGreat
