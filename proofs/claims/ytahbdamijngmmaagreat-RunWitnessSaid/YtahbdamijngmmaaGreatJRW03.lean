/-
  Texts of a proof, joined: C3, T0, S1, K12, K13, N1, K21, K22, K23, K24, K33, O1, CP, Q0int, R1, L0, M3a, R2, N2, R3, Q1, Q2, QCcn, QCcu.
  Conditions: none.
-/
import Derived.Test.YtahbdamijngmmaaGreatJRW02
import Derived.Lib.Bytealg
import Derived.Maps.RangeRun
import Derived.Maps.Range
import Derived.Test.YtahbdamijngmmaaGreatJRW01
import Derived.Lib.Builder
import Derived.Lib.AppendStr
import Derived.Lib.UnsafeStr
import Derived.MapFrom
import Derived.WideKeyMaps
import Derived.DeepKeys3
import Derived.Test.YtahbdamijngmmaaGreatProg
import Derived.Shelf.Small.Strs
import Derived.CallsIn
set_option linter.unusedVariables false
set_option linter.unusedSimpArgs false
set_option linter.defProp false
set_option linter.unnecessarySimpa false
set_option maxHeartbeats 8000000
namespace Go.Proofs.YtahbdamijngmmaaGreat
open Go
set_option maxRecDepth 10000
abbrev Nm:=List (List UInt8)
def LB(n:Nm):Prop:=∀l∈n,l.length≤9000000000000000000
theorem LB.get{n:Nm}(h:LB n){i:Nat}(hi:i<n.length):n[i].length≤9000000000000000000:=h _ (List.getElem_mem hi)
def zaj(n:Nm):Nm:=n.map zaS
theorem zaG(n:Nm):(zaj n).length=n.length:=by simp[zaj]
theorem zb7{n:Nm}{i:Nat}(h:i<n.length):zaj (n.take (i+1))=zaj (n.take i)++ [zaS n[i]]:=by
 rw[zap h];simp only[zaj,List.map_append,List.map_cons,List.map_nil]
theorem zeE{a b:Nm}(h:a.length≠b.length):zaj a≠zaj b:=fun e=>h (by rw[←zaG a,e,zaG])
theorem zfv{a b:Nm}{i:Nat}(ha:i<a.length)(hb:i<b.length)(h:zaS a[i]≠zaS b[i]):zaj a≠zaj b:=by
 intro e
 apply h
 have:=congrArg (fun l:Nm=>l[i]?) e
 simpa [zaj,ha,hb] using this
theorem zg9(w:World)(a b:Value)(xs ys:List (List UInt8))(ha:Row w a (xs.map vs))(hb:Row w b (ys.map vs))(hx:LB xs)(hy:LB ys)(hxl:xs.length≤9000000000000000000)(hyl:ys.length≤9000000000000000000):
  Fn Tryz.prog 22 #[a,b] w (fun v w'=>v= .bool (decide (zaj xs=zaj ys))∧Ext w w'):=by
 obtain⟨a,ca,rfl,hca,hla⟩:=ha
 obtain⟨b,cb,rfl,hcb,hlb⟩:=hb
 simp only[List.length_map]at*
 refine enter Tryz.func22 Tryz.ntmps22 rfl rfl ?_
 repeat (first|refine c_r ?_|refine rg0 ?_)
 refine zaH (t:=!decide ((xs.length:Int)=ys.length)) (by simp only[go_sem]) ?_ ?_
 ·intro ht
  repeat (first|refine c_r ?_|refine rg0 ?_)
  refine rt0 Tryz.ntmps22 ?_
  exact⟨by rw[decide_eq_false (zeE (by simp at ht;omega))],Keep.refl _ _⟩
 ·intro ht
  repeat (first|refine c_r ?_|refine rg0 ?_)
  refine zam (fun m σ ds v=>ds=[]∧∃i,i+m=xs.length∧σ 5=vi i∧σ 0= .slice a xs.length ca∧σ 1= .slice b ys.length cb∧Ext w v∧zaj (xs.take i)=zaj (ys.take i)) xs.length ?_ ?_
  ·refine⟨rfl,0,by omega,?_,?_,?_,Keep.refl _ _,by simp[zaj]⟩<;>simp only[go_sem]<;>rfl
  ·rintro m σ ds v ⟨rfl,i,him,h5,h0,h1,hE,hpre⟩
   refine zfY ?_
   refine zfY ?_
   refine rq ?_;intro gd K hgd hK
   simp only[go_sem,h5,h0,h1]
   refine hK _ _ ?_;clear hK hgd;clear K;try clear gd
   refine zaH (t:=decide ((i:Int)<xs.length)) (by simp only[go_sem]) ?_ ?_
   ·intro hlt
    simp only[decide_eq_true_eq]at hlt
    repeat refine c_r ?_
    refine zaJ (fun _=>false) [(0,true),(1,true),(2,true),(3,true),(5,true),(6,true),(7,true),(8,true),(4,false),(9,false),(10,true)] NoS mixed (by kernel_rfl) ?_;intro gd K x hgd hx hxe hK;clear hxe
    have hsa:a.isSome=true:=zag (hla i (by omega))
    have hsb:b.isSome=true:=zag (hlb i (by simp at ht;omega))
    have hla':=fun j h=>zaa (hE.trans hx) (hla j h)
    have hlb':=fun j h=>zaa (hE.trans hx) (hlb j h)
    have hxy:xs.length=ys.length:=by simp at ht;omega
    clear ht
    simp (disch:=first|omega|assumption) only[go_sem,h5,h0,h1,hla',hlb',List.getElem_map]
    refine Fn.mono (zbG _ _ (LB.get ‹LB _› _)) ?_
    rintro _ x1 ⟨rfl,hx1⟩
    refine⟨.inr hx1,?_⟩
    simp (disch:=first|omega|assumption|rfl) only[go_sem]
    refine Fn.mono (zbG _ _ (LB.get ‹LB _› _)) ?_
    rintro _ x2 ⟨rfl,hx2⟩
    refine⟨.inr hx2,?_⟩
    simp only[go_sem]
    refine hK _ _ ?_;clear hK hgd;clear K;try clear gd
    repeat refine c_r ?_
    refine zaH (by simp only[go_sem];rfl) ?_ ?_
    ·intro hne
     simp only[Bool.not_eq_true',decide_eq_false_iff_not]at hne
     repeat (first|refine c_r ?_|refine rg0 ?_)
     refine rt0 Tryz.ntmps22 ?_
     exact⟨by rw[decide_eq_false (zfv (i:=i) (by omega) (by omega) hne)],((hE.trans hx).trans hx1).trans hx2⟩
    ·intro heq
     simp only[Bool.not_eq_false',decide_eq_true_eq]at heq
     repeat refine c_r ?_
     refine rq ?_;intro gd K hgd hK
     simp (disch:=first|omega|assumption) only[go_sem,h5,h0,h1]
     refine hK _ _ ?_;clear hK hgd;clear K;try clear gd
     refine zau ?_
     refine⟨m - 1,by omega,rfl,i+1,by omega,?_,?_,?_,((hE.trans hx).trans hx1).trans hx2,?_⟩
     ·simp only[go_sem];rfl
     ·simp only[go_sem,h0]
     ·simp only[go_sem,h1]
     ·rw[zb7 (by omega),zb7 (by omega),hpre,heq]
   ·intro hge
    simp only[decide_eq_false_iff_not]at hge
    repeat (first|refine c_r ?_|refine rg0 ?_)
    refine rt0 Tryz.ntmps22 ?_
    refine⟨?_,hE⟩
    rw[List.take_of_length_le (by omega),List.take_of_length_le (by simp at ht;omega)]at hpre
    rw[decide_eq_true hpre]
theorem Row.cut{w:World}{a:Option Addr}{n c:Nat}{l:List Value}(hn:n=l.length)(hc:n≤c)(hl:∀j (h:j<l.length),zae w (adr a j)=some l[j]){lo hi:Nat}(h1:lo≤hi)(h2:hi≤n):
  Row w (.slice (if c=lo then a else adr a lo) (hi - lo) (c - lo)) ((l.drop lo).take (hi - lo)):=by
 have hlen:((l.drop lo).take (hi - lo)).length=hi - lo:=by simp;omega
 refine⟨_,_,by rw[hlen],by omega,fun j hj=>?_⟩
 rw[hlen]at hj
 rw[if_neg (by omega),zg5,hl (lo+j) (by omega)]
 simp
theorem Row.tail{w:World}{a:Option Addr}{n c:Nat}{l:List Value}(hn:n=l.length)(hc:n≤c)(hl:∀j (h:j<l.length),zae w (adr a j)=some l[j]){lo:Nat}(h2:lo≤n):
  Row w (.slice (if c=lo then a else adr a lo) (n - lo) (c - lo)) (l.drop lo):=by
 have:=Row.cut hn hc hl h2 (Nat.le_refl _)
 rwa [List.take_of_length_le (by simp;omega)]at this
def zaQ(n z:Nm):Bool:=decide (z.length≤n.length) && decide (zaj (n.drop (n.length - z.length))=zaj z)
theorem LB.drop{n:Nm}(h:LB n)(k:Nat):LB (n.drop k):=fun l hl=>h l (List.drop_subset _ _ hl)
theorem RUnder_ok(w:World)(a b:Value)(xs ys:Nm)(ha:Row w a (xs.map vs))(hb:Row w b (ys.map vs))(hx:LB xs)(hy:LB ys)(hxl:xs.length≤9000000000000000000)(hyl:ys.length≤9000000000000000000):
  Fn Tryz.prog 71 #[a,b] w (fun v w'=>v= .bool (zaQ xs ys)∧Ext w w'):=by
 have hb0:=hb
 obtain⟨a,ca,rfl,hca,hla⟩:=ha
 obtain⟨b,cb,rfl,hcb,hlb⟩:=hb
 simp only[List.length_map]at*
 refine enter Tryz.func71 Tryz.ntmps71 rfl rfl ?_
 repeat refine c_r ?_
 refine rg0 ?_
 repeat refine c_r ?_
 refine rq ?_;intro gd K hgd hK
 have hg5:∀n σ b,zav gd n σ (some (5,b))=zal (ev n σ (.tmp 10)) b:=(fun n σ b=>by rw[zac,show gd 5=some 10 from(by rw[hgd];rfl)];rfl)
 by_cases h:(ys.length:Int)≤xs.length
 ·try simp (disch:=first|omega|assumption|rfl) only[go_sem,decide_eq_true h,↓hg5]
  have hd:((xs.length:Int) - ys.length).toNat=xs.length - ys.length:=by omega
  have hcut:=Row.tail (l:=xs.map vs) (by simp) hca (fun j hj=>by rw[hla j (by simpa using hj)]) (lo:=xs.length - ys.length) (by omega)
  rw[←List.map_drop]at hcut
  rw[hd]
  refine Fn.mono (zg9 w _ _ _ _ hcut hb0 (hx.drop _) hy (by simp;omega) hyl) ?_
  rintro _ w1 ⟨rfl,hE⟩
  try simp (disch:=first|omega|assumption|rfl) only[go_sem,decide_eq_true h,↓hg5]
  refine hK _ _ ?_;clear hK hgd;clear K;try clear gd
  repeat refine c_r ?_
  refine rt0 Tryz.ntmps71 ?_
  exact⟨by simp[zaQ];omega,hE⟩
 ·try simp (disch:=first|omega|assumption|rfl) only[go_sem,decide_eq_false h,↓hg5]
  refine hK _ _ ?_;clear hK hgd;clear K;try clear gd
  repeat refine c_r ?_
  refine rt0 Tryz.ntmps71 ?_
  exact⟨by simp[zaQ];omega,Keep.refl _ _⟩
theorem LSame_ok(w:World)(a b:List UInt8)(ha:a.length≤9000000000000000000)(hb:b.length≤9000000000000000000):Fn Tryz.prog 82 #[vs a,vs b] w (fun v w'=>v= .bool (decide (zaS a=zaS b))∧Ext w w'):=by
 refine enter Tryz.func82 Tryz.ntmps82 rfl rfl ?_
 repeat refine c_r ?_
 refine rg0 ?_
 repeat refine c_r ?_
 refine rq ?_;intro gd K hgd hK
 try simp only[go_sem]
 refine Fn.mono (zeg _ _ ha) ?_
 rintro _ w1 ⟨rfl,hE1⟩
 try simp only[go_sem]
 refine Fn.mono (zeg _ _ hb) ?_
 rintro _ w2 ⟨rfl,hE2⟩
 try simp only[go_sem]
 refine hK _ _ ?_;clear hK hgd;clear K;try clear gd
 repeat refine c_r ?_
 refine rt0 Tryz.ntmps82 ?_
 exact⟨rfl,hE1.trans hE2⟩
theorem zik(w:World)(a b:Value)(xs ys:Nm)(ha:Row w a (xs.map vs))(hb:Row w b (ys.map vs))(hx:LB xs)(hy:LB ys)(hxl:xs.length≤9000000000000000000)(hyl:ys.length≤9000000000000000000):
  Fn Tryz.prog 81 #[a,b,.func (.func 82) #[] #[]] w (fun v w'=>v= .bool (decide (zaj xs=zaj ys))∧Ext w w'):=by
 obtain⟨a,ca,rfl,hca,hla⟩:=ha
 obtain⟨b,cb,rfl,hcb,hlb⟩:=hb
 simp only[List.length_map]at*
 refine enter Tryz.func81 Tryz.ntmps81 rfl rfl ?_
 repeat (first|refine c_r ?_|refine rg0 ?_)
 refine zaH (t:=!decide ((xs.length:Int)=ys.length)) (by simp only[go_sem]) ?_ ?_
 ·intro ht
  repeat (first|refine c_r ?_|refine rg0 ?_)
  refine rt0 Tryz.ntmps81 ?_
  exact⟨by rw[decide_eq_false (zeE (by simp at ht;omega))],Keep.refl _ _⟩
 ·intro ht
  have hxy:xs.length=ys.length:=by simp at ht;omega
  clear ht
  repeat (first|refine c_r ?_|refine rg0 ?_)
  refine zam (fun m σ ds v=>ds=[]∧∃i,i+m=xs.length∧σ 17=vi i∧σ 16=vi xs.length∧σ 15= .slice a xs.length ca∧σ 1= .slice b ys.length cb∧σ 2= .func (.func 82) #[] #[]∧Ext w v∧zaj (xs.take i)=zaj (ys.take i)) xs.length ?_ ?_
  ·refine⟨rfl,0,by omega,?_,?_,?_,?_,?_,Keep.refl _ _,by simp[zaj]⟩<;>simp only[go_sem]<;>rfl
  ·rintro m σ ds v ⟨rfl,i,him,h17,h16,h15,h1,h2,hE,hpre⟩
   repeat refine c_r ?_
   refine rg2 h17 h16 ?_
   repeat refine c_r ?_
   refine wc0 ?_ ?_
   ·intro hlt
    simp only[decide_eq_true_eq]at hlt
    have hsa:a.isSome=true:=zag (hla i (by omega))
    have hsb:b.isSome=true:=zag (hlb i (by omega))
    have hla':=fun j h=>zaa hE (hla j h)
    have hlb':=fun j h=>zaa hE (hlb j h)
    repeat (first|refine c_r ?_| (refine zcS (by rfl) ?_;intro gd K hgd hK;simp (disch:=first|omega|assumption|rfl) only[go_sem,h17,h15,h1,hla',hlb',List.getElem_map];refine hK _ _ ?_;clear hK hgd;clear K gd))
    refine rq ?_;intro gd K hgd hK
    try simp (disch:=first|omega|assumption|rfl) only[go_sem,h2]
    refine Fn.mono (LSame_ok _ _ _ (LB.get hx _) (LB.get hy _)) ?_
    rintro _ x1 ⟨rfl,hx1⟩
    try simp only[go_sem]
    refine hK _ _ ?_;clear hK hgd;clear K;try clear gd
    repeat refine c_r ?_
    refine wc0 ?_ ?_
    ·intro hne
     simp only[Bool.not_eq_true',decide_eq_false_iff_not]at hne
     repeat refine c_r ?_
     refine rg0 ?_
     repeat refine c_r ?_
     refine rt0 Tryz.ntmps81 ?_
     exact⟨by rw[decide_eq_false (zfv (i:=i) (by omega) (by omega) hne)],hE.trans hx1⟩
    ·intro heq
     simp only[Bool.not_eq_false',decide_eq_true_eq]at heq
     repeat refine c_r ?_
     refine rg1 h17 ?_
     refine zau ?_
     refine⟨m - 1,by omega,rfl,i+1,by omega,?_,?_,?_,?_,?_,hE.trans hx1,?_⟩
     ·simp only[go_sem];rfl
     ·simp only[go_sem,h16]
     ·simp only[go_sem,h15]
     ·simp only[go_sem,h1]
     ·simp only[go_sem,h2]
     ·rw[zb7 (by omega),zb7 (by omega),hpre,heq]
   ·intro hge
    simp only[decide_eq_false_iff_not]at hge
    repeat (first|refine c_r ?_|refine rg0 ?_)
    refine rt0 Tryz.ntmps81 ?_
    refine⟨?_,hE⟩
    rw[List.take_of_length_le (by omega),List.take_of_length_le (by omega)]at hpre
    rw[decide_eq_true hpre]
theorem zew(w:World)(a b:Value)(xs ys:Nm)(ha:Row w a (xs.map vs))(hb:Row w b (ys.map vs))(hx:LB xs)(hy:LB ys)(hxl:xs.length≤9000000000000000000)(hyl:ys.length≤9000000000000000000):
  Fn Tryz.prog 28 #[a,b] w (fun v w'=>v= .bool (decide (zaj xs=zaj ys))∧Ext w w'):=by
 refine enter Tryz.func28 Tryz.ntmps28 rfl rfl ?_
 repeat refine c_r ?_
 refine rg0 ?_
 repeat refine c_r ?_
 refine rq ?_;intro gd K hgd hK
 try simp only[go_sem]
 refine Fn.mono (zik w _ _ _ _ ha hb hx hy hxl hyl) ?_
 rintro _ w1 ⟨rfl,hE⟩
 try simp only[go_sem]
 refine hK _ _ ?_;clear hK hgd;clear K;try clear gd
 repeat refine c_r ?_
 refine rt0 Tryz.ntmps28 ?_
 exact⟨rfl,hE⟩
theorem zcN(w:World)(a b:Value)(xs ys:Nm)(ha:Row w a (xs.map vs))(hb:Row w b (ys.map vs))(hx:LB xs)(hy:LB ys)(hxl:xs.length≤9000000000000000000)(hyl:ys.length≤9000000000000000000):
  Fn Tryz.prog 32 #[a,b] w (fun v w'=>v= .bool (zaQ xs ys)∧Ext w w'):=by
 have hb0:=hb
 obtain⟨a,ca,rfl,hca,hla⟩:=ha
 obtain⟨b,cb,rfl,hcb,hlb⟩:=hb
 simp only[List.length_map]at*
 refine enter Tryz.func32 Tryz.ntmps32 rfl rfl ?_
 repeat refine c_r ?_
 refine rg0 ?_
 repeat refine c_r ?_
 refine rq ?_;intro gd K hgd hK
 have hg5:∀n σ b,zav gd n σ (some (5,b))=zal (ev n σ (.tmp 10)) b:=(fun n σ b=>by rw[zac,show gd 5=some 10 from(by rw[hgd];rfl)];rfl)
 by_cases h:(ys.length:Int)≤xs.length
 ·try simp (disch:=first|omega|assumption|rfl) only[go_sem,decide_eq_true h,↓hg5]
  have hd:((xs.length:Int) - ys.length).toNat=xs.length - ys.length:=by omega
  have hcut:=Row.tail (l:=xs.map vs) (by simp) hca (fun j hj=>by rw[hla j (by simpa using hj)]) (lo:=xs.length - ys.length) (by omega)
  rw[←List.map_drop]at hcut
  rw[hd]
  refine Fn.mono (zew w _ _ _ _ hcut hb0 (hx.drop _) hy (by simp;omega) hyl) ?_
  rintro _ w1 ⟨rfl,hE⟩
  try simp (disch:=first|omega|assumption|rfl) only[go_sem,decide_eq_true h,↓hg5]
  refine hK _ _ ?_;clear hK hgd;clear K;try clear gd
  repeat refine c_r ?_
  refine rt0 Tryz.ntmps32 ?_
  exact⟨by simp[zaQ];omega,hE⟩
 ·try simp (disch:=first|omega|assumption|rfl) only[go_sem,decide_eq_false h,↓hg5]
  refine hK _ _ ?_;clear hK hgd;clear K;try clear gd
  repeat refine c_r ?_
  refine rt0 Tryz.ntmps32 ?_
  exact⟨by simp[zaQ];omega,Keep.refl _ _⟩
theorem FoldB_ok(w:World)(a:Value)(xs:Nm)(ha:Row w a (xs.map vs))(hx:LB xs)(hxl:xs.length≤1000000000000):
  Fn Tryz.prog 46 #[a] w (fun v w'=>RowB w.heap.size w' v ((zaj xs).map vs)∧Ext w w'):=by
 obtain⟨a,ca,rfl,hca,hla⟩:=ha
 simp only[List.length_map]at*
 refine enter Tryz.func46 Tryz.ntmps46 rfl rfl ?_
 repeat refine c_r ?_
 refine rg0 ?_
 repeat refine c_r ?_
 refine rq ?_;intro gd K hgd hK
 try simp only[go_sem]
 refine zhD (n:=xs.length) rfl rfl rfl rfl (vq0) (vq0) (by show 16*_≤_;omega) (by omega) rfl ?_
 try simp only[go_sem]
 refine hK _ _ ?_;clear hK hgd;clear K;try clear gd
 have hb1:=zao w (.cells (madeCells #[vs []] xs.length) 9 (0,0))
 have hE1:=Ext.alloc w (.cells (madeCells #[vs []] xs.length) 9 (0,0))
 have hs1:=size_madeCells #[vs []] xs.length
 revert hb1 hE1 hs1
 generalize (madeCells #[vs []] xs.length)=cur1
 intro hb1 hE1 hs1
 repeat (first|refine c_r ?_|refine rg0 ?_)
 refine zam (fun m σ ds A=>ds=[]∧∃i,i+m=xs.length∧σ 11=vi i∧σ 10=vi xs.length∧σ 9= .slice a xs.length ca∧σ 3= .slice (some ⟨w.heap.size,0,Option.none⟩) xs.length xs.length∧Ext w A∧
  ∃cur:Array Value,cur.size=xs.length∧cur.toList.take i=(zaj (xs.take i)).map vs∧A.heap[w.heap.size]? =some (.cells cur 9 (0,0))) xs.length ?_ ?_
 ·refine⟨rfl,0,by omega,?_,?_,?_,?_,hE1,cur1,hs1,by simp[zaj],hb1⟩<;>simp only[go_sem]<;>rfl
 ·rintro m σ ds A ⟨rfl,i,him,h11,h10,h9,h3,hE,cu,hcu,hpre,hrow⟩
  repeat refine c_r ?_
  refine rq ?_;intro gd K hgd hK;simp (disch:=first|omega|assumption|rfl) only[go_sem,h11,h10];refine hK _ _ ?_;clear hK hgd;clear K gd
  repeat refine c_r ?_
  refine wc0 ?_ ?_
  ·intro hlt
   simp only[decide_eq_true_eq]at hlt
   have hsa:a.isSome=true:=zag (hla i (by omega))
   have hla':=fun j h=>zaa hE (hla j h)
   repeat refine c_r ?_
   refine rq ?_;intro gd K hgd hK;simp (disch:=first|omega|assumption|rfl) only[go_sem,h11,h9,hla',List.getElem_map];refine hK _ _ ?_;clear hK hgd;clear K gd
   repeat refine c_r ?_
   refine rq ?_;intro gd K hgd hK
   try simp (disch:=first|omega|assumption|rfl) only[go_sem,h3]
   refine Fn.mono (zeg _ _ (LB.get hx _)) ?_
   rintro _ w5 ⟨rfl,hE5⟩
   try simp (disch:=first|omega|assumption|rfl) only[go_sem,h3]
   refine zdy rfl rfl rfl ((hE5.block _ (by have:=hE.size;have:=(Array.getElem?_eq_some_iff.1 hrow).1;omega) (fun h=>h)).trans hrow) (by omega) (by simp) ?_
   intro w6 hsz6 hb6 hk6
   refine hK _ _ ?_;clear hK hgd;clear K;try clear gd
   repeat refine c_r ?_
   refine rq ?_;intro gd K hgd hK;simp (disch:=first|omega|assumption|rfl) only[go_sem,h11];refine hK _ _ ?_;clear hK hgd;clear K gd
   repeat refine c_r ?_
   refine⟨m - 1,by omega,rfl,i+1,by omega,by simp only[go_sem];rfl,(vq1 h10),(vq1 h9),(vq1 h3),Keep.to_ext (hE.trans hE5) rfl (fun b hb=>by omega) hk6,_,by simpa using hcu,?_,hb6⟩
   rw[zb7 (by omega),Array.toList_setIfInBounds,zap (by simp;omega),List.take_set_of_le (by omega),hpre,List.map_append]
   simp
  ·intro hge
   simp only[decide_eq_false_iff_not]at hge
   repeat refine c_r ?_
   refine rg1 h3 ?_
   repeat refine c_r ?_
   refine rt0 Tryz.ntmps46 ?_
   refine⟨?_,hE⟩
   rw[List.take_of_length_le (l:=xs) (by omega),List.take_of_length_le (by simp;omega)]at hpre
   refine⟨⟨_,_,by rw[List.length_map,zaG],by simp[zaG],fun j hj=>?_⟩,fun a n c hv=>?_⟩
   ·rw[zaU]
    show A.cell? _=_
    rw[za0 hrow,Nat.zero_add,←Array.getElem?_toList,hpre,List.getElem?_eq_getElem hj]
   ·cases hv
    exact⟨Nat.le_refl _,(Array.getElem?_eq_some_iff.1 hrow).1⟩
theorem zmk(w:World)(a:Value)(xs:Nm)(ha:Row w a (xs.map vs))(hx:LB xs)(hxl:xs.length≤1000000000000):
  Fn Tryz.prog 46 #[a] w (fun v w'=>Row w' v ((zaj xs).map vs)∧Ext w w'):=
 Fn.mono (FoldB_ok w a xs ha hx hxl) (fun _ _ h=>⟨h.1.1,h.2⟩)
theorem Child_ok(w:World)(b:Value)(l:List UInt8)(xs:Nm)(hb:Row w b (xs.map vs))(hxl:xs.length≤8796093022207):
  Fn Tryz.prog 31 #[vs l,b] w (fun v w'=>RowB w.heap.size w' v ((l::xs).map vs)∧Ext w w'):=by
 have hb0:=hb
 obtain⟨b,cb,rfl,hcb,hlb⟩:=hb
 simp only[List.length_map]at*
 refine enter Tryz.func31 Tryz.ntmps31 rfl rfl ?_
 repeat refine c_r ?_
 refine rg0 ?_
 repeat refine c_r ?_
 refine rq ?_;intro gd K hgd hK
 try simp only[go_sem]
 have hbs:bsC Tryz.prog 27 1 [(0,vs l)]=some (9,#[vs l]):=ziO (z:=vs []) rfl rfl rfl rfl rfl
 unfold bsL bsK
 rw[hbs]
 simp only[]
 have hown:(w.alloc (.cells #[vs l] 9)).ownsRow w.heap.size 9 1 (.slice (some ⟨w.heap.size,0,Option.none⟩) 1 1) 1 [vs l]:=
  ⟨rfl,.inr ⟨w.heap.size,1,#[vs l],rfl,Nat.le_refl _,zao w _,Nat.le_refl _,by decide,rfl,rfl⟩⟩
 try simp only[go_sem]
 refine zdZ (P:=Tryz.prog) (e:=9) (size:=1) (bytes:=16) (m:=xs.length) rfl rfl rfl rfl rfl rfl (by decide) (vq0) (by simp only[go_sem];rfl) hown (by simpa using Src1.of_row (hb0.ext (Ext.alloc w _))) ?_ ?_ ?_ (by simp) ?_
 ·intro q hq
  obtain⟨s,_,rfl⟩:=List.mem_map.1 hq
  rfl
 ·simp[maxLen];omega
 ·omega
 intro v' w' hown' hgr _
 try simp only[go_sem]
 refine hK _ _ ?_;clear hK hgd;clear K;try clear gd
 repeat refine c_r ?_
 refine rt0 Tryz.ntmps31 ?_
 exact⟨by simpa using RowB.of_owns hown',Keep.to_ext (Ext.alloc w _) rfl (fun b hb=>by simp[Value.ownBlock]at hb;omega) hgr⟩
def sfx(f:Nm)(k:Nat):Nm:=f.drop (f.length - k)
structure TS where
 names:List Nm
 val:Nm→Value
 has:Nm→Bool
 nb:Nm→Nat
 mb:Nm→Nat
structure TSok(z:Value)(s:TS):Prop where
 nil:[]∈s.names
 tail:∀l f,l::f∈s.names→f∈s.names
 nd:s.names.Nodup
 injn:∀f∈s.names,∀g∈s.names,s.nb f=s.nb g→f=g
 injm:∀f∈s.names,∀g∈s.names,s.mb f=s.mb g→f=g
 one:∀f,one (s.val f)=true
 out:∀f,f∉s.names→s.val f=z∧s.has f=false
def zd8(names:List Nm)(f:Nm):List Lab:=
 names.filterMap fun g=>match g with
  |l::h=>if h=f then some l else Option.none
  | []=>Option.none
theorem zjR{names:List Nm}{f:Nm}{l:Lab}:l∈zd8 names f↔l::f∈names:=by
 simp only[zd8,List.mem_filterMap]
 constructor
 ·rintro⟨g,hg,h⟩
  cases g with
  |nil=>cases h
  |cons a t=>
   simp only at h
   split at h
   ·rename_i e;cases h;subst e;exact hg
   ·cases h
 ·intro h
  exact⟨_,h,by simp⟩
abbrev zkP(b:Nat):Value:= .pointer (some ⟨b,0,Option.none⟩)
def zgL(s:TS)(f:Nm):List (Lab×Value):=(zd8 s.names f).map fun l=>(l,zkP (s.nb (l::f)))
structure TreeAt(tt nt:TypeId)(w:World)(tb:Nat)(s:TS):Prop where
 root:w.heap[tb]? =some (.cells #[zkP (s.nb []),.int .i64 (IntKind.i64.wrap s.names.length)] tt (0,0))
 node:∀f∈s.names,w.heap[s.nb f]? =some (.cells #[.map (some (s.mb f)),s.val f,.bool (s.has f)] nt (0,0))
 map:∀f∈s.names,MapAt w (s.mb f) (zgL s f)
theorem KeepB.to_ext{n0:Nat}{C:Nat→Prop}{w0 w x:World}(h0:Ext w0 w)(h:KeepB n0 C w x)(hn:w0.heap.size≤n0)(hC:∀b,C b→w0.heap.size≤b):Ext w0 x:=
  ⟨h.os.trans h0.os,h.tape.trans h0.tape,h.output.trans h0.output,Nat.le_trans h0.size h.size,
   fun b hb _=>(h.block b (by omega) (fun hc=>by have:=hC b hc;omega)).trans (h0.block b hb (fun x=>x)),Nat.le_trans h0.drawn h.drawn⟩
abbrev cmpL:Lab→Lab→Int:=Lib.compareBytes
theorem zb9{a b:UInt8}:a<b↔a.toNat<b.toNat:=UInt8.lt_iff_toNat_lt
theorem zfA:∀a:Lab,cmpL a a=0
 | []=>rfl
 |a::l=>by
  show(if a<a then _ else if a<a then _ else cmpL l l)=0
  have h:¬a<a:=by rw[zb9];omega
  rw[if_neg h,if_neg h];exact zfA l
theorem zbp:∀a b:Lab,cmpL b a= - cmpL a b
 | [],[]=>rfl
 | [],_::_=>rfl
 |_::_,[]=>rfl
 |a::l,b::m=>by
  show(if b<a then _ else if a<b then _ else cmpL m l)= - (if a<b then(-1:Int) else if b<a then 1 else cmpL l m)
  by_cases h1:a<b
  ·have h2:¬b<a:=by rw[zb9]at*;omega
   rw[if_neg h2,if_pos h1,if_pos h1];rfl
  ·by_cases h2:b<a
   ·rw[if_pos h2,if_neg h1,if_pos h2]
   ·rw[if_neg h2,if_neg h1,if_neg h1,if_neg h2];exact zbp l m
theorem zbX:∀{a b:Lab},cmpL a b=0→a=b
 | [],[],_=>rfl
 | [],_::_,h=>by cases h
 |_::_,[],h=>by cases h
 |a::l,b::m,h=>by
  change (if a<b then(-1:Int) else if b<a then 1 else cmpL l m)=0 at h
  by_cases h1:a<b
  ·rw[if_pos h1]at h;cases h
  ·by_cases h2:b<a
   ·rw[if_neg h1,if_pos h2]at h;cases h
   ·rw[if_neg h1,if_neg h2]at h
    have e:a=b:=by
     apply UInt8.toNat_inj.1
     rw[zb9]at*;omega
    rw[e,zbX h]
theorem zdn:∀{a b c:Lab},cmpL a b≤0→cmpL b c≤0→cmpL a c≤0
 | [],_,[],_,_=>Int.le_refl _
 | [],_,_::_,_,_=>by show(-1:Int)≤0;omega
 |a::l,[],_,h,_=>by exact absurd h (by show¬(1:Int)≤0;omega)
 |a::l,b::m,[],_,h=>by exact absurd h (by show¬(1:Int)≤0;omega)
 |a::l,b::m,c::n,h1,h2=>by
  change (if a<b then(-1:Int) else if b<a then 1 else cmpL l m)≤0 at h1
  change (if b<c then(-1:Int) else if c<b then 1 else cmpL m n)≤0 at h2
  show(if a<c then(-1:Int) else if c<a then 1 else cmpL l n)≤0
  by_cases e1:a<b
  ·have e3:¬c<b∨c<b:=by by_cases h:c<b<;>simp[h]
   by_cases e2:c<b
   ·have e4:¬b<c:=by rw[zb9]at*;omega
    rw[if_neg e4,if_pos e2]at h2;omega
   ·have:a<c:=by rw[zb9]at*;omega
    rw[if_pos this];omega
  ·by_cases e2:b<a
   ·rw[if_neg e1,if_pos e2]at h1;omega
   ·have e:a=b:=by
     apply UInt8.toNat_inj.1
     rw[zb9]at*;omega
    subst e
    rw[if_neg e1,if_neg e2]at h1
    by_cases e3:a<c
    ·rw[if_pos e3];omega
    ·by_cases e4:c<a
     ·rw[if_neg e3,if_pos e4]at h2;omega
     ·rw[if_neg e3,if_neg e4]at h2
      rw[if_neg e3,if_neg e4]
      exact zdn h1 h2
def leL(a b:Lab):Bool:=decide (cmpL a b≤0)
def zgv(l:List Lab):List Lab:=l.mergeSort leL
theorem zld(a b c:Lab)(h1:leL a b=true)(h2:leL b c=true):leL a c=true:=by
 simp only[leL,decide_eq_true_eq]at*;exact zdn h1 h2
theorem zle(a b:Lab):(leL a b||leL b a)=true:=by
 simp only[leL,Bool.or_eq_true,decide_eq_true_eq]
 have:=zbp a b;omega
theorem leL_anti{a b:Lab}(h1:leL a b=true)(h2:leL b a=true):a=b:=by
 simp only[leL,decide_eq_true_eq]at*
 have:=zbp a b
 exact zbX (by omega)
theorem zem(l:List Lab):(zgv l).Perm l:=List.mergeSort_perm _ _
theorem zcV(l:List Lab):(zgv l).Pairwise (fun a b=>leL a b=true):=List.pairwise_mergeSort zld zle l
theorem zho{l m:List Lab}(h1:l.Pairwise (fun a b=>leL a b=true))(h2:m.Pairwise (fun a b=>leL a b=true))(hp:l.Perm m):l=m:=
 List.Perm.eq_of_pairwise (fun _ _ _ _=>leL_anti) h1 h2 hp
theorem zis{l m:List Lab}(h:l.Perm m):zgv l=zgv m:=
 zho (zcV l) (zcV m) ((zem l).trans (h.trans (zem m).symm))
def MapIt(w:World)(r m:Nat)(l:List (Lab×Value))(pre:List Lab):Prop:=
 ∃es clk,∃ds:List MapEntry,w.heap[m]? =some (.map es clk)∧es.toList.map (fun e=>(e.key,e.val))=l.map (fun p=>(vs p.1,p.2))∧(es.toList.map (·.born)).Pairwise (·≠·)∧(∀e∈es.toList,e.born<clk)∧
  w.heap[r]? =some (.mapIter (some m) clk (ds.map (·.born)).toArray clk)∧(∀d∈ds,d∈es.toList)∧ds.map (·.key)=pre.map vs
theorem MapIt.map{w:World}{r m:Nat}{l:List (Lab×Value)}{pre:List Lab}(h:MapIt w r m l pre):MapAt w m l:=by
 obtain⟨es,clk,ds,h1,h2,h3,h4,_⟩:=h
 exact⟨es,clk,h1,h2,h3,h4⟩
theorem MapIt.block{w x:World}{r m:Nat}{l:List (Lab×Value)}{pre:List Lab}(h:MapIt w r m l pre)(h1:x.heap[m]? =w.heap[m]?)(h2:x.heap[r]? =w.heap[r]?):MapIt x r m l pre:=by
 obtain⟨es,clk,ds,a,b,c,d,e,f⟩:=h
 exact⟨es,clk,ds,h1.trans a,b,c,d,h2.trans e,f⟩
theorem zko{a b:List UInt8}(h:vs a=vs b):a=b:=by
 simpa [vs] using h
theorem zjV{es:List MapEntry}{l:List (Lab×Value)}(h:es.map (fun e=>(e.key,e.val))=l.map (fun p=>(vs p.1,p.2)))(hn:(l.map (·.1)).Nodup):es.Pairwise (fun x y=>x.key≠y.key):=by
 have h1:es.map (·.key)=l.map (fun p=>vs p.1):=by
  have:=congrArg (List.map Prod.fst) h
  simpa [List.map_map,Function.comp_def] using this
 have h2:(l.map (fun p=>vs p.1)).Pairwise (·≠·):=by
  rw[List.pairwise_map]
  have:=List.pairwise_map.1 hn
  exact this.imp (fun hne e=>hne (zko e))
 rw[←h1,List.pairwise_map]at h2
 exact h2
section
variable {P : Program} {d : Option Tmp} {ty : TypeId} {ps : String} {af : Array Edge} {g : Option (Nat × Bool)} {ρ : Operand → Value} {w : World} {K : Value → World → Prop}
theorem op_range{t kt et:TypeId}{x:Operand}{m:Nat}{l:List (Lab×Value)}(ht:tyU P t=some (.map kt et))(hx:ρ x= .map (some m))(hm:MapAt w m l)
  (h:∀w',MapIt w' w.heap.size m l []→Ext w w'→w'.heap.size=w.heap.size+1→K (.pointer (some ⟨w.heap.size,0,Option.none⟩)) w'):
  opW P ⟨d,.range t x,ty,ps,af,g⟩ ρ w K:=by
 obtain⟨es,clk,h1,h2,h3,h4⟩:=hm
 have hrun:(Instr.range t (.map (some m))).run P w= .ok (.pointer (some ⟨w.heap.size,0,Option.none⟩)) (w.alloc (.mapIter (some m) clk #[] clk)):=by
  simp[Instr.range,run_underlying (show P.underlying t=_ from ht),MapKept.run_getObj_map h1,newObj,Sem.run,Result.andThen]
 have hlt:=(Array.getElem?_eq_some_iff.1 h1).1
 show opR P K _
 refine zaI (s:=Instr.range t (ρ x)) (by rw[hx];exact hrun) (h _ ⟨es,clk,[],?_,h2,h3,h4,?_,by simp,rfl⟩ (Ext.alloc w _) (by simp))
 ·exact(RowKit.Below.heap_alloc _ _ _ hlt).trans h1
 ·exact zao w _
theorem op_next{x:Operand}{r m:Nat}{l:List (Lab×Value)}{pre:List Lab}(hx:ρ x= .pointer (some ⟨r,0,Option.none⟩))(hit:MapIt w r m l pre)(hn:(l.map (·.1)).Nodup)
  (h1:(∀k∈l.map (·.1),k∈pre)→K (.tuple #[.bool false]) w)
  (h2:∀k v w',(k,v)∈l→k∉pre→MapIt w' r m l (pre++ [k])→Keep (fun b=>b=r) w w'→w'.heap.size=w.heap.size→K (.tuple #[.bool true,vs k,v]) w'):
  opW P ⟨d,.next x false,ty,ps,af,g⟩ ρ w K:=by
 obtain⟨es,clk,ds,e1,e2,e3,e4,e5,e6,e7⟩:=hit
 have hap:=zjV e2 hn
 have hmem:∀e:MapEntry,e∈es.toList→∃k v,(k,v)∈l∧e.key=vs k∧e.val=v:=fun e he=>by
  have:(e.key,e.val)∈l.map (fun p=>(vs p.1,p.2)):=by rw[←e2];exact List.mem_map.2 ⟨e,he,rfl⟩
  obtain⟨⟨k,v⟩,hp,heq⟩:=List.mem_map.1 this
  simp only[Prod.mk.injEq]at heq
  exact⟨k,v,hp,heq.1.symm,heq.2.symm⟩
 rcases run_next_at (P:=P) w ty r m clk clk (ds.map (·.born)).toArray es clk e5 e1 e4 (Nat.le_refl _) with ⟨h0,hrun⟩| ⟨e,he,w1,hw1,hrun⟩
 ·show opR P K _
  refine zaI (s:=Instr.next (ρ x) false ty) (by rw[hx];exact hrun) (h1 fun k hk=>?_)
  obtain⟨⟨k,v⟩,hp,rfl⟩:=List.mem_map.1 hk
  have:(vs k,v)∈es.toList.map (fun e=>(e.key,e.val)):=by rw[e2];exact List.mem_map.2 ⟨_,hp,rfl⟩
  obtain⟨e,he,heq⟩:=List.mem_map.1 this
  simp only[Prod.mk.injEq]at heq
  have hin:(ds.map (·.born)).toArray.contains e.born=true:=by
   cases hc:(ds.map (·.born)).toArray.contains e.born with
   |true=>rfl
   |false=>
    have:e∈(leftOf es (ds.map (·.born)).toArray).toList:=by
     unfold leftOf;simp only[Array.toList_filter,List.mem_filter];exact⟨he,by rw[hc];rfl⟩
    rw[Array.size_eq_length_toList,List.length_eq_zero_iff]at h0
    rw[h0]at this;cases this
  simp only[List.contains_toArray,List.contains_iff_mem,List.mem_map]at hin
  obtain⟨d',hd,hb⟩:=hin
  have hde:d'=e:=by
   exact born_inj e3 (e6 _ hd) he hb
  subst hde
  have:d'.key∈pre.map vs:=by rw[←e7];exact List.mem_map.2 ⟨_,hd,rfl⟩
  rw[heq.1]at this
  obtain⟨k',hk',hkk⟩:=List.mem_map.1 this
  rw[zko hkk]at hk';exact hk'
 ·have hel:e∈es.toList∧(ds.map (·.born)).toArray.contains e.born=false:=by
   unfold leftOf at he
   simp only[Array.toList_filter,List.mem_filter]at he
   exact⟨he.1,by simpa using he.2⟩
  obtain⟨k,v,hkv,hk,hv⟩:=hmem e hel.1
  have hlt:r<w1.heap.size:=by
   have:=(Array.getElem?_eq_some_iff.1 e5).1
   rcases hw1 with rfl|rfl<;>exact this
  have hrm:r≠m:=fun e=>by rw[e,e1]at e5;cases e5
  have hk1:Keep (fun b=>b=r) w w1:=by rcases hw1 with rfl|rfl<;>first|exact Keep.refl _ _|exact Keep.drew _ _
  have hput:ChangeMaps.setBlock w1 r (.mapIter (some m) clk ((ds.map (·.born)).toArray.push e.born) clk)=w1.putObj r (.mapIter (some m) clk ((ds.map (·.born)).toArray.push e.born) clk):=rfl
  rw[hput]at hrun
  show opR P K _
  rw[hk,hv]at hrun
  refine zaI (s:=Instr.next (ρ x) false ty) (by rw[hx];exact hrun) (h2 k v _ hkv ?_ ⟨es,clk,ds++ [e],?_,e2,e3,e4,?_,?_,?_⟩ (hk1.trans (zaF rfl)) ?_)
  ·intro hkp
   have:vs k∈ds.map (·.key):=by rw[e7];exact List.mem_map.2 ⟨_,hkp,rfl⟩
   obtain⟨d',hd,hdk⟩:=List.mem_map.1 this
   have hde:d'=e:=entry_eq_of_key hap (e6 _ hd) hel.1 (by rw[hdk,hk])
   subst hde
   have:=hel.2
   simp only[List.contains_toArray]at this
   have h3:(ds.map (·.born)).contains d'.born=true:=by rw[List.contains_iff_mem];exact List.mem_map.2 ⟨_,hd,rfl⟩
   rw[h3]at this;cases this
  ·refine(World.putObj_heap_other (fun e=>hrm e.symm)).trans ?_
   rcases hw1 with rfl|rfl<;>exact e1
  ·rw[World.putObj_heap_same hlt];simp
  ·intro d' hd
   rcases List.mem_append.1 hd with hd|hd
   ·exact e6 _ hd
   ·rw[List.mem_singleton.1 hd];exact hel.1
  ·rw[List.map_append,e7,List.map_append];simp[hk]
  ·rcases hw1 with rfl|rfl<;>simp
theorem op_entry{x:Operand}{r m:Nat}{l:List (Lab×Value)}{pre:List Lab}{k:Lab}(hx:ρ x= .pointer (some ⟨r,0,Option.none⟩))(hit:MapIt w r m l (pre++ [k]))
  (h:∀v,K (.tuple #[vs k,v]) w):
  opW P ⟨d,.entry x,ty,ps,af,g⟩ ρ w K:=by
 obtain⟨es,clk,ds,e1,e2,e3,e4,e5,e6,e7⟩:=hit
 rcases List.eq_nil_or_concat ds with rfl| ⟨ds',e,rfl⟩
 ·simp at e7
 ·rw[List.concat_eq_append,List.map_append,List.map_append]at e7
  have e7':=List.append_inj' e7 rfl
  have hk:e.key=vs k:=by simpa using e7'.2
  have hrun:=run_entry_at (P:=P) w r m clk (ds'.map (·.born)).toArray es clk e (by rw[e5];simp) e1 (e6 _ (by simp)) e3
  rw[hk]at hrun
  show opR P K _
  exact zaI (s:=Instr.entry (ρ x)) (by rw[hx];exact hrun) (h _)
end
theorem zdg(w:World)(r:Nat)(o:Obj):(w.putObj r o).heap.size=w.heap.size:=by simp
structure KeepR(n0 n1:Nat)(X:Nat→Prop)(A B:World):Prop where
 os:B.os=A.os
 tape:B.tape=A.tape
 output:B.output=A.output
 size:A.heap.size≤B.heap.size
 block:∀b,b<A.heap.size→(b<n0∨n1≤b)→¬X b→B.heap[b]? =A.heap[b]?
 drawn:A.drawn≤B.drawn
def IterU{α:Type}(P:Program)(g:FuncId)(cap:Array Value)(W0:World)(n0:Nat)(C:Nat→Prop)(own:Nat)(Pre:List α→α→Prop)(Full:List α→Prop)(enc:Nat→α→(Nat→Prop)→World→Array Value→Prop):Prop:=
 ∀(l:Nat) (J:List α→(Nat→Prop)→World→Prop) (Jx:List α→World→Prop) (W:World),Ext W0 W→n0≤W.heap.size→
  (∀pre U A B,J pre U A→Keep (span W.heap.size own) A B→J pre U B)→(∀pre A B,Jx pre A→Keep (span W.heap.size own) A B→Jx pre B)→
  (∀pre U x A args,Pre pre x→J pre U A→W.heap.size+own≤A.heap.size→KeepB n0 C W A→enc W.heap.size x U A args→Yld P l args A (fun v B=>
   (v= .bool true∧∃U',J (pre++ [x]) U' B∧(∀b,U' b→U b∨(A.heap.size≤b∧b<B.heap.size))∧KeepR n0 W.heap.size (fun b=>C b∨U b) A B)∨(v= .bool false∧Jx (pre++ [x]) B)))→
  J [] NoS W→Fn P g (#[.func (.yield l) #[] #[]]++cap) W (fun _ B=>(∃xs U,Full xs∧J xs U B)∨∃pre x,Pre pre x∧Jx (pre++ [x]) B)
def roundU{α:Type}(I:List α→(Nat→Prop)→World→Prop)(Ix:Code→List α→World→Prop)(C U:Nat→Prop)(pre':List α)(A:World):Post
 | .normal,_,_,B=>∃U',I pre' U' B∧(∀b,U' b→U b∨(A.heap.size≤b∧b<B.heap.size))∧Keep (fun b=>C b∨U b) A B
 | .ret,_,_,B=>Ix .ret pre' B∧Keep (fun b=>C b∨U b) A B
 | .exit id,_,_,B=>Ix (.exit id) pre' B∧Keep (fun b=>C b∨U b) A B
 | .goto t,_,_,B=>Ix (.goto t) pre' B∧Keep (fun b=>C b∨U b) A B
 |_,_,_,_=>False
theorem ze3{α:Type}{P:Program}{n:Nat}{f:Operand}{ps:Array Tmp}{assign body:Code}{Q:Post}{σ:Sto}{ds:List Deferred}{w:World}
  {g:FuncId} {cap:Array Value} {W0:World} {n0:Nat} {C:Nat→Prop} {own:Nat} {Pre:List α→α→Prop} {Full:List α→Prop} {enc:Nat→α→(Nat→Prop)→World→Array Value→Prop}
  (hf:ev n σ f= .func (.func g) #[] cap) (hc:zan P g=true) (hit:IterU P g cap W0 n0 C own Pre Full enc) (hW0:Ext W0 w) (hn0:n0≤w.heap.size) (hCn:∀b,C b→b<w.heap.size)
  (henc:∀x U A args,enc (w.heap.size+2) x U A args→args.size=ps.size)
  (I:List α→(Nat→Prop)→World→Prop) (Ix:Code→List α→World→Prop)
  (hI:∀pre U A B,I pre U A→(∀b,U b→w.heap.size+2+own≤b)→Keep (span w.heap.size (2+own)) A B→I pre U B)
  (hIx:∀c pre A B,Ix c pre A→Keep (span w.heap.size (2+own)) A B→Ix c pre B)
  (h0:I [] NoS w)
  (hround:∀(l:Nat) (pre:List α) (U:Nat→Prop) (x:α) (A:World) (args:Array Value),Pre pre x→w.heap.size+2+own≤A.heap.size→I pre U A→(∀b,U b→w.heap.size+2+own≤b∧b<A.heap.size)→enc (w.heap.size+2) x U A args→
   W P (some l) n assign (zdv (fun σ1 ds1 A1=>ds1=[]∧Keep (fun b=>C b∨U b) A A1∧∀A2,Keep (two w.heap.size) A1 A2→W P (some l) n body (roundU I Ix C U (pre++ [x]) A2) σ1 [] A2) (fun _ _ _ _=>False))
    (zdF σ (ps.zip args).toList) [] A)
  (hdone:∀xs U w',Full xs→w.heap.size+2≤w'.heap.size→(∀b,U b→w.heap.size+2+own≤b∧b<w'.heap.size)→I xs U w'→w'.heap[w.heap.size]? =some (.deferred (some []))→Q .normal σ ({target:= .collected w.heap.size,args:=#[]}::ds) w')
  (hstop:∀c pre x w',w.heap.size+2≤w'.heap.size→Pre pre x→Ix c (pre++ [x]) w'→w'.heap[w.heap.size]? =some (.deferred (some []))→
   W P Option.none n c Q σ ({target:= .collected w.heap.size,args:=#[]}::ds) w'):
  W P Option.none n (.rangeFunc f ps assign body) Q σ ds w:=by
 refine wpIn_rangeFunc ?_
 intro fn _
 generalize hrec:zeO fn (act n σ ds).tmps ps assign body w.heap.size=rec
 obtain⟨W1,hW1⟩:∃W1,(w.alloc (.deferred (some []))).alloc (.loop (rec .ready Option.none))=W1:=⟨_,rfl⟩
 have hsz1:W1.heap.size=w.heap.size+2:=by rw[←hW1];simp
 have hL1:W1.heap[w.heap.size+1]? =some (.loop (rec .ready Option.none)):=by
  rw[←hW1];have:=World.alloc_heap_new (w.alloc (.deferred (some []))) (.loop (rec .ready Option.none));rwa [World.size_alloc]at this
 have hK1:W1.heap[w.heap.size]? =some (.deferred (some [])):=by
  rw[←hW1];exact(RowKit.Below.heap_alloc _ _ _ (by simp)).trans (World.alloc_heap_new w _)
 have hE1:Ext w W1:=by rw[←hW1];exact(Ext.alloc w _).trans (Ext.alloc _ _)
 have hI1:I [] NoS W1:=hI _ _ _ _ h0 (fun _ h=>h.elim) (hE1.mono (fun _ _ h=>h.elim))
 have hl2:two w.heap.size (w.heap.size+1):= .inr rfl
 have hl2':span w.heap.size (2+own) (w.heap.size+1):=by unfold span;omega
 refine⟨w.heap.size+1,[{target:= .collected w.heap.size,args:=#[]}],W1,{target:= .fn (.func g) cap,args:=#[.func (.yield (w.heap.size+1)) #[] #[]]},W1,g,
  #[.func (.yield (w.heap.size+1)) #[] #[]]++cap,W1,?_,?_,?_,?_,zdk,?_⟩
 ·rw[←hW1,←hrec];exact run_enterLoop_outer _ _ _ _ _
 ·simp only[resolve,zcn,hf]
  simp[Deferred.ofValue,ev]
 ·intro f' hf';trivial
 ·simp only[invoke];exact zbU hc
 ·-- the iterator's contract
  have hsp:∀{n:Nat} b,b<n→span W1.heap.size own b→span w.heap.size (2+own) b:=fun b _ h=>by unfold span at*;omega
  have hCl:∀b,two w.heap.size b→¬C b:=fun b hb hcb=>by have:=hCn b hcb;rcases hb with rfl|rfl<;>omega
  refine zcM (CallsIn.mono (hit (w.heap.size+1)
   (fun pre U B=>(I pre U B∧∀b,U b→w.heap.size+2+own≤b∧b<B.heap.size)∧w.heap.size+2≤B.heap.size∧B.heap[w.heap.size+1]? =some (.loop (rec .ready Option.none))∧B.heap[w.heap.size]? =some (.deferred (some [])))
   (fun pre B=>∃c,Ix c pre B∧w.heap.size+2≤B.heap.size∧B.heap[w.heap.size+1]? =some (.loop (rec .done (some c)))∧B.heap[w.heap.size]? =some (.deferred (some [])))
   W1 (hW0.trans hE1) (by omega) ?_ ?_ ?_ ⟨⟨hI1,fun _ h=>h.elim⟩,by omega,hL1,hK1⟩) ?_)
  ·rintro pre U A B ⟨⟨hi,hu⟩,hs,hl,hk⟩ hAB
   exact⟨⟨hI _ _ _ _ hi (fun b hb=>(hu b hb).1) (hAB.mono hsp),fun b hb=>⟨(hu b hb).1,Nat.lt_of_lt_of_le (hu b hb).2 hAB.size⟩⟩,Nat.le_trans hs hAB.size,(hAB.block _ (by omega) (by unfold span;omega)).trans hl,(hAB.block _ (by omega) (by unfold span;omega)).trans hk⟩
  ·rintro pre A B ⟨c,hi,hs,hl,hk⟩ hAB
   exact⟨c,hIx _ _ _ _ hi (hAB.mono hsp),Nat.le_trans hs hAB.size,(hAB.block _ (by omega) (by unfold span;omega)).trans hl,(hAB.block _ (by omega) (by unfold span;omega)).trans hk⟩
  ·-- one round
   rintro pre U x A args hxs ⟨⟨hi,hu⟩,hs,hl,hk⟩ hsA _ hx
   have hy:=run_yield (P:=P) (args:=args) hl (by rw[←hrec];exact henc x U A args (by rw[←hsz1];exact hx))
   unfold Yld zg3
   dsimp only
   rw[show (#[]++args:Array Value)=args from by simp]
   rw[hy,←hrec]
   dsimp only[zeO,opR]
   refine zcD (r:=Option.none) (n:=0) (roundIn_of_wpIn (F:=fw Option.none) (n:=0) trivial ?_)
   have hin:(fw Option.none).inRound (w.heap.size+1)=fw (some (w.heap.size+1)):=rfl
   rw[hin]
   have hfold:(ps.zip args).foldl (fun t (x:Tmp×Value)=>t.setIfInBounds x.1 x.2) (act n σ ds).tmps=(act n (zdF σ (ps.zip args).toList) []).tmps:=by
    rw[←Array.foldl_toList]
    exact zcH n ds _ σ
   have hst:({tmps:=(ps.zip args).foldl (fun t (x:Tmp×Value)=>t.setIfInBounds x.1 x.2) (act n σ ds).tmps,defers:=[]}:Act)=act n (zdF σ (ps.zip args).toList) []:=by
    rw[hfold];rfl
   have hD1:=(Array.getElem?_eq_some_iff.1 hl).1
   have hno:∀b,two w.heap.size b→¬(C b∨U b):=fun b hb h=>by
    rcases h with h|h
    ·exact hCl b hb h
    ·have:=(hu b h).1;rcases hb with rfl|rfl<;>omega
   have hr:=hround (w.heap.size+1) pre U x A args hxs (by omega) hi hu (by rw[←hsz1];exact hx)
   unfold W at hr
   rw[←hst]at hr
   refine wpIn_mono hr ?_
   rintro e a A1 ⟨σ1,ds1,rfl,hq⟩
   cases e with
   |normal=>
    obtain⟨rfl,hA1,hbody⟩:=hq
    have hlA1:A1.heap[w.heap.size+1]? =some (.loop (rec .ready Option.none)):=(hA1.block _ (by omega) (hno _ hl2)).trans hl
    have hkA1:A1.heap[w.heap.size]? =some (.deferred (some [])):=(hA1.block _ (by omega) (hno _ (.inl rfl))).trans hk
    have hlt1:w.heap.size+1<A1.heap.size:=(Array.getElem?_eq_some_iff.1 hlA1).1
    refine⟨_,run_beginRound hlA1 (by rw[←hrec];rfl),?_⟩
    have hb:=hbody _ (zaF (w:=A1) (r:=w.heap.size+1) (o:= .loop {rec .ready Option.none with state:= .busy}) hl2)
    refine wpIn_mono hb ?_
    have hlA2:(A1.putObj (w.heap.size+1) (.loop {rec .ready Option.none with state:= .busy})).heap[w.heap.size+1]? =some (.loop {rec .ready Option.none with state:= .busy}):=World.putObj_heap_same hlt1
    have hkA2:(A1.putObj (w.heap.size+1) (.loop {rec .ready Option.none with state:= .busy})).heap[w.heap.size]? =some (.deferred (some [])):=(World.putObj_heap_other (by omega)).trans hkA1
    have fin:∀(jump:Option Code) (B:World),Keep (fun b=>C b∨U b) (A1.putObj (w.heap.size+1) (.loop {rec .ready Option.none with state:= .busy})) B→
      (Instr.endRound (w.heap.size+1) jump).run P B= .ok (.bool jump.isNone) (B.putObj (w.heap.size+1) (.loop (rec (if jump.isNone then .ready else .done) jump)))∧
      w.heap.size+2≤(B.putObj (w.heap.size+1) (.loop (rec (if jump.isNone then .ready else .done) jump))).heap.size∧
      (B.putObj (w.heap.size+1) (.loop (rec (if jump.isNone then .ready else .done) jump))).heap[w.heap.size+1]? =some (.loop (rec (if jump.isNone then .ready else .done) jump))∧
      (B.putObj (w.heap.size+1) (.loop (rec (if jump.isNone then .ready else .done) jump))).heap[w.heap.size]? =some (.deferred (some []))∧
      KeepR n0 W1.heap.size (fun b=>C b∨U b) A (B.putObj (w.heap.size+1) (.loop (rec (if jump.isNone then .ready else .done) jump))):=by
     intro jump B hB
     have hlB:=(hB.block _ (by simp;omega) (hno _ hl2)).trans hlA2
     have hkB:=(hB.block _ (by simp;omega) (hno _ (.inl rfl))).trans hkA2
     have hltB:w.heap.size+1<B.heap.size:=(Array.getElem?_eq_some_iff.1 hlB).1
     have hsB:=hB.size
     simp only[zdg]at hsB
     refine⟨?_,by simp;omega,World.putObj_heap_same hltB,(World.putObj_heap_other (by omega)).trans hkB,?_⟩
     ·have:=run_endRound (P:=P) jump hlB
      rw[←hrec]at this ⊢
      exact this
     ·refine⟨hB.os.trans hA1.os,hB.tape.trans hA1.tape,hB.output.trans hA1.output,?_,fun b hb hor hn=>?_,Nat.le_trans hA1.drawn hB.drawn⟩
      ·have:=hA1.size;simp;omega
      ·have h1:=hA1.size
       have hne:b≠w.heap.size+1:=by omega
       exact(World.putObj_heap_other hne).trans ((hB.block b (by simp;omega) hn).trans ((World.putObj_heap_other hne).trans (hA1.block b hb hn)))
    rintro e a B ⟨σ2,ds2,rfl,hq⟩
    cases e with
    |normal=>
     obtain⟨U',hi',hU',hB⟩:=hq
     obtain⟨h1,h2,h3,h4,h5⟩:=fin Option.none B hB
     have hsA1:=hA1.size
     have hsB:=hB.size
     simp only[zdg]at hsB
     have hU2:∀b,U' b→U b∨(A.heap.size≤b∧b<B.heap.size):=fun b hb=>by
      rcases hU' b hb with h| ⟨h,h'⟩
      ·exact .inl h
      ·simp only[zdg]at h;exact .inr ⟨by omega,h'⟩
     have hu':∀b,U' b→w.heap.size+2+own≤b∧b<B.heap.size:=fun b hb=>by
      rcases hU2 b hb with h| ⟨h,h'⟩
      ·have:=hu b h;omega
      ·omega
     exact⟨_,_,h1,_,rfl,.inl ⟨rfl,U',⟨⟨hI _ _ _ _ hi' (fun b hb=>(hu' b hb).1) (zaF hl2'),fun b hb=>by rw[zdg];exact hu' b hb⟩,h2,h3.trans (by rw[←hrec];rfl),h4⟩,fun b hb=>by rw[zdg];exact hU2 b hb,h5⟩⟩
    |ret=>
     obtain⟨hi',hB⟩:=hq
     obtain⟨h1,h2,h3,h4,_⟩:=fin (some .ret) B hB
     exact⟨_,_,h1,_,rfl,.inr ⟨rfl,_,hIx _ _ _ _ hi' (zaF hl2'),h2,h3.trans (by rw[←hrec];rfl),h4⟩⟩
    |exit id=>
     obtain⟨hi',hB⟩:=hq
     obtain⟨h1,h2,h3,h4,_⟩:=fin (some (.exit id)) B hB
     exact⟨_,_,h1,_,rfl,.inr ⟨rfl,_,hIx _ _ _ _ hi' (zaF hl2'),h2,h3.trans (by rw[←hrec];rfl),h4⟩⟩
    |goto t=>
     obtain⟨hi',hB⟩:=hq
     obtain⟨h1,h2,h3,h4,_⟩:=fin (some (.goto t)) B hB
     exact⟨_,_,h1,_,rfl,.inr ⟨rfl,_,hIx _ _ _ _ hi' (zaF hl2'),h2,h3.trans (by rw[←hrec];rfl),h4⟩⟩
    |panic c=>exact hq.elim
    |outgrown=>exact hq.elim
   |ret=>exact hq.elim
   |exit id=>exact hq.elim
   |goto t=>exact hq.elim
   |panic c=>exact hq.elim
   |outgrown=>exact hq.elim
  ·rintro e B ⟨v,rfl,h⟩
   rcases h with ⟨xs,U,hfull,⟨hi,hu⟩,hs,hl,hk⟩| ⟨pre,x,hxs,c,hi,hs,hl,hk⟩
   ·have hend:=run_endLoop (P:=P) hl (by rw[←hrec];simp[zeO])
    have hp:(rec LoopState.ready Option.none).pending=Option.none:=by rw[←hrec];rfl
    rw[hp]at hend
    refine⟨Option.none,_,hend,?_⟩
    exact⟨σ,_,rfl,hdone xs U _ hfull (by simp;omega) (fun b hb=>by rw[zdg];exact hu b hb) (hI _ _ _ _ hi (fun b hb=>(hu b hb).1) (zaF hl2')) ((World.putObj_heap_other (by omega)).trans hk)⟩
   ·have hend:=run_endLoop (P:=P) hl (by rw[←hrec];simp[zeO])
    have hp:(rec LoopState.done (some c)).pending=some c:=by rw[←hrec];rfl
    rw[hp]at hend
    refine⟨some c,_,hend,?_⟩
    exact hstop c pre x _ (by simp;omega) hxs (hIx _ _ _ _ hi (zaF hl2')) ((World.putObj_heap_other (by omega)).trans hk)
section
variable {α : Type} {k B : Nat} {C : List Value → α → Prop} {w x : World} {v : Value} {xs : List α} {e : TypeId}
theorem zbn(a:Addr)(i:Nat):(a.add i).block=a.block:=by unfold Addr.add;split<;>rfl
theorem zlP{a:Addr}(h:x.heap[a.block]? =w.heap[a.block]?):x.cell? a=w.cell? a:=by unfold World.cell?;rw[h]
theorem zfE{a:Addr}(h:x.heap[a.block]? =w.heap[a.block]?):∀(k i:Nat),zaN x a i k=zaN w a i k
 |0,_=>rfl
 |k+1,i=>by
  have e1:x.cell? (a.add i)=w.cell? (a.add i):=zlP (by rw[zbn];exact h)
  have e2:=zfE h k (i+1)
  unfold zaN
  rw[e1,e2]
theorem ziL{p:Option Addr}(h:∀a,p=some a→x.heap[a.block]? =w.heap[a.block]?)(k:Nat):zas x p k=zas w p k:=by
 cases p with
 |none=>rfl
 |some a=>exact zfE (h a rfl) k 0
theorem Rows.blocks(h:Rows k C w v xs)(hb:∀a n c,v= .slice (some a) n c→x.heap[a.block]? =w.heap[a.block]?):Rows k C x v xs:=by
 obtain⟨L,⟨a,c,rfl,hc,hl⟩,h2,h3⟩:=h
 refine⟨L,⟨a,c,rfl,hc,fun j hj=>?_⟩,h2,h3⟩
 rw[←hl j hj]
 refine ziL (fun p hp=>?_) k
 cases a with
 |none=>cases hp
 |some a=>
  have:p.block=a.block:=by
   simp only[adr,Option.map_some,Option.some.injEq]at hp
   rw[←hp,zbn]
  rw[this];exact hb a _ _ rfl
def BlkB(B:Nat)(w:World)(v:Value):Prop:=∀a n c,v= .slice (some a) n c→B≤a.block∧a.block<w.heap.size
theorem BlkB.ext(h:BlkB B w v)(hs:w.heap.size≤x.heap.size):BlkB B x v:=fun a n c hv=>⟨(h a n c hv).1,Nat.lt_of_lt_of_le (h a n c hv).2 hs⟩
theorem BlkB.mono{B':Nat}(h:BlkB B w v)(hB:B'≤B):BlkB B' w v:=fun a n c hv=>⟨Nat.le_trans hB (h a n c hv).1,(h a n c hv).2⟩
theorem BlkB.nil{n c:Nat}:BlkB B w (.slice Option.none n c):=fun a n c hv=>by cases hv
theorem BlkB.same{a:Option Addr}{n c n' c':Nat}(h:BlkB B w (.slice a n c)):BlkB B w (.slice a n' c'):=fun b n2 c2 hv=>by
 injection hv with e1 e2 e3
 subst e1
 exact h b n c rfl
theorem Owns.blk(h:Owns k C B w e v xs):BlkB B w v:=by
 intro a n c hv
 rcases h.cases with ⟨h1,_⟩| ⟨b,cap,L,h1,hb,_,_,hD,_⟩
 ·rw[h1]at hv;cases hv
 ·rw[h1]at hv
  injection hv with e1 e2 e3
  injection e1 with e1
  subst e1
  exact⟨hb,hD.lt⟩
theorem Rows.keep(h:Rows k C w v xs){S:Nat→Prop}(hk:Keep S w x)(hB:BlkB B w v)(hS:∀b,B≤b→b<w.heap.size→¬S b):Rows k C x v xs:=
 h.blocks fun a n c hv=>hk.block _ (hB a n c hv).2 (hS _ (hB a n c hv).1 (hB a n c hv).2)
theorem zfF{w:World}{a:Addr}:∀(i m k:Nat) {l:List Value},zaN w a i (m+k)=some l→zaN w a (i+m) k=some (l.drop m)
 |i,0,k,l,h=>by rw[Nat.zero_add]at h;simpa using h
 |i,m+1,k,l,h=>by
  rw[show m+1+k=(m+k)+1 from by omega]at h
  unfold zaN at h
  split at h
  ·rename_i v l' h1 h2
   cases h
   have:=zfF (i+1) m k h2
   rw[show i+1+m=i+(m+1) from by omega]at this
   simpa using this
  ·cases h
theorem zia{w:World}{a:Addr}{m:Nat}:∀(k i:Nat),zaN w (a.add m) i k=zaN w a (m+i) k
 |0,_=>rfl
 |k+1,i=>by
  have e:=zia (w:=w) (a:=a) (m:=m) k (i+1)
  unfold zaN
  rw[zdb,e];rfl
theorem za8{w:World}{p:Option Addr}{m k:Nat}{l:List Value}(h:zas w p (m+k)=some l):zas w (adr p m) k=some (l.drop m):=by
 cases p with
 |none=>cases h
 |some a=>
  show zaN w (a.add m) 0 k=_
  rw[zia,Nat.add_zero]
  have:=zfF 0 m k (show zaN w a 0 (m+k)=some l from h)
  rwa [Nat.zero_add]at this
theorem zkt{c lo m:Nat}{y a:Addr}(h:(if c=lo then some y else adr (some y) m)=some a):a.block=y.block:=by
 split at h
 ·cases h;rfl
 ·simp only[adr,Option.map_some,Option.some.injEq]at h
  rw[←h,zbn]
theorem zd2{b o n:Nat}(h:b<n):offS (zev n) (some ⟨b,o,Option.none⟩):=fun a ha hb=>by
 cases ha
 unfold zev at hb
 exact absurd (show n≤b from hb) (by omega)
theorem off_adr{y:Addr}{k n:Nat}(h:y.block<n):offS (zev n) (adr (some y) k):=fun a ha hb=>by
 simp only[adr,Option.map_some,Option.some.injEq]at ha
 rw[←ha]at hb
 unfold zev at hb
 rw[zbn]at hb;omega
theorem zh2{w x:World}(h:x=w.drew):Ext w x:=h▸Keep.drew NoS w
/-! ### a variable of several cells -/
variable {P : Program} {K : Value → World → Prop}
theorem zaM{t:TypeId}{b:Nat}{cur:Array Value}{l:List Value}(hb:w.heap[b]? =some (.cells cur e (0,0)))(hl:l.length=cur.size)(h1:∀v∈l,one v=true)(hs:tyS P t=l.length)(hi:(P.info? t).isSome=true)
  (hK:∀w',w'.heap.size=w.heap.size→w'.heap[b]? =some (.cells l.toArray e (0,0))→Keep (fun i=>i=b) w w'→K undef w'):stK P t (.pointer (some ⟨b,0,Option.none⟩)) (.agg l.toArray) w K:=by
 obtain⟨w',k1,k2,k3,cur',k4,k5⟩:=zff (o:=0) l 0 w [] cur.toList [] cur hb (by simp) rfl (by simp[hl]) h1
 refine⟨by simp[Value.cells,hs],hi,w',by simpa [Value.cells] using k1,hK w' k2 ?_ k3⟩
 rw[k4]
 have:cur'=l.toArray:=by
  apply Array.ext'
  simpa using k5
 rw[this]
theorem zaY{t:TypeId}{b j:Nat}{u:Value}{l:List Value}(hb:w.heap[b]? =some (.cells l.toArray e (0,0)))(hj:j<l.length)(h1:one u=true)(hs:tyS P t=1)(hi:(P.info? t).isSome=true)
  (hK:∀w',w'.heap.size=w.heap.size→w'.heap[b]? =some (.cells (l.set j u).toArray e (0,0))→Keep (fun i=>i=b) w w'→K undef w'):stK P t (.pointer (some ⟨b,j,Option.none⟩)) u w K:=by
 refine zdy hs hi h1 hb (by simpa using hj) (by simp) ?_
 intro w' h1 h2 h3
 refine hK w' h1 ?_ h3
 rw[h2];simp
theorem zcs{b j:Nat}{u:Value}{l:List Value}(hb:w.heap[b]? =some (.cells l.toArray e (0,0)))(hj:l[j]? =some u):zae w (some ⟨b,j,Option.none⟩)=some u:=by
 show w.cell? _=_
 rw[za0 hb];simpa using hj
theorem zah{b n:Nat}{l:List Value}(hb:w.heap[b]? =some (.cells l.toArray e (0,0)))(hn:n=l.length):zas w (some ⟨b,0,Option.none⟩) n=some l:=by
 have:=zfC (n:=n) hb (by simp[hn])
 simpa using this
end
theorem zdt{P:Program}{w:World}{f:Option Nat}{n:Nat}{c:Code}{Q:Post}{σ:Sto}{ds:List Deferred}{A B C:Obj}(h:∀w1,Ext w w1→w1.heap.size=w.heap.size+3→w1.heap[w.heap.size]? =some A→w1.heap[w.heap.size+1]? =some B→w1.heap[w.heap.size+1+1]? =some C→W P f n c Q σ ds w1):W P f n c Q σ ds (((w.alloc A).alloc B).alloc C):=by
 obtain⟨h1,h2,h3,h4,h5⟩:=zdM w A B C
 exact h _ h1 h2 h3 h4 h5
section
variable {P : Program} {n : Nat} {σ : Sto} {w : World} {l : List ResultVar} {r : List Value}
theorem zaz:resV P n σ w []=some []:=rfl
theorem zat{t:Tmp}{v:Value}(hv:ev n σ (.tmp t)=v)(h:resV P n σ w l=some r):resV P n σ w (.tmp t::l)=some (v::r):=by
 unfold resV
 rw[h,←hv];rfl
theorem zaZ{a:Tmp}{t:TypeId}{x:Addr}{k:Nat}{cs:List Value}(hv:ev n σ (.tmp a)= .pointer (some x))(hA:tyA P t=true)(hk:tyS P t=k)(hc:zas w (some x) k=some cs)(h:resV P n σ w l=some r):resV P n σ w (.cell a t::l)=some (.agg cs.toArray::r):=by
 subst hk
 unfold resV
 rw[show (if a<n then σ a else undef)= .pointer (some x) from hv]
 have:ldV P w t x=some (.agg cs.toArray):=by
  unfold ldV
  rw[hA,cond_true,show zaN w x 0 (tyS P t)=some cs from hc];rfl
 simp only[this,h]
theorem zgw{a:Tmp}{t:TypeId}{x:Addr}{v:Value}(hv:ev n σ (.tmp a)= .pointer (some x))(hA:tyA P t=false)(hU:(tyU P t).isSome=true)(hc:zae w (some x)=some v)(h:resV P n σ w l=some r):resV P n σ w (.cell a t::l)=some (v::r):=by
 unfold resV
 rw[show (if a<n then σ a else undef)= .pointer (some x) from hv]
 have:ldV P w t x=some v:=by
  unfold ldV
  rw[hA,cond_false,hU,cond_true];exact hc
 simp only[this,h]
theorem zaE{fn:Func}{R:Value→World→Prop}{e:Exit}(he:e= .normal∨e= .ret)(hm:fn.ntmps=n){rs:List ResultVar}(hl:fn.results.toList=rs)(hr:resV P n σ w rs=some r)(h:R (resT r) w):retQ P fn R e σ [] w:=by
 subst hm hl
 exact⟨he,trivial,r,hr,h⟩
theorem zby{fn:Func}{R:Value→World→Prop}{e:Exit}{D:Nat}(he:e= .normal∨e= .ret)(hm:fn.ntmps=n){rs:List ResultVar}(hl:fn.results.toList=rs)(hD:w.heap[D]? =some (.deferred (some [])))
  (h:∀w',Keep (fun b=>b=D) w w'→w'.heap.size=w.heap.size→∃r,resV P n σ w' rs=some r∧R (resT r) w'):retQ P fn R e σ [{target:= .collected D,args:=#[]}] w:=by
 subst hm hl
 obtain⟨r,h1,h2⟩:=h (w.putObj D (.deferred Option.none)) (zaF rfl) (by simp)
 exact⟨he,⟨D,rfl,hD,trivial⟩,r,h1,h2⟩
end
section
variable {P : Program} {d : Option Tmp} {ty : TypeId} {ps : String} {af : Array Edge} {g : Option (Nat × Bool)} {ρ : Operand → Value} {w : World} {K : Value → World → Prop}
theorem zkV{op:BinOp}{t yt:TypeId}{x y:Operand}{u v r:Value}(hx:ρ x=u)(hy:ρ y=v)(hr:(do eqGuard op t x y u v;binOp op t u v:Sem Value).run P w= .ok r w)(h:K r w):
  opW P ⟨d,.binOp op t x y yt,ty,ps,af,g⟩ ρ w K:=by
 have:=zaI (P:=P) (K:=K) hr h
 rw[←hx,←hy]at this
 exact this
theorem zhK{t te yt:TypeId}{j:TypeInfo}{x y:Operand}{a:Addr}(ht:tyU P t=some (.pointer te))(hj:P.info? te=some j)(hx:ρ x= .pointer (some a))(hy:ρ y= .pointer (some a))(h:K (.bool false) w):
  opW P ⟨d,.binOp .neq t x y yt,ty,ps,af,g⟩ ρ w K:=by
 refine zkV hx hy ?_ h
 simp[eqGuard,Lib.run_neq_ptr_same (P:=P) w a (show P.underlying t=_ from ht) hj]
theorem zkY{s t:TypeId}{x:Operand}{u v:Value}{w':World}(hx:ρ x=u)(hr:(convert s t u).run P w= .ok v w')(h:K v w'):opW P ⟨d,.convert s t x,ty,ps,af,g⟩ ρ w K:=by
 show opR P K ((do pure (.value (←convert s t (ρ x))):Sem Next).run P w)
 rw[hx]
 exact zaI hr h
theorem op_appS{B:Nat}{s x:Operand}{t tu e:TypeId}{inf:TypeInfo}{v:Value}{l:List Value}{bs:List UInt8}(hown:Own B w e v l)(ht:tyU P t=some (.slice e))(hu:tyU P tu=some .string)(hi:P.info? e=some inf)(hz:inf.zero=some (.int .u8 0))
  (hsize:inf.size=1) (hby:inf.bytes=1) (hv:ρ s=v) (hx:ρ x=vs bs) (hlen:l.length+bs.length≤100000000000) (hB:B≤w.heap.size)
  (h:∀v' w',Own B w' e v' (l++bs.map zaf)→Keep (fun b=>some b=v.ownBlock) w w'→K v' w'):
  opW P ⟨d,.call ⟨.builtin .append,#[s,x],#[t,tu]⟩,ty,ps,af,g⟩ ρ w K:=by
 have hs:(⟨bs.toArray⟩:ByteArray).size=bs.length:=by simp[ByteArray.size]
 obtain⟨v',w',hr,h2,h3,h4⟩:=Lib.run_append_own_string (P:=P) w B t tu ty e inf (show P.underlying t=_ from ht) (show P.underlying tu=_ from hu) hi hz hsize hby v l.length l hown ⟨bs.toArray⟩ (by rw[hs];simp[maxLen];omega) (by rw[hs];omega) hB
 have hc:Lib.strCells ⟨bs.toArray⟩=bs.map zaf:=by simp[Lib.strCells,zaf]
 rw[hs,hc]at h2
 refine zcc (b:= .append) (r:= .ok v' w') (fun v2 w2 h'=>?_) ⟨v',w',by rw[hv,hx];exact hr⟩
 rw[hv,hx]at h'
 have e1:(Builtin.append_ #[t,tu] ty #[v,.string ⟨bs.toArray⟩]).run P w= .ok v2 w2:=h'
 rw[hr]at e1
 cases e1
 have hl:l.length+bs.length=(l++bs.map zaf).length:=by simp
 rw[hl]at h2
 exact h v' w' h2 (zf9 h3 (zaP _ _ _ _ hr))
theorem zhB{x:Operand}{ts:Array TypeId}{u v:Value}{w':World}(hx:ρ x=u)(hr:(Builtin.unsafeSliceData_ ts ty #[u]).run P w= .ok v w')(h:K v w'):
  opW P ⟨d,.call ⟨.builtin .unsafeSliceData,#[x],ts⟩,ty,ps,af,g⟩ ρ w K:=by
 simp only[opW,execOp,Sem.run_bind,resolve]
 simp only[Sem.run_pure,Result.andThen_ok,invoke,builtin]
 exact zaI (s:=Builtin.unsafeSliceData_ ts ty (Array.map ρ #[x])) (by simpa [hx] using hr) h
theorem zfo{x y:Operand}{ts:Array TypeId}{u z v:Value}{w':World}(hx:ρ x=u)(hy:ρ y=z)(hr:(Builtin.unsafeString_ ts ty #[u,z]).run P w= .ok v w')(h:K v w'):
  opW P ⟨d,.call ⟨.builtin .unsafeString,#[x,y],ts⟩,ty,ps,af,g⟩ ρ w K:=by
 simp only[opW,execOp,Sem.run_bind,resolve]
 simp only[Sem.run_pure,Result.andThen_ok,invoke,builtin]
 exact zaI (s:=Builtin.unsafeString_ ts ty (Array.map ρ #[x,y])) (by simpa [hx,hy] using hr) h
end
theorem zji{key:Lab}{v:Value}:∀(es:List MapEntry) (l:List (Lab×Value)) (i:Nat),es.map (fun e=>(e.key,e.val))=l.map (fun p=>(vs p.1,p.2))→l.lookup key=some v→∃j e,Instr.findNow .string (vs key) es i=some (some (i+j,v))∧es[j]? =some e∧e.key=vs key∧e.val=v
 | [],[],_,_,h=>by simp at h
 | [],_::_,_,h,_=>by simp at h
 |_::_,[],_,h,_=>by simp at h
 |e::es,(k,u)::l,i,h,hl=>by
  simp only[List.map_cons,List.cons.injEq,Prod.mk.injEq]at h
  obtain⟨⟨h1,h2⟩,h3⟩:=h
  simp only[List.lookup_cons]at hl
  split at hl
  ·rename_i heq
   cases hl
   have:key=k:=by simpa using heq
   subst this
   exact⟨0,e,by simp only[Instr.findNow,h1,zct,heq,h2,Nat.add_zero],rfl,h1,h2⟩
  ·rename_i hne
   obtain⟨j,e',g1,g2,g3⟩:=zji es l (i+1) h3 hl
   exact⟨j+1,e',by simp only[Instr.findNow,h1,zct,hne];rw[g1];congr 3;omega,by simpa using g2,g3⟩
section
variable {P : Program} {d : Option Tmp} {ty : TypeId} {ps : String} {af : Array Edge} {g : Option (Nat × Bool)} {ρ : Operand → Value} {w : World} {K : Value → World → Prop}
theorem zhE{t:TypeId}{m k:Operand}{ok:Bool}{mv kv v:Value}(hm:ρ m=mv)(hk:ρ k=kv)(h:lkV P w t mv kv ok=some v)(hK:K v w):opW P ⟨d,.lookup t m k ok,ty,ps,af,g⟩ ρ w K:=by
 have:=zaI (P:=P) (K:=K) (zla h) hK
 rw[←hm,←hk]at this
 exact this
theorem zjN{t kt et:TypeId}{m k x:Operand}{r:Nat}{l:List (Lab×Value)}{key:Lab}{v:Value}(ht:tyU P t=some (.map kt et))(hk:tyU P kt=some .string)
  (hm:ρ m= .map (some r)) (hkey:ρ k=vs key) (hx:ρ x=v) (hat:MapAt w r l) (hin:l.lookup key=some v)
  (h:∀w',MapAt w' r l→Keep (fun i=>i=r) w w'→w'.heap.size=w.heap.size→K undef w'):
  opW P ⟨d,.mapUpdate t m k x,ty,ps,af,g⟩ ρ w K:=by
 obtain⟨es,clk,h1,h2,h3,h4⟩:=hat
 obtain⟨j,e,hf,hj,hek,hev⟩:=zji es.toList l 0 h2 hin
 rw[Nat.zero_add]at hf
 have hj':es[j]? =some e:=by simpa using hj
 have hrun:(Instr.mapUpdate t (.map (some r)) (vs key) v).run P w= .ok () (w.putObj r (.map (es.modify j fun e=>{e with key:=vs key,val:=v}) clk)):=by
  have hck:∀e,(Instr.checkKey e 10000 kt (vs key)).run P w= .ok () w:=fun e=>zch hk 9999
  have hst:(Instr.keyThatStays (vs key) (vs key)).run P w= .ok (vs key) w:=MapKept.run_keyThatStays (d:= .string) trivial
  simp[Instr.mapUpdate,run_underlying (show P.underlying t=_ from ht),MapKept.run_getObj_map h1,hck,Instr.findKey,run_underlying (show P.underlying kt=_ from hk),hf,hj',hek,hst,MapKept.run_setObj_map _ h1,Result.andThen]
  rfl
 have hlt:r<w.heap.size:=(Array.getElem?_eq_some_iff.1 h1).1
 have hsame:∀i:Nat,(es.modify j fun e=>{e with key:=vs key,val:=v})[i]? =es[i]?:=fun i=>by
  rw[Array.getElem?_modify]
  split
  ·rename_i hi
   rw[←hi,hj']
   cases e
   simp only at hek hev
   subst hek hev
   rfl
  ·rfl
 have hmod:(es.modify j fun e=>{e with key:=vs key,val:=v})=es:=Array.ext_getElem? hsame
 rw[hmod]at hrun
 have hat':MapAt (w.putObj r (.map es clk)) r l:=⟨es,clk,World.putObj_heap_same hlt,h2,h3,h4⟩
 have hfin:=h _ hat' (zaF rfl) (by simp)
 show opR P K ((do Instr.mapUpdate t (ρ m) (ρ k) (ρ x);pure .skip:Sem Next).run P w)
 rw[hm,hkey,hx]
 simp only[Sem.run_bind,hrun,Result.andThen_ok,Sem.run_pure]
 exact hfin
end
structure MKey(P:Program)(kt:TypeId)(good:Value→Prop):Prop where
 check:∀(w:World) (em:Bool) {v:Value},good v→(Instr.checkKey em 10000 kt v).run P w= .ok () w
 find:∀(w:World) {x:Value},good x→∀es:List MapEntry,(∀e∈es,good e.key)→
  ((Instr.findKey kt x es).run P w= .ok Option.none w∧∀e∈es,e.key≠x)∨∃j e,(Instr.findKey kt x es).run P w= .ok (some (j,e.val)) w∧es[j]? =some e∧e.key=x
theorem MKey.of{P:Program}{kt:TypeId}(h:WideMaps.KeyLaw P kt):MKey P kt fun v=>∃l,keyOf P kt v=some l:=
 ⟨fun w em v ⟨_,hl⟩=>h.check w em hl,fun w x ⟨_,hl⟩ es he=>h.find w hl es he⟩
theorem zfx{kd:IntKind}{x:Int}:∀(es:List MapEntry) (i:Nat),(∀e∈es,∃n,e.key= .int kd n)→
  (Instr.findNow (.int kd) (.int kd x) es i=some Option.none∧∀e∈es,e.key≠ .int kd x)∨∃j e,Instr.findNow (.int kd) (.int kd x) es i=some (some (i+j,e.val))∧es[j]? =some e∧e.key= .int kd x
 | [],i,_=> .inl ⟨rfl,fun e h=>by cases h⟩
 |e::es,i,h=>by
  obtain⟨n,hn⟩:=h e (by simp)
  by_cases hx:x=n
  ·refine .inr ⟨0,e,?_,rfl,by rw[hn,hx]⟩
   simp[Instr.findNow,hn,Instr.sameNow,hx]
  ·have hs:Instr.sameNow (.int kd) (.int kd x) e.key=some false:=by rw[hn];simp[Instr.sameNow,hx]
   rcases zfx es (i+1) (fun y hy=>h y (by simp[hy])) with ⟨h1,h2⟩| ⟨j,e',h1,h2,h3⟩
   ·refine .inl ⟨by simp only[Instr.findNow,hs];exact h1,fun y hy=>?_⟩
    rcases List.mem_cons.1 hy with rfl|hy
    ·rw[hn];intro e2;injection e2 with _ e3;exact hx e3.symm
    ·exact h2 y hy
   ·exact .inr ⟨j+1,e',by simp only[Instr.findNow,hs];rw[h1];congr 3;omega,by simpa using h2,h3⟩
theorem zh8{P:Program}{w:World}{kt:TypeId}{kd:IntKind}(h:P.underlying kt=some (.int kd))(em:Bool)(x:Int)(n:Nat):(Instr.checkKey em (n+1) kt (.int kd x)).run P w= .ok () w:=by
 simp[Instr.checkKey,underlying,program,Sem.run,h]
theorem MKey.int{P:Program}{kt:TypeId}{kd:IntKind}(h:P.underlying kt=some (.int kd)):MKey P kt fun v=>∃n,v= .int kd n:=
 ⟨fun w em v ⟨n,e⟩=>by subst e;exact zh8 h em n 9999,fun w x ⟨n,e⟩ es he=>by
  subst e
  rcases zfx (x:=n) es 0 he with ⟨h1,h2⟩| ⟨j,e,h1,h2,h3⟩
  ·exact .inl ⟨by simp[Instr.findKey,underlying,program,Sem.run,h,h1],h2⟩
  ·exact .inr ⟨j,e,by simp[Instr.findKey,underlying,program,Sem.run,h,h1],h2,h3⟩⟩
def GM(w:World)(r:Nat)(l:List (Value×Value)):Prop:=
 ∃es clk,w.heap[r]? =some (.map es clk)∧es.toList.map (fun e=>(e.key,e.val))=l
theorem GM.block{w x:World}{r:Nat}{l:List (Value×Value)}(h:GM w r l)(hb:x.heap[r]? =w.heap[r]?):GM x r l:=by
 obtain⟨es,clk,h1,h2⟩:=h
 exact⟨es,clk,hb.trans h1,h2⟩
theorem GM.lt{w:World}{r:Nat}{l:List (Value×Value)}(h:GM w r l):r<w.heap.size:=by
 obtain⟨es,clk,h1,_⟩:=h
 exact(Array.getElem?_eq_some_iff.1 h1).1
section
variable {P : Program} {d : Option Tmp} {ty : TypeId} {ps : String} {af : Array Edge} {g : Option (Nat × Bool)} {ρ : Operand → Value} {w : World} {K : Value → World → Prop} {good : Value → Prop}
theorem zgE{t kt et:TypeId}{m k:Operand}{ok:Bool}{r:Nat}{l:List (Value×Value)}{key z:Value}{inf:TypeInfo}(law:MKey P kt good)(ht:P.underlying t=some (.map kt et))(hi:P.info? et=some inf)(hz:inf.zero=some z)
  (hm:ρ m= .map (some r)) (hk:ρ k=key) (hat:GM w r l) (hg:good key) (hgl:∀p∈l,good p.1)
  (h1:(∀p∈l,p.1≠key)→K (if ok then .tuple #[z,.bool false] else z) w) (h2:∀v,(key,v)∈l→K (if ok then .tuple #[v,.bool true] else v) w):
  opW P ⟨d,.lookup t m k ok,ty,ps,af,g⟩ ρ w K:=by
 obtain⟨es,clk,e1,e2⟩:=hat
 have hge:∀e∈es.toList,good e.key:=fun e he=>hgl (e.key,e.val) (by rw[←e2];exact List.mem_map.2 ⟨e,he,rfl⟩)
 have hck:∀em,(Instr.checkKey em 10000 kt key).run P w= .ok () w:=fun em=>law.check w em hg
 have hzv:(zeroValue et).run P w= .ok z w:=by simp[zeroValue,typeInfo,program,Sem.run,hi,hz]
 show opR P K _
 rcases law.find w hg es.toList hge with ⟨hf,hno⟩| ⟨j,e,hf,hj,hke⟩
 ·refine zaI (s:=Instr.lookup t (ρ m) (ρ k) ok) (v:=if ok then .tuple #[z,.bool false] else z) (w':=w) ?_ (h1 fun p hp=>?_)
  ·rw[hm,hk]
   simp[Instr.lookup,run_underlying ht,MapKept.run_getObj_map e1,hck,hf,hzv,Result.andThen]
  ·rw[←e2]at hp
   obtain⟨e,he,rfl⟩:=List.mem_map.1 hp
   exact hno e he
 ·refine zaI (s:=Instr.lookup t (ρ m) (ρ k) ok) (v:=if ok then .tuple #[e.val,.bool true] else e.val) (w':=w) ?_ (h2 e.val ?_)
  ·rw[hm,hk]
   simp[Instr.lookup,run_underlying ht,MapKept.run_getObj_map e1,hck,hf,Result.andThen]
  ·rw[←e2,←hke]
   exact List.mem_map.2 ⟨e,List.mem_of_getElem? hj,rfl⟩
theorem zkW{t kt et:TypeId}{m k x:Operand}{r:Nat}{l:List (Value×Value)}{key v:Value}(law:MKey P kt good)(ht:P.underlying t=some (.map kt et))
  (hm:ρ m= .map (some r)) (hk:ρ k=key) (hx:ρ x=v) (hat:GM w r l) (hg:good key) (hgl:∀p∈l,good p.1) (hno:∀p∈l,p.1≠key)
  (h:∀w',GM w' r (l++ [(key,v)])→Keep (fun i=>i=r) w w'→w'.heap.size=w.heap.size→K undef w'):
  opW P ⟨d,.mapUpdate t m k x,ty,ps,af,g⟩ ρ w K:=by
 obtain⟨es,clk,e1,e2⟩:=hat
 have hge:∀e∈es.toList,good e.key:=fun e he=>hgl (e.key,e.val) (by rw[←e2];exact List.mem_map.2 ⟨e,he,rfl⟩)
 have hck:∀em,(Instr.checkKey em 10000 kt key).run P w= .ok () w:=fun em=>law.check w em hg
 have hf:(Instr.findKey kt key es.toList).run P w= .ok Option.none w:=by
  rcases law.find w hg es.toList hge with ⟨hf,_⟩| ⟨j,e,hf,hj,hke⟩
  ·exact hf
  ·exact absurd hke (hno (e.key,e.val) (by rw[←e2];exact List.mem_map.2 ⟨e,List.mem_of_getElem? hj,rfl⟩))
 have hrun:(Instr.mapUpdate t (.map (some r)) key v).run P w= .ok () (w.putObj r (.map (es.push {key:=key,val:=v,born:=clk}) (clk+1))):=by
  simp[Instr.mapUpdate,run_underlying ht,MapKept.run_getObj_map e1,hck,hf,MapKept.run_setObj_map _ e1,Result.andThen]
  rfl
 have hlt:r<w.heap.size:=(Array.getElem?_eq_some_iff.1 e1).1
 have hfin:=h (w.putObj r (.map (es.push {key:=key,val:=v,born:=clk}) (clk+1))) ⟨_,_,World.putObj_heap_same hlt,by simp[e2]⟩ (zaF rfl) (by simp)
 show opR P K ((do Instr.mapUpdate t (ρ m) (ρ k) (ρ x);pure .skip:Sem Next).run P w)
 rw[hm,hk,hx]
 simp only[Sem.run_bind,hrun,Result.andThen_ok,Sem.run_pure]
 exact hfin
end
structure KeyL where
 name:Lab
 a:Int
 b:Int
 c:Int
 d:Int
 ref:Bool
def keyV(k:KeyL):Value:= .agg #[vs k.name,vi k.a,vi k.b,vi k.c,vi k.d,.bool k.ref]
theorem zjc{j k:KeyL}(h:keyV j=keyV k):j=k:=by
 obtain⟨n,a,b,c,d,r⟩:=j
 obtain⟨n',a',b',c',d',r'⟩:=k
 simp[keyV,vs]at h
 obtain⟨rfl,rfl,rfl,rfl,rfl,rfl⟩:=h
 rfl
structure zkl(k:KeyL):Prop where
 n:k.name.length≤1000000000
 a:(Lit.int .i64 k.a).wf=true
 b:(Lit.int .i64 k.b).wf=true
 c:(Lit.int .i64 k.c).wf=true
 d:(Lit.int .i64 k.d).wf=true
theorem zlj:WideMaps.KeyLaw Tryz.prog 250:=deep_law (m:=3) (by decide) (by kernel_rfl) (by kernel_rfl) (by kernel_rfl)
theorem zgM{k:KeyL}(h:zkl k):∃l,keyOf Tryz.prog 250 (keyV k)=some l:=by
 have hs:(⟨k.name.toArray⟩:ByteArray).size≤maxLen:=by
  have:(⟨k.name.toArray⟩:ByteArray).size=k.name.length:=rfl
  rw[this];have:=h.n;simp[maxLen];omega
 have h1:∀n,Tryz.prog.keyLits (n+1) 9 [vs k.name]=some [.string k.name]:=fun n=>by
  show(if (⟨k.name.toArray⟩:ByteArray).size≤maxLen then some [Lit.string (⟨k.name.toArray⟩:ByteArray).data.toList] else Option.none)=_
  rw[if_pos hs]
 have h2:∀n x,(Lit.int .i64 x).wf=true→Tryz.prog.keyLits (n+1) 3 [vi x]=some [.int .i64 x]:=fun n x hx=>by
  show(if IntKind.i64=IntKind.i64∧(Lit.int .i64 x).wf=true then some [Lit.int .i64 x] else Option.none)=_
  rw[if_pos ⟨rfl,hx⟩]
 have h3:∀n,Tryz.prog.keyLits (n+2) 248 [vi k.a,vi k.b,vi k.c,vi k.d]=some [.int .i64 k.a,.int .i64 k.b,.int .i64 k.c,.int .i64 k.d]:=fun n=>by
  have e:Tryz.prog.keyLits (n+2) 248 [vi k.a,vi k.b,vi k.c,vi k.d]=((List.range 4).mapM fun i=>Tryz.prog.keyLits (n+1) 3 (([vi k.a,vi k.b,vi k.c,vi k.d].drop (i*1)).take 1)).map List.flatten:=by kernel_rfl
  rw[e]
  simp only[show List.range 4=[0,1,2,3] from rfl,List.mapM_cons,List.mapM_nil]
  show(((Tryz.prog.keyLits (n+1) 3 [vi k.a]).bind fun x0=>((Tryz.prog.keyLits (n+1) 3 [vi k.b]).bind fun x1=>((Tryz.prog.keyLits (n+1) 3 [vi k.c]).bind fun x2=>((Tryz.prog.keyLits (n+1) 3 [vi k.d]).bind fun x3=>some [x3]).bind fun y=>some (x2::y)).bind fun y=>some (x1::y)).bind fun y=>some (x0::y)):Option (List (List Lit))).map List.flatten=_
  rw[h2 n _ h.a,h2 n _ h.b,h2 n _ h.c,h2 n _ h.d];rfl
 have h4:∀n,Tryz.prog.keyLits (n+1) 4 [.bool k.ref]=some [.bool k.ref]:=fun n=>rfl
 have h5:∀n,Tryz.prog.keyLits (n+3) 250 (keyV k).cells.toList=(((Tryz.prog.keyLits (n+2) 9 [vs k.name]).bind fun x0=>((Tryz.prog.keyLits (n+2) 248 [vi k.a,vi k.b,vi k.c,vi k.d]).bind fun x1=>((Tryz.prog.keyLits (n+2) 4 [.bool k.ref]).bind fun x2=>some [x2]).bind fun y=>some (x1::y)).bind fun y=>some (x0::y)):Option (List (List Lit))).map List.flatten:=fun n=>by
  have e:Tryz.prog.keyLits (n+3) 250 (keyV k).cells.toList=(([(9,0,1),(248,1,4),(4,5,1)]:List (Nat×Nat×Nat)).mapM fun p=>Tryz.prog.keyLits (n+2) p.1 (([vs k.name,vi k.a,vi k.b,vi k.c,vi k.d,.bool k.ref].drop p.2.1).take p.2.2)).map List.flatten:=by kernel_rfl
  rw[e]
  simp only[List.mapM_cons,List.mapM_nil]
  rfl
 have hn:2≤Tryz.prog.types.size:=of_decide_eq_true (by kernel_rfl)
 obtain⟨n,hn⟩:∃n,Tryz.prog.types.size+1=n+3:=⟨Tryz.prog.types.size - 2,by omega⟩
 have h6:keyOf Tryz.prog 250 (keyV k)=(if (Tryz.prog.keyType 250 && (keyV k).formed Tryz.prog 250)=true then(Tryz.prog.keyLits (Tryz.prog.types.size+1) 250 (keyV k).cells.toList).map fun ls=>Lit.string (keyBytes ls) else Option.none):=by kernel_rfl
 rw[h6,if_pos (by kernel_rfl),hn,h5,h1,h3,h4]
 exact⟨_,rfl⟩
def cmpI(a b:Int):Int:=if a<b then -1 else if b<a then 1 else 0
def orI:List Int→Int
 | []=>0
 |a::l=>if a=0 then orI l else a
def lexC{α:Type}(cf:α→α→Int):List α→List α→Int
 | [],[]=>0
 | [],_::_=> -1
 |_::_,[]=>1
 |x::l,y::m=>if cf x y=0 then lexC cf l m else cf x y
theorem orI_drop{l:List Int}{i:Nat}(h:i<l.length):orI (l.drop i)=if l[i]=0 then orI (l.drop (i+1)) else l[i]:=by
 rw[List.drop_eq_getElem_cons h];rfl
theorem zcv{α:Type}{cf:α→α→Int}{a b:List α}{i:Nat}(ha:i<a.length)(hb:i<b.length):lexC cf (a.drop i) (b.drop i)=if cf a[i] b[i]=0 then lexC cf (a.drop (i+1)) (b.drop (i+1)) else cf a[i] b[i]:=by
 rw[List.drop_eq_getElem_cons ha,List.drop_eq_getElem_cons hb];rfl
theorem zcF{α:Type}{cf:α→α→Int}:∀{a b:List α},a=[]∨b=[]→lexC cf a b=cmpI a.length b.length
 | [],[],_=>rfl
 | [],_::_,_=>by simp only[lexC,cmpI,List.length_cons,List.length_nil];rw[if_pos (by omega)]
 |_::_,[],_=>by simp only[lexC,cmpI,List.length_cons,List.length_nil];rw[if_neg (by omega),if_pos (by omega)]
 |_::_,_::_,h=>by simp at h
end Go.Proofs.YtahbdamijngmmaaGreat
namespace Go.Proofs.YtahbdamijngmmaaGreat.N_int
open Go Go.Proofs.YtahbdamijngmmaaGreat
set_option maxRecDepth 10000
theorem zd9(w:World)(a:Int):Fn Tryz.prog 226 #[.int .i64 a] w (fun v w'=>v= .bool false∧w'=w):=by
 refine enter Tryz.func226 Tryz.ntmps226 rfl rfl ?_
 repeat (first|refine c_r ?_| (refine zcS (by rfl) ?_;intro gd K hgd hK;simp (disch:=first|omega|assumption|rfl) only[go_sem,decide_true];refine hK _ _ ?_;clear hK hgd;clear K gd))
 refine rt0 Tryz.ntmps226 ?_
 exact⟨rfl,rfl⟩
theorem Compare_ok(w:World)(a b:Int):Fn Tryz.prog 177 #[.int .i64 a,.int .i64 b] w (fun v w'=>v=vi (cmpI a b)∧w'=w):=by
 refine enter Tryz.func177 Tryz.ntmps177 rfl rfl ?_
 repeat refine c_r ?_
 refine rg0 ?_
 repeat refine c_r ?_
 refine rq ?_;intro gd K hgd hK
 try simp only[go_sem]
 refine Fn.mono (zd9 _ _) ?_
 rintro _ _ ⟨rfl,rfl⟩
 try simp only[go_sem]
 refine hK _ _ ?_;clear hK hgd;clear K;try clear gd
 repeat refine c_r ?_
 refine rq ?_;intro gd K hgd hK
 try simp only[go_sem]
 refine Fn.mono (zd9 _ _) ?_
 rintro _ _ ⟨rfl,rfl⟩
 try simp only[go_sem]
 refine hK _ _ ?_;clear hK hgd;clear K;try clear gd
 repeat refine c_r ?_
 refine rg0 ?_
 repeat refine c_r ?_
 refine wc0 ?_ ?_
 ·intro h;cases h
 intro _
 repeat refine c_r ?_
 refine rg0 ?_
 repeat refine c_r ?_
 refine wc0 ?_ ?_
 ·intro h;cases h
 intro _
 repeat refine c_r ?_
 refine rg0 ?_
 repeat refine c_r ?_
 refine wc0 ?_ ?_
 ·intro h
  simp only[decide_eq_true_eq]at h
  repeat (first|refine c_r ?_|refine rg0 ?_)
  refine rt0 Tryz.ntmps177 ?_
  exact⟨by rw[cmpI,if_pos h],rfl⟩
 intro h
 simp only[decide_eq_false_iff_not]at h
 repeat (first|refine c_r ?_|refine rg0 ?_)
 refine wc0 ?_ ?_
 ·intro h2
  simp only[decide_eq_true_eq]at h2
  repeat (first|refine c_r ?_|refine rg0 ?_)
  refine rt0 Tryz.ntmps177 ?_
  exact⟨by rw[cmpI,if_neg h,if_pos h2],rfl⟩
 intro h2
 simp only[decide_eq_false_iff_not]at h2
 repeat (first|refine c_r ?_|refine rg0 ?_)
 refine rt0 Tryz.ntmps177 ?_
 exact⟨by rw[cmpI,if_neg h,if_neg h2],rfl⟩
end Go.Proofs.YtahbdamijngmmaaGreat.N_int
namespace Go.Proofs.YtahbdamijngmmaaGreat
open Go
set_option maxRecDepth 10000
theorem zfH:∀a b:Lab,zc7 a b=decide (cmpL a b<0)
 | [],[]=>rfl
 | [],_::_=>rfl
 |_::_,[]=>rfl
 |a::l,b::m=>by
  show(decide (a<b)|| (a==b && zc7 l m))=decide ((if a<b then(-1:Int) else if b<a then 1 else cmpL l m)<0)
  by_cases h1:a<b
  ·simp[h1]
  ·by_cases h2:b<a
   ·have:¬a=b:=by rintro rfl;exact h1 h2
    simp[h1,h2,this]
   ·have:a=b:=by apply UInt8.toNat_inj.1;rw[zb9]at*;omega
    subst this
    simp[h1,zfH l m]
theorem zgl:∀a b:Lab,cmpL a b= -1∨cmpL a b=0∨cmpL a b=1
 | [],[]=> .inr (.inl rfl)
 | [],_::_=> .inl rfl
 |_::_,[]=> .inr (.inr rfl)
 |a::l,b::m=>by
  show(if a<b then(-1:Int) else if b<a then 1 else cmpL l m)= -1∨(if a<b then(-1:Int) else if b<a then 1 else cmpL l m)=0∨(if a<b then(-1:Int) else if b<a then 1 else cmpL l m)=1
  by_cases h1:a<b
  ·simp[h1]
  ·by_cases h2:b<a
   ·simp[h1,h2]
   ·simp only[h1,h2,if_false];exact zgl l m
theorem zcK{a b c:Lab}(h1:cmpL a b<0)(h2:cmpL b c≤0):cmpL a c<0:=by
 have h3:=zdn (Int.le_of_lt h1) h2
 by_cases h:cmpL a c=0
 ·have:=zbX h
  subst this
  have:=zbp a b
  omega
 ·omega
theorem zfO(w:World)(a b:Lab):Fn Tryz.prog 268 #[vs a,vs b] w (fun v w'=>v=vi (cmpL a b)∧Ext w w'):=by
 have hc:=zgl a b
 have h1:=zfH a b
 have h2:cmpL a b=0↔a=b:=⟨zbX,fun h=>by rw[h];exact zfA _⟩
 refine enter Tryz.func268 Tryz.ntmps268 rfl rfl ?_
 repeat (first|refine c_r ?_|refine rg0 ?_)
 refine wc0 ?_ ?_
 ·intro ht
  rw[h1]at ht
  simp only[decide_eq_true_eq]at ht
  repeat (first|refine c_r ?_|refine rg0 ?_)
  refine rt0 Tryz.ntmps268 ?_
  exact⟨by congr 1;omega,Keep.refl _ _⟩
 ·intro hf
  rw[h1]at hf
  simp only[decide_eq_false_iff_not]at hf
  repeat (first|refine c_r ?_|refine rg0 ?_)
  refine wc0 ?_ ?_
  ·intro ht
   rw[h1]at ht
   simp only[Bool.not_eq_true',Bool.or_eq_false_iff,decide_eq_false_iff_not]at ht
   repeat (first|refine c_r ?_|refine rg0 ?_)
   refine rt0 Tryz.ntmps268 ?_
   refine⟨?_,Keep.refl _ _⟩
   have:¬cmpL a b=0:=fun h=>ht.2 (h2.1 h)
   congr 1;omega
  ·intro hf2
   rw[h1]at hf2
   simp only[Bool.not_eq_false',Bool.or_eq_true,decide_eq_true_eq]at hf2
   repeat (first|refine c_r ?_|refine rg0 ?_)
   refine rt0 Tryz.ntmps268 ?_
   refine⟨?_,Keep.refl _ _⟩
   have:cmpL a b=0:=h2.2 (hf2.resolve_left hf)
   rw[this]
theorem zeR(w:World)(a b:Lab)(ha:a.length≤9000000000000000000)(hb:b.length≤9000000000000000000):Fn Tryz.prog 265 #[vs a,vs b] w (fun v w'=>v=vi (cmpL (zaS a) (zaS b))∧Ext w w'):=by
 refine enter Tryz.func265 Tryz.ntmps265 rfl rfl ?_
 repeat (first|refine c_r ?_|refine rg0 ?_)
 refine rq ?_;intro gd K hgd hK
 try simp only[go_sem]
 refine Fn.mono (zbG _ _ ha) ?_
 rintro _ w1 ⟨rfl,hE1⟩
 try simp only[go_sem]
 refine Fn.mono (zbG _ _ hb) ?_
 rintro _ w2 ⟨rfl,hE2⟩
 try simp only[go_sem]
 refine Fn.mono (zfO _ _ _) ?_
 rintro _ w3 ⟨rfl,hE3⟩
 try simp only[go_sem]
 refine hK _ _ ?_;clear hK hgd;clear K;try clear gd
 repeat refine c_r ?_
 refine rt0 Tryz.ntmps265 ?_
 exact⟨rfl,(hE1.trans hE2).trans hE3⟩
def sgn(n:Int):Int:=if n<0 then -1 else if 0<n then 1 else 0
theorem zdu(w:World)(n:Int):Fn Tryz.prog 266 #[vi n] w (fun v w'=>v=vi (sgn n)∧Ext w w'):=by
 refine enter Tryz.func266 Tryz.ntmps266 rfl rfl ?_
 repeat (first|refine c_r ?_|refine rg0 ?_)
 refine wc0 ?_ ?_
 ·intro ht
  simp only[decide_eq_true_eq]at ht
  repeat (first|refine c_r ?_|refine rg0 ?_)
  refine rt0 Tryz.ntmps266 ?_
  exact⟨by rw[sgn,if_pos ht],Keep.refl _ _⟩
 ·intro hf
  simp only[decide_eq_false_iff_not]at hf
  repeat (first|refine c_r ?_|refine rg0 ?_)
  refine wc0 ?_ ?_
  ·intro ht
   simp only[decide_eq_true_eq]at ht
   repeat (first|refine c_r ?_|refine rg0 ?_)
   refine rt0 Tryz.ntmps266 ?_
   exact⟨by rw[sgn,if_neg hf,if_pos ht],Keep.refl _ _⟩
  ·intro hf2
   simp only[decide_eq_false_iff_not]at hf2
   repeat (first|refine c_r ?_|refine rg0 ?_)
   refine rt0 Tryz.ntmps266 ?_
   exact⟨by rw[sgn,if_neg hf,if_neg hf2],Keep.refl _ _⟩
def cmpR:Nm→Nm→Int
 | [],[]=>0
 | [],_::_=> -1
 |_::_,[]=>1
 |a::l,b::m=>if cmpL a b=0 then cmpR l m else cmpL a b
def cmpN(a b:Nm):Int:=cmpR a.reverse b.reverse
theorem zjp:∀a b:Nm,a=[]∨b=[]→cmpR a b=sgn ((a.length:Int) - b.length)
 | [],[],_=>rfl
 | [],_::_,_=>by simp only[cmpR,sgn,List.length_cons,List.length_nil];rw[if_pos (by omega)]
 |_::_,[],_=>by simp only[cmpR,sgn,List.length_cons,List.length_nil];rw[if_neg (by omega),if_pos (by omega)]
 |_::_,_::_,h=>by simp at h
theorem zh6{a b:Nm}{i:Nat}(ha:i<a.length)(hb:i<b.length):cmpR (a.drop i) (b.drop i)=if cmpL a[i] b[i]=0 then cmpR (a.drop (i+1)) (b.drop (i+1)) else cmpL a[i] b[i]:=by
 rw[List.drop_eq_getElem_cons ha,List.drop_eq_getElem_cons hb];rfl
theorem zfP(w:World)(a b:Value)(xs ys:Nm)(ha:Row w a (xs.map vs))(hb:Row w b (ys.map vs))(hx:LB xs)(hy:LB ys)(hxl:xs.length≤9000000000000000000)(hyl:ys.length≤9000000000000000000):
  Fn Tryz.prog 219 #[a,b] w (fun v w'=>v=vi (cmpN (zaj xs) (zaj ys))∧Ext w w'):=by
 obtain⟨a,ca,rfl,hca,hla⟩:=ha
 obtain⟨b,cb,rfl,hcb,hlb⟩:=hb
 simp only[List.length_map]at*
 refine enter Tryz.func219 Tryz.ntmps219 rfl rfl ?_
 repeat (first|refine c_r ?_|refine rg0 ?_)
 refine zam (fun m σ ds v=>ds=[]∧∃i:Nat,i+m=xs.length∧i≤ys.length∧σ 5=vi (i+1)∧σ 0= .slice a xs.length ca∧σ 1= .slice b ys.length cb∧Ext w v∧cmpN (zaj xs) (zaj ys)=cmpR ((zaj xs).reverse.drop i) ((zaj ys).reverse.drop i)) xs.length ?_ ?_
 ·refine⟨rfl,0,by omega,by omega,?_,?_,?_,Keep.refl _ _,by simp[cmpN]⟩<;>simp only[go_sem]<;>rfl
 ·rintro m σ ds v ⟨rfl,i,him,hiy,h5,h0,h1,hE,hinv⟩
  repeat refine c_r ?_
  refine rq ?_;intro gd K hgd hK
  have hg4:∀n σ b,zav gd n σ (some (4,b))=zal (ev n σ (.tmp 11)) b:=(fun n σ b=>by rw[zac,show gd 4=some 11 from(by rw[hgd];rfl)];rfl)
  have hstep:∀(c:Bool),(c=true↔i<xs.length∧i<ys.length)→c=false→cmpR ((zaj xs).reverse.drop i) ((zaj ys).reverse.drop i)=sgn ((xs.length:Int) - ys.length):=fun c hc hf=>by
   have hno:¬(i<xs.length∧i<ys.length):=fun h=>by rw[hc.2 h]at hf;cases hf
   have e1:((zaj xs).reverse.drop i).length=xs.length - i:=by simp[zaG]
   have e2:((zaj ys).reverse.drop i).length=ys.length - i:=by simp[zaG]
   rw[zjp _ _ (by
    rcases Nat.lt_or_ge i xs.length with h|h
    ·exact .inr (List.length_eq_zero_iff.1 (by omega))
    ·exact .inl (List.length_eq_zero_iff.1 (by omega))),e1,e2]
   congr 1;omega
  by_cases hlx:((i:Int)+1≤xs.length)
  ·try simp (disch:=first|omega|assumption|rfl) only[go_sem,h5,h0,h1,decide_eq_true hlx,↓hg4]
   refine hK _ _ ?_;clear hK hgd;clear K;try clear gd
   repeat refine c_r ?_
   refine wc0 ?_ ?_
   ·intro hly
    simp only[decide_eq_true_eq]at hly
    have hsa:a.isSome=true:=zag (hla (xs.length - 1 - i) (by omega))
    have hsb:b.isSome=true:=zag (hlb (ys.length - 1 - i) (by omega))
    repeat refine c_r ?_
    refine zaJ (fun _=>false) [(0,true),(1,true),(2,true),(3,true),(4,true),(5,true),(6,true),(7,true),(8,true),(9,true),(10,true),(11,true),(12,true),(13,true),(14,false),(15,true)] NoS mixed (by kernel_rfl) ?_;intro gd K x hgd hx hxe hK;clear hxe
    have hla':=fun j h=>zaa (hE.trans hx) (hla j h)
    have hlb':=fun j h=>zaa (hE.trans hx) (hlb j h)
    have e1:((xs.length:Int) - (i+1)).toNat=xs.length - 1 - i:=by omega
    have e2:((ys.length:Int) - (i+1)).toNat=ys.length - 1 - i:=by omega
    simp (disch:=first|omega|assumption) only[go_sem,h5,h0,h1,e1,e2,hla',hlb',List.getElem_map]
    refine Fn.mono (zeR _ _ _ (LB.get ‹LB xs› _) (LB.get ‹LB ys› _)) ?_
    rintro _ x1 ⟨rfl,hx1⟩
    refine⟨.inr hx1,?_⟩
    simp (disch:=first|omega|assumption|rfl) only[go_sem]
    refine hK _ _ ?_;clear hK hgd;clear K;try clear gd
    have hst:=zh6 (a:=(zaj xs).reverse) (b:=(zaj ys).reverse) (i:=i) (by simp[zaG];omega) (by simp[zaG];omega)
    have g1:(zaj xs).reverse[i]'(by simp[zaG];omega)=zaS (xs[xs.length - 1 - i]'(by omega)):=by
     rw[List.getElem_reverse];simp[zaj]
    have g2:(zaj ys).reverse[i]'(by simp[zaG];omega)=zaS (ys[ys.length - 1 - i]'(by omega)):=by
     rw[List.getElem_reverse];simp[zaj]
    rw[g1,g2]at hst
    repeat refine c_r ?_
    refine rg0 ?_
    repeat refine c_r ?_
    refine wc0 ?_ ?_
    ·intro hne
     simp only[Bool.not_eq_true',decide_eq_false_iff_not]at hne
     repeat (first|refine c_r ?_|refine rg0 ?_)
     refine rt0 Tryz.ntmps219 ?_
     refine⟨by rw[hinv,hst,if_neg hne],(hE.trans hx).trans hx1⟩
    ·intro heq
     simp only[Bool.not_eq_false',decide_eq_true_eq]at heq
     repeat refine c_r ?_
     refine rq ?_;intro gd K hgd hK
     try simp (disch:=first|omega|assumption|rfl) only[go_sem,h5]
     refine hK _ _ ?_;clear hK hgd;clear K;try clear gd
     repeat refine c_r ?_
     refine⟨m - 1,by omega,rfl,i+1,by omega,by omega,?_,?_,?_,(hE.trans hx).trans hx1,?_⟩
     ·simp only[go_sem];push_cast;rfl
     ·simp only[go_sem,h0]
     ·simp only[go_sem,h1]
     ·rw[hinv,hst,if_pos heq]
   ·intro hge
    simp only[decide_eq_false_iff_not]at hge
    repeat refine c_r ?_
    refine rq ?_;intro gd K hgd hK
    try simp (disch:=first|omega|assumption|rfl) only[go_sem,h0,h1]
    refine Fn.mono (zdu _ _) ?_
    rintro _ w2 ⟨rfl,hE2⟩
    try simp only[go_sem]
    refine hK _ _ ?_;clear hK hgd;clear K;try clear gd
    repeat refine c_r ?_
    refine rt0 Tryz.ntmps219 ?_
    exact⟨by rw[hinv,hstep false (by simp;omega) rfl],hE.trans hE2⟩
  ·try simp (disch:=first|omega|assumption|rfl) only[go_sem,h5,h0,h1,decide_eq_false hlx,↓hg4]
   refine hK _ _ ?_;clear hK hgd;clear K;try clear gd
   repeat refine c_r ?_
   refine wc0 ?_ ?_
   ·intro h;simp at h
   ·intro _
    repeat refine c_r ?_
    refine rq ?_;intro gd K hgd hK
    try simp (disch:=first|omega|assumption|rfl) only[go_sem,h0,h1]
    refine Fn.mono (zdu _ _) ?_
    rintro _ w2 ⟨rfl,hE2⟩
    try simp only[go_sem]
    refine hK _ _ ?_;clear hK hgd;clear K;try clear gd
    repeat refine c_r ?_
    refine rt0 Tryz.ntmps219 ?_
    exact⟨by rw[hinv,hstep false (by simp;omega) rfl],hE.trans hE2⟩
end Go.Proofs.YtahbdamijngmmaaGreat
namespace Go.Proofs
open Go.Shelf
def Tryz.lays106_ren:Go.Shelf.Ren:=⟨fun|106=>225|213=>271|265=>294|n=>n,fun|9=>9|3=>3|n=>n,fun|n=>n⟩
theorem Tryz.lays106:Go.Proofs.Lays.n106 Tryz.prog Tryz.lays106_ren:={
 mixed:=by kernel_rfl
 f106:=Tryz.func225.trans (congrArg some (by kernel_rfl))
 f213:=Tryz.func271.trans (congrArg some (by kernel_rfl))
 f265:=Tryz.func294.trans (congrArg some (by kernel_rfl))
 t3:=Tryz.underlying3
 a3:=Tryz.isAgg3
 z3:=Tryz.sizeOf3
 v3:=Tryz.zeroValue3
 t9:=Tryz.underlying9
 a9:=Tryz.isAgg9
 z9:=Tryz.sizeOf9
 v9:=Tryz.zeroValue9}
end Go.Proofs
namespace Go.Proofs.YtahbdamijngmmaaGreat
open Go
set_option maxRecDepth 10000
theorem Fn.of_calls{P:Program}{f:FuncId}{args:Array Value}{w:World}{R:Value→World→Prop}(h:Calls P f args w (fun e w'=>∃v,e= .returned v∧R v w')):Fn P f args w R:=callsIn_wide.2 h
theorem Fn.calls{P:Program}{f:FuncId}{args:Array Value}{w:World}{R:Value→World→Prop}(h:Fn P f args w R):Calls P f args w (fun e w'=>∃v,e= .returned v∧R v w'):=callsIn_wide.1 h
theorem zfN(w:World)(a b:Lab):Fn Tryz.prog 225 #[vs a,vs b] w (fun v w'=>v=vi (cmpL a b)∧w'=w):=
 Fn.of_calls (Calls.mono (Any.strings_Compare Tryz.lays106 ⟨a.toArray⟩ ⟨b.toArray⟩ w) fun _ _ ⟨he,hw⟩=>⟨_,he,rfl,hw⟩)
theorem zfU(w:World)(a b:Lab)(ha:a.length≤9000000000000000000)(hb:b.length≤9000000000000000000):Fn Tryz.prog 176 #[vs a,vs b] w (fun v w'=>v=vi (cmpL (zaS a) (zaS b))∧Ext w w'):=by
 refine enter Tryz.func176 Tryz.ntmps176 rfl rfl ?_
 repeat (first|refine c_r ?_|refine rg0 ?_)
 refine rq ?_;intro gd K hgd hK
 try simp only[go_sem]
 refine Fn.mono (zeg _ _ ha) ?_
 rintro _ w1 ⟨rfl,hE1⟩
 try simp only[go_sem]
 refine Fn.mono (zeg _ _ hb) ?_
 rintro _ w2 ⟨rfl,hE2⟩
 try simp only[go_sem]
 refine Fn.mono (zfN _ _ _) ?_
 rintro _ w3 ⟨rfl,rfl⟩
 try simp only[go_sem]
 refine hK _ _ ?_;clear hK hgd;clear K;try clear gd
 repeat refine c_r ?_
 refine rt0 Tryz.ntmps176 ?_
 exact⟨rfl,hE1.trans hE2⟩
theorem zdU{P:Program}{e:TypeId}{ad:Option Addr}{n c:Nat}{k k':IntKind}(h:n≤c)(hi:(P.info? e).isSome=true):
  slD P (some (.slice e)) (.slice ad n c) Option.none (some (.int k n)) (some (.int k' n))=some (.slice ad n n):=by
 have e1:slB Option.none=some 0:=rfl
 have e2:∀(k:IntKind) (d:Nat),slH (some (.int k (n:Int))) d=some n:=fun k d=>by simp[slH]
 simp only[slD,e1,e2]
 simp[h,hi,zaA]
--?? slices.Clip[[]string,string]
theorem ziz(l:List Lab):∀q∈l.map vs,one q=true:=fun q hq=>by
 obtain⟨s,_,rfl⟩:=List.mem_map.1 hq
 rfl
theorem RFold_ok(w:World)(a:Value)(xs:Nm)(ha:Row w a (xs.map vs))(hx:LB xs)(hxl:xs.length≤100000000000):
  Fn Tryz.prog 83 #[a] w (fun v w'=>Own w.heap.size w' 9 v ((zaj xs).map vs)∧Ext w w'):=by
 obtain⟨a,ca,rfl,hca,hla⟩:=ha
 simp only[List.length_map]at*
 refine enter Tryz.func83 Tryz.ntmps83 rfl rfl ?_
 repeat (first|refine c_r ?_|refine rg0 ?_)
 refine zam (fun m σ ds A=>ds=[]∧∃i:Nat,∃v,i+m=xs.length∧σ 4=vi i∧σ 0= .slice a xs.length ca∧σ 3=v∧Ext w A∧Own w.heap.size A 9 v ((zaj (xs.take i)).map vs)) xs.length ?_ ?_
 ·refine⟨rfl,0,_,by omega,?_,?_,?_,Keep.refl _ _,Own.nil _ _ _⟩<;>simp only[go_sem]<;>rfl
 ·rintro m σ ds A ⟨rfl,i,v,him,h4,h0,h3,hE,hown⟩
  repeat refine c_r ?_
  refine rg2 h4 h0 ?_
  repeat refine c_r ?_
  refine wc0 ?_ ?_
  ·intro hlt
   simp only[decide_eq_true_eq]at hlt
   have hsa:a.isSome=true:=zag (hla i (by omega))
   have hla':=fun j h=>zaa hE (hla j h)
   repeat refine c_r ?_
   refine rq ?_;intro gd K hgd hK
   try simp (disch:=first|omega|assumption|rfl) only[go_sem,h4,h0,h3,hla',List.getElem_map]
   refine Fn.mono (zbG _ _ (LB.get hx _)) ?_
   rintro _ w1 ⟨rfl,hE1⟩
   try simp only[go_sem]
   refine zed (z:=vs []) rfl rfl rfl rfl rfl ?_
   intro w2 hE2 hs2 ho2
   try simp only[go_sem]
   refine zd0 ((hown.ext hE1).ext hE2) ho2.row rfl rfl rfl rfl rfl rfl ((vq1 h3)) (vr0) (ziz [_]) (by simp[zaj];omega) (by decide) (by have:=hE.size;have:=hE1.size;omega) ?_
   intro v' w3 ho3 hE3 _ _
   try simp only[go_sem]
   refine hK _ _ ?_;clear hK hgd;clear K;try clear gd
   repeat refine c_r ?_
   refine rg1 h4 ?_
   repeat refine c_r ?_
   refine⟨m - 1,by omega,rfl,i+1,_,by omega,by simp only[go_sem];push_cast;rfl,(vq1 h0),by simp only[go_sem];rfl,hE3 _ ((hE.trans hE1).trans hE2) (Nat.le_refl _),?_⟩
   rw[zb7 (by omega),List.map_append];exact ho3
  ·intro hge
   simp only[decide_eq_false_iff_not]at hge
   repeat refine c_r ?_
   refine rg1 h3 ?_
   repeat refine c_r ?_
   refine rt0 Tryz.ntmps83 ?_
   rw[List.take_of_length_le (by omega)]at hown
   exact⟨hown,hE⟩
def few(n:Nm):Bool:=decide (n.length≤140) && n.all fun l=>decide (l.length≤100)
theorem few_lb{n:Nm}(h:few n=true):LB n:=fun l hl=>by
 simp only[few,Bool.and_eq_true,List.all_eq_true,decide_eq_true_eq]at h
 have:=h.2 l hl;omega
theorem few_len{n:Nm}(h:few n=true):n.length≤140:=by
 simp only[few,Bool.and_eq_true,decide_eq_true_eq]at h
 exact h.1
theorem zii(w:World)(a:Value)(xs:Nm)(ha:Row w a (xs.map vs)):
  Fn Tryz.prog 48 #[a] w (fun v w'=>v= .bool (few xs)∧Ext w w'):=by
 obtain⟨a,ca,rfl,hca,hla⟩:=ha
 simp only[List.length_map]at*
 refine enter Tryz.func48 Tryz.ntmps48 rfl rfl ?_
 repeat (first|refine c_r ?_|refine rg0 ?_)
 refine wc0 ?_ ?_
 ·intro h
  simp only[decide_eq_true_eq]at h
  repeat (first|refine c_r ?_|refine rg0 ?_)
  refine rt0 Tryz.ntmps48 ?_
  exact⟨by rw[few,decide_eq_false (by omega)];rfl,Keep.refl _ _⟩
 ·intro h
  simp only[decide_eq_false_iff_not]at h
  repeat (first|refine c_r ?_|refine rg0 ?_)
  refine zam (fun m σ ds A=>ds=[]∧∃i:Nat,i+m=xs.length∧σ 3=vi i∧σ 0= .slice a xs.length ca∧Ext w A∧∀l∈xs.take i,l.length≤100) xs.length ?_ ?_
  ·refine⟨rfl,0,by omega,?_,?_,Keep.refl _ _,by simp⟩<;>simp only[go_sem]<;>rfl
  ·rintro m σ ds A ⟨rfl,i,him,h3,h0,hE,hall⟩
   repeat refine c_r ?_
   refine rg2 h3 h0 ?_
   repeat refine c_r ?_
   refine wc0 ?_ ?_
   ·intro hlt
    simp only[decide_eq_true_eq]at hlt
    have hsa:a.isSome=true:=zag (hla i (by omega))
    have hla':=fun j h=>zaa hE (hla j h)
    repeat refine c_r ?_
    refine rq ?_;intro gd K hgd hK;simp (disch:=first|omega|assumption|rfl) only[go_sem,h3,h0,hla',List.getElem_map];refine hK _ _ ?_;clear hK hgd;clear K gd
    repeat refine c_r ?_
    refine wc0 ?_ ?_
    ·intro hb
     simp only[decide_eq_true_eq]at hb
     repeat (first|refine c_r ?_|refine rg0 ?_)
     refine rt0 Tryz.ntmps48 ?_
     refine⟨?_,hE⟩
     have:few xs=false:=by
      rw[←Bool.not_eq_true]
      intro hf
      simp only[few,Bool.and_eq_true,List.all_eq_true,decide_eq_true_eq]at hf
      have:=hf.2 (xs[i]'(by omega)) (List.getElem_mem _)
      omega
     rw[this]
    ·intro hb
     simp only[decide_eq_false_iff_not]at hb
     repeat refine c_r ?_
     refine rg1 h3 ?_
     repeat refine c_r ?_
     refine⟨m - 1,by omega,rfl,i+1,by omega,by simp only[go_sem];push_cast;rfl,(vq1 h0),hE,fun l hl=>?_⟩
     rw[zap (by omega)]at hl
     rcases List.mem_append.1 hl with hl|hl
     ·exact hall l hl
     ·rw[List.mem_singleton.1 hl];omega
   ·intro hge
    simp only[decide_eq_false_iff_not]at hge
    repeat (first|refine c_r ?_|refine rg0 ?_)
    refine rt0 Tryz.ntmps48 ?_
    refine⟨?_,hE⟩
    rw[List.take_of_length_le (by omega)]at hall
    have:few xs=true:=by
     simp only[few,Bool.and_eq_true,List.all_eq_true,decide_eq_true_eq]
     exact⟨by omega,hall⟩
    rw[this]
def NamesAt(w:World)(v:Value)(ns:List Nm):Prop:=∃vals,Row w v vals∧vals.length=ns.length∧∀i (h:i<vals.length) (h':i<ns.length),Row w vals[i] (ns[i].map vs)
theorem zjq:∀a b:Nm,cmpR b a= - cmpR a b
 | [],[]=>rfl
 | [],_::_=>rfl
 |_::_,[]=>rfl
 |a::l,b::m=>by
  simp only[cmpR]
  rw[zbp a b]
  by_cases h:cmpL a b=0
  ·simp[h,zjq l m]
  ·have:¬ -cmpL a b=0:=by omega
   simp[h,this]
theorem zh5:∀{a b:Nm},cmpR a b=0→a=b
 | [],[],_=>rfl
 | [],_::_,h=>by cases h
 |_::_,[],h=>by cases h
 |a::l,b::m,h=>by
  simp only[cmpR]at h
  split at h
  ·rename_i h';rw[zbX h',zh5 h]
  ·rename_i h';exact absurd h h'
theorem zgk:∀{a b c:Nm},cmpR a b<0→cmpR b c<0→cmpR a c<0
 | [],[],_,h,_=>by simp[cmpR]at h
 | [],_::_,[],_,h=>by simp[cmpR]at h
 | [],_::_,_::_,_,_=>by simp[cmpR]
 |_::_,[],_,h,_=>by simp[cmpR]at h
 |_::_,_::_,[],_,h=>by simp[cmpR]at h
 |a::l,b::m,c::n,h1,h2=>by
  simp only[cmpR]at*
  by_cases e1:cmpL a b=0
  ·rw[if_pos e1]at h1
   have:=zbX e1
   subst this
   by_cases e2:cmpL a c=0
   ·rw[if_pos e2]at h2 ⊢;exact zgk h1 h2
   ·rw[if_neg e2]at h2 ⊢;exact h2
  ·rw[if_neg e1]at h1
   have h2':cmpL b c≤0:=by
    by_cases e2:cmpL b c=0
    ·omega
    ·rw[if_neg e2]at h2;omega
   have:=zcK h1 h2'
   rw[if_neg (by omega)];exact this
theorem cmpN_neg(a b:Nm):cmpN b a= - cmpN a b:=zjq _ _
theorem zlO{a b:Nm}(h:cmpN a b=0):a=b:=by
 have:=zh5 h
 simpa using congrArg List.reverse this
theorem zj5{a b c:Nm}(h1:cmpN a b<0)(h2:cmpN b c<0):cmpN a c<0:=zgk h1 h2
theorem NamesAt.ext{w x:World}{v:Value}{L:List Nm}(h:NamesAt w v L)(hE:Ext w x):NamesAt x v L:=by
 obtain⟨vals,h1,h2,h3⟩:=h
 exact⟨vals,h1.ext hE,h2,fun i a b=>(h3 i a b).ext hE⟩
theorem Or_ok(w:World)(a:Value)(l:List Int)(ha:Row w a (l.map vi))(hl:l.length≤1000000000000):Fn Tryz.prog 132 #[a] w (fun v w'=>v=vi (orI l)∧w'=w):=by
 obtain⟨a,ca,rfl,hca,hla⟩:=ha
 simp only[List.length_map]at*
 refine enter Tryz.func132 Tryz.ntmps132 rfl rfl ?_
 repeat (first|refine c_r ?_|refine rg0 ?_)
 refine zam (fun m σ ds v=>ds=[]∧v=w∧∃i:Nat,i+m=l.length∧σ 8=vi i∧σ 7=vi l.length∧σ 6= .slice a l.length ca∧σ 3=vi 0∧orI l=orI (l.drop i)) l.length ?_ ?_
 ·refine⟨rfl,rfl,0,by omega,?_,?_,?_,?_,by simp⟩
  ·simp only[go_sem];rfl
  ·simp only[go_sem]
  ·simp only[go_sem]
  ·simp only[go_sem]
 ·rintro m σ ds v ⟨rfl,hv,i,him,h8,h7,h6,h3,hinv⟩
  rw[hv]
  repeat refine c_r ?_
  refine rg2 h8 h7 ?_
  repeat refine c_r ?_
  refine wc0 ?_ ?_
  ·intro hlt
   simp only[decide_eq_true_eq]at hlt
   have hsa:a.isSome=true:=zag (hla i (by omega))
   have hd:=orI_drop (l:=l) (i:=i) (by omega)
   repeat refine c_r ?_
   refine rq ?_;intro gd K hgd hK;simp (disch:=first|omega|assumption|rfl) only[go_sem,h8,h6,hla,List.getElem_map];refine hK _ _ ?_;clear hK hgd;clear K gd
   repeat refine c_r ?_
   refine rg1 h3 ?_
   repeat refine c_r ?_
   refine wc0 ?_ ?_
   ·intro h
    simp only[Bool.not_eq_true',decide_eq_false_iff_not]at h
    repeat (first|refine c_r ?_|refine rg0 ?_)
    refine rt0 Tryz.ntmps132 ?_
    exact⟨by rw[hinv,hd,if_neg h],rfl⟩
   ·intro h
    simp only[Bool.not_eq_false',decide_eq_true_eq]at h
    repeat refine c_r ?_
    refine rg1 h8 ?_
    repeat refine c_r ?_
    exact⟨m - 1,by omega,rfl,rfl,i+1,by omega,by simp only[go_sem];push_cast;rfl,(vq1 h7),(vq1 h6),(vq1 h3),by rw[hinv,hd,if_pos h]⟩
  ·intro hge
   simp only[decide_eq_false_iff_not]at hge
   repeat (first|refine c_r ?_| (refine zcS (by rfl) ?_;intro gd K hgd hK;simp (disch:=first|omega|assumption|rfl) only[go_sem,h3];refine hK _ _ ?_;clear hK hgd;clear K gd))
   refine rt0 Tryz.ntmps132 ?_
   refine⟨?_,rfl⟩
   rw[hinv,List.drop_of_length_le (by omega)];rfl
theorem zlN(a b:Nm)(h:a=[]∨b=[]):cmpR a b=cmpI a.length b.length:=by
 rw[zjp a b h];unfold sgn cmpI
 by_cases h1:(a.length:Int)<b.length
 ·rw[if_pos (by omega),if_pos h1]
 ·by_cases h2:(b.length:Int)<a.length
  ·rw[if_neg (by omega),if_pos (by omega),if_neg h1,if_pos h2]
  ·rw[if_neg (by omega),if_neg (by omega),if_neg h1,if_neg h2]
theorem zfT(w:World)(a b:Value)(xs ys:Nm)(ha:Row w a (xs.map vs))(hb:Row w b (ys.map vs))(hx:LB xs)(hy:LB ys)(hxl:xs.length≤9000000000000000000)(hyl:ys.length≤9000000000000000000):
  Fn Tryz.prog 133 #[a,b] w (fun v w'=>v=vi (cmpN (zaj xs) (zaj ys))∧Ext w w'):=by
 obtain⟨a,ca,rfl,hca,hla⟩:=ha
 obtain⟨b,cb,rfl,hcb,hlb⟩:=hb
 simp only[List.length_map]at*
 obtain⟨k,hk⟩:∃k,min xs.length ys.length=k:=⟨_,rfl⟩
 have hmin:min (xs.length:Int) (ys.length:Int)=(k:Int):=by omega
 refine enter Tryz.func133 Tryz.ntmps133 rfl rfl ?_
 repeat refine c_r ?_
 refine rg0 ?_
 repeat refine c_r ?_
 refine rq ?_;intro gd K hgd hK
 try simp only[go_sem]
 refine zkX (k:= .i64) (a:=xs.length) (b:=ys.length) (vq0) (vq0) ?_
 rw[hmin]
 try simp only[go_sem]
 refine hK _ _ ?_;clear hK hgd;clear K;try clear gd
 repeat refine c_r ?_
 refine zam (fun m σ ds v=>ds=[]∧∃i:Nat,i+m=k∧σ 12=vi i∧σ 11=vi k∧σ 0= .slice a xs.length ca∧σ 1= .slice b ys.length cb∧Ext w v∧cmpN (zaj xs) (zaj ys)=cmpR ((zaj xs).reverse.drop i) ((zaj ys).reverse.drop i)) k ?_ ?_
 ·refine⟨rfl,0,by omega,?_,?_,?_,?_,Keep.refl _ _,by simp[cmpN]⟩
  ·simp only[go_sem];rfl
  ·simp only[go_sem]
  ·simp only[go_sem]
  ·simp only[go_sem]
 ·rintro m σ ds v ⟨rfl,i,him,h12,h11,h0,h1,hE,hinv⟩
  repeat refine c_r ?_
  refine rq ?_;intro gd K hgd hK;simp (disch:=first|omega|assumption|rfl) only[go_sem,h12,h11];refine hK _ _ ?_;clear hK hgd;clear K gd
  repeat refine c_r ?_
  refine wc0 ?_ ?_
  ·intro hlt
   simp only[decide_eq_true_eq]at hlt
   have hsa:a.isSome=true:=zag (hla (xs.length - 1 - i) (by omega))
   have hsb:b.isSome=true:=zag (hlb (ys.length - 1 - i) (by omega))
   have e1:((xs.length:Int) - 1 - i).toNat=xs.length - 1 - i:=by omega
   have e2:((ys.length:Int) - 1 - i).toNat=ys.length - 1 - i:=by omega
   repeat refine c_r ?_
   refine rg1 h12 ?_
   repeat refine c_r ?_
   refine zaJ (fun _=>false) [(0,true),(1,true),(2,true),(3,true),(4,true),(5,true),(6,true),(7,true),(8,true),(9,true),(10,true),(11,true),(12,true),(13,true),(14,true),(15,true),(16,false),(17,true)] NoS mixed (by kernel_rfl) ?_;intro gd K x hgd hx hxe hK;clear hxe
   have hla':=fun j h=>zaa (hE.trans ‹Keep NoS v x›) (hla j h)
   have hlb':=fun j h=>zaa (hE.trans ‹Keep NoS v x›) (hlb j h)
   simp (disch:=first|omega|assumption|rfl) only[go_sem,h12,h0,h1,e1,e2,hla',hlb',List.getElem_map]
   refine Fn.mono (zfU _ _ _ (LB.get ‹LB xs› _) (LB.get ‹LB ys› _)) ?_
   rintro _ x1 ⟨rfl,hx1⟩
   refine⟨.inr hx1,?_⟩
   simp (disch:=first|omega|assumption|rfl) only[go_sem]
   refine hK _ _ ?_;clear hK hgd;clear K;try clear gd
   have hst:=zh6 (a:=(zaj xs).reverse) (b:=(zaj ys).reverse) (i:=i) (by simp[zaG];omega) (by simp[zaG];omega)
   have g1:(zaj xs).reverse[i]'(by simp[zaG];omega)=zaS (xs[xs.length - 1 - i]'(by omega)):=by
    rw[List.getElem_reverse];simp[zaj]
   have g2:(zaj ys).reverse[i]'(by simp[zaG];omega)=zaS (ys[ys.length - 1 - i]'(by omega)):=by
    rw[List.getElem_reverse];simp[zaj]
   rw[g1,g2]at hst
   repeat refine c_r ?_
   refine rg0 ?_
   repeat refine c_r ?_
   refine wc0 ?_ ?_
   ·intro hne
    simp only[Bool.not_eq_true',decide_eq_false_iff_not]at hne
    repeat (first|refine c_r ?_|refine rg0 ?_)
    refine rt0 Tryz.ntmps133 ?_
    refine⟨by rw[hinv,hst,if_neg hne],(hE.trans ‹Keep NoS v x›).trans hx1⟩
   ·intro heq
    simp only[Bool.not_eq_false',decide_eq_true_eq]at heq
    repeat refine c_r ?_
    refine rg1 h12 ?_
    repeat refine c_r ?_
    exact⟨m - 1,by omega,rfl,i+1,by omega,by simp only[go_sem];push_cast;rfl,by simp only[go_sem,h11],(vq1 h0),(vq1 h1),(hE.trans ‹Keep NoS v x›).trans hx1,by rw[hinv,hst,if_pos heq]⟩
  ·intro hge
   simp only[decide_eq_false_iff_not]at hge
   repeat refine c_r ?_
   refine rq ?_;intro gd K hgd hK
   try simp (disch:=first|omega|assumption|rfl) only[go_sem,h0,h1]
   refine Fn.mono (N_int.Compare_ok _ _ _) ?_
   rintro _ w2 ⟨rfl,rfl⟩
   try simp only[go_sem]
   refine hK _ _ ?_;clear hK hgd;clear K;try clear gd
   repeat refine c_r ?_
   refine rt0 Tryz.ntmps133 ?_
   refine⟨?_,hE⟩
   have l1:((zaj xs).reverse.drop i).length=xs.length - i:=by simp[zaG]
   have l2:((zaj ys).reverse.drop i).length=ys.length - i:=by simp[zaG]
   rw[hinv,zlN _ _ (by
    rcases Nat.lt_or_ge i xs.length with h|h
    ·exact .inr (List.length_eq_zero_iff.1 (by omega))
    ·exact .inl (List.length_eq_zero_iff.1 (by omega))),l1,l2]
   unfold cmpI
   by_cases h1':(xs.length:Int)<ys.length
   ·rw[if_pos h1',if_pos (by omega)]
   ·by_cases h2':(ys.length:Int)<xs.length
    ·rw[if_neg h1',if_pos h2',if_neg (by omega),if_pos (by omega)]
    ·rw[if_neg h1',if_neg h2',if_neg (by omega),if_neg (by omega)]
end Go.Proofs.YtahbdamijngmmaaGreat
namespace Go.Proofs.YtahbdamijngmmaaGreat.C_cn
open Go Go.Proofs.YtahbdamijngmmaaGreat
set_option maxRecDepth 10000
def RowR{α:Type}(Rl:World→α→Value→Prop)(w:World)(v:Value)(xs:List α):Prop:=∃us,Row w v us∧us.length=xs.length∧∀i (h:i<us.length) (h':i<xs.length),Rl w xs[i] us[i]
theorem CompareFunc_ok{α:Type}{Rl:World→α→Value→Prop}(hR:∀w x a v,Ext w x→Rl w a v→Rl x a v){cf:α→α→Int}{U:α→Prop}{g:FuncId}(hcal:zan Tryz.prog g=true){w:World}
  (hcall:∀A x y u v,Ext w A→U x→U y→Rl A x u→Rl A y v→Fn Tryz.prog g #[u,v] A (fun r B=>r=vi (cf x y)∧Ext A B)) {a b:Value} {xs ys:List α} (ha:RowR Rl w a xs) (hb:RowR Rl w b ys) (hUx:∀x∈xs,U x) (hUy:∀y∈ys,U y) (hxl:xs.length≤1000000000000000) (hyl:ys.length≤1000000000000000):
  Fn Tryz.prog 301 #[a,b,.func (.func g) #[] #[]] w (fun v w'=>v=vi (lexC cf xs ys)∧Ext w w'):=by
 obtain⟨us,⟨a,ca,rfl,hca,hla⟩,hul,hu⟩:=ha
 obtain⟨vs',⟨b,cb,rfl,hcb,hlb⟩,hvl,hv⟩:=hb
 refine enter Tryz.func301 Tryz.ntmps301 rfl rfl ?_
 repeat refine c_r ?_
 refine rg0 ?_
 repeat refine c_r ?_
 refine rg0 ?_
 repeat refine c_r ?_
 refine zam (fun m σ ds v=>ds=[]∧∃i:Nat,i+m=us.length∧i≤vs'.length∧σ 13=vi i∧σ 12=vi us.length∧σ 11= .slice a us.length ca∧σ 0= .slice a us.length ca∧σ 1= .slice b vs'.length cb∧σ 2= .func (.func g) #[] #[]∧Ext w v∧lexC cf xs ys=lexC cf (xs.drop i) (ys.drop i)) us.length ?_ ?_
 ·refine⟨rfl,0,by omega,by omega,?_,?_,?_,?_,?_,?_,Keep.refl _ _,by simp⟩
  ·simp only[go_sem];rfl
  ·simp only[go_sem]
  ·simp only[go_sem]
  ·simp only[go_sem]
  ·simp only[go_sem]
  ·simp only[go_sem]
 ·rintro m σ ds v ⟨rfl,i,him,hiv,h13,h12,h11,h0,h1,h2,hE,hinv⟩
  repeat refine c_r ?_
  refine rg2 h13 h12 ?_
  repeat refine c_r ?_
  refine wc0 ?_ ?_
  ·intro hlt
   simp only[decide_eq_true_eq]at hlt
   have hsa:a.isSome=true:=zag (hla i (by omega))
   have hla':=fun j h=>zaa hE (hla j h)
   have hlb':=fun j h=>zaa hE (hlb j h)
   repeat refine c_r ?_
   refine rq ?_;intro gd K hgd hK;simp (disch:=first|omega|assumption|rfl) only[go_sem,h13,h11,hla'];refine hK _ _ ?_;clear hK hgd;clear K gd
   repeat refine c_r ?_
   refine rg1 h1 ?_
   repeat refine c_r ?_
   refine wc0 ?_ ?_
   ·intro hge
    simp only[decide_eq_true_eq]at hge
    repeat (first|refine c_r ?_|refine rg0 ?_)
    refine rt0 Tryz.ntmps301 ?_
    refine⟨?_,hE⟩
    have e:ys.drop i=[]:=List.drop_of_length_le (by omega)
    rw[hinv,zcF (.inr e),e]
    have l1:(xs.drop i).length=xs.length - i:=by simp
    unfold cmpI
    rw[l1,List.length_nil,if_neg (by omega),if_pos (by omega)]
   ·intro hlt2
    simp only[decide_eq_false_iff_not]at hlt2
    have hsb:b.isSome=true:=zag (hlb i (by omega))
    have hst:=zcv (cf:=cf) (a:=xs) (b:=ys) (i:=i) (by omega) (by omega)
    repeat refine c_r ?_
    refine rg2 h1 hlb' ?_
    repeat refine c_r ?_
    refine rq ?_;intro gd K hgd hK
    try simp (disch:=first|omega|assumption|rfl) only[go_sem,h2]
    refine zbB hcal (Fn.mono (hcall v xs[i] ys[i] _ _ hE (hUx _ (List.getElem_mem _)) (hUy _ (List.getElem_mem _)) (hR _ _ _ _ hE (hu i (by omega) (by omega))) (hR _ _ _ _ hE (hv i (by omega) (by omega)))) ?_)
    rintro _ w1 ⟨rfl,hE1⟩
    try simp only[go_sem]
    refine hK _ _ ?_;clear hK hgd;clear K;try clear gd
    repeat refine c_r ?_
    refine rg0 ?_
    repeat refine c_r ?_
    refine wc0 ?_ ?_
    ·intro hne
     simp only[Bool.not_eq_true',decide_eq_false_iff_not]at hne
     repeat (first|refine c_r ?_|refine rg0 ?_)
     refine rt0 Tryz.ntmps301 ?_
     exact⟨by rw[hinv,hst,if_neg hne],hE.trans hE1⟩
    ·intro heq
     simp only[Bool.not_eq_false',decide_eq_true_eq]at heq
     repeat refine c_r ?_
     refine rg1 h13 ?_
     repeat refine c_r ?_
     exact⟨m - 1,by omega,rfl,i+1,by omega,by omega,by simp only[go_sem];push_cast;rfl,(vq1 h12),by simp only[go_sem,h11],(vq1 h0),(vq1 h1),(vq1 h2),hE.trans hE1,by rw[hinv,hst,if_pos heq]⟩
  ·intro hge
   simp only[decide_eq_false_iff_not]at hge
   have e:xs.drop i=[]:=List.drop_of_length_le (by omega)
   have l2:(ys.drop i).length=ys.length - i:=by simp
   have hval:lexC cf xs ys=cmpI 0 (ys.length - i:Nat):=by rw[hinv,zcF (.inl e),e,l2];rfl
   repeat refine c_r ?_
   refine rg2 h0 h1 ?_
   repeat refine c_r ?_
   refine wc0 ?_ ?_
   ·intro h
    simp only[decide_eq_true_eq]at h
    repeat (first|refine c_r ?_|refine rg0 ?_)
    refine rt0 Tryz.ntmps301 ?_
    exact⟨by rw[hval,cmpI,if_pos (by omega)],hE⟩
   ·intro h
    simp only[decide_eq_false_iff_not]at h
    repeat (first|refine c_r ?_|refine rg0 ?_)
    refine rt0 Tryz.ntmps301 ?_
    exact⟨by rw[hval,cmpI,if_neg (by omega),if_neg (by omega)],hE⟩
end Go.Proofs.YtahbdamijngmmaaGreat.C_cn
namespace Go.Proofs.YtahbdamijngmmaaGreat.C_cu
open Go Go.Proofs.YtahbdamijngmmaaGreat
set_option maxRecDepth 10000
def RowR{α:Type}(Rl:World→α→Value→Prop)(w:World)(v:Value)(xs:List α):Prop:=∃us,Row w v us∧us.length=xs.length∧∀i (h:i<us.length) (h':i<xs.length),Rl w xs[i] us[i]
theorem CompareFunc_ok{α:Type}{Rl:World→α→Value→Prop}(hR:∀w x a v,Ext w x→Rl w a v→Rl x a v){cf:α→α→Int}{U:α→Prop}{g:FuncId}(hcal:zan Tryz.prog g=true){w:World}
  (hcall:∀A x y u v,Ext w A→U x→U y→Rl A x u→Rl A y v→Fn Tryz.prog g #[u,v] A (fun r B=>r=vi (cf x y)∧Ext A B)) {a b:Value} {xs ys:List α} (ha:RowR Rl w a xs) (hb:RowR Rl w b ys) (hUx:∀x∈xs,U x) (hUy:∀y∈ys,U y) (hxl:xs.length≤1000000000000000) (hyl:ys.length≤1000000000000000):
  Fn Tryz.prog 302 #[a,b,.func (.func g) #[] #[]] w (fun v w'=>v=vi (lexC cf xs ys)∧Ext w w'):=by
 obtain⟨us,⟨a,ca,rfl,hca,hla⟩,hul,hu⟩:=ha
 obtain⟨vs',⟨b,cb,rfl,hcb,hlb⟩,hvl,hv⟩:=hb
 refine enter Tryz.func302 Tryz.ntmps302 rfl rfl ?_
 repeat refine c_r ?_
 refine rg0 ?_
 repeat refine c_r ?_
 refine rg0 ?_
 repeat refine c_r ?_
 refine zam (fun m σ ds v=>ds=[]∧∃i:Nat,i+m=us.length∧i≤vs'.length∧σ 13=vi i∧σ 12=vi us.length∧σ 11= .slice a us.length ca∧σ 0= .slice a us.length ca∧σ 1= .slice b vs'.length cb∧σ 2= .func (.func g) #[] #[]∧Ext w v∧lexC cf xs ys=lexC cf (xs.drop i) (ys.drop i)) us.length ?_ ?_
 ·refine⟨rfl,0,by omega,by omega,?_,?_,?_,?_,?_,?_,Keep.refl _ _,by simp⟩
  ·simp only[go_sem];rfl
  ·simp only[go_sem]
  ·simp only[go_sem]
  ·simp only[go_sem]
  ·simp only[go_sem]
  ·simp only[go_sem]
 ·rintro m σ ds v ⟨rfl,i,him,hiv,h13,h12,h11,h0,h1,h2,hE,hinv⟩
  repeat refine c_r ?_
  refine rg2 h13 h12 ?_
  repeat refine c_r ?_
  refine wc0 ?_ ?_
  ·intro hlt
   simp only[decide_eq_true_eq]at hlt
   have hsa:a.isSome=true:=zag (hla i (by omega))
   have hla':=fun j h=>zaa hE (hla j h)
   have hlb':=fun j h=>zaa hE (hlb j h)
   repeat refine c_r ?_
   refine rq ?_;intro gd K hgd hK;simp (disch:=first|omega|assumption|rfl) only[go_sem,h13,h11,hla'];refine hK _ _ ?_;clear hK hgd;clear K gd
   repeat refine c_r ?_
   refine rg1 h1 ?_
   repeat refine c_r ?_
   refine wc0 ?_ ?_
   ·intro hge
    simp only[decide_eq_true_eq]at hge
    repeat (first|refine c_r ?_|refine rg0 ?_)
    refine rt0 Tryz.ntmps302 ?_
    refine⟨?_,hE⟩
    have e:ys.drop i=[]:=List.drop_of_length_le (by omega)
    rw[hinv,zcF (.inr e),e]
    have l1:(xs.drop i).length=xs.length - i:=by simp
    unfold cmpI
    rw[l1,List.length_nil,if_neg (by omega),if_pos (by omega)]
   ·intro hlt2
    simp only[decide_eq_false_iff_not]at hlt2
    have hsb:b.isSome=true:=zag (hlb i (by omega))
    have hst:=zcv (cf:=cf) (a:=xs) (b:=ys) (i:=i) (by omega) (by omega)
    repeat refine c_r ?_
    refine rg2 h1 hlb' ?_
    repeat refine c_r ?_
    refine rq ?_;intro gd K hgd hK
    try simp (disch:=first|omega|assumption|rfl) only[go_sem,h2]
    refine zbB hcal (Fn.mono (hcall v xs[i] ys[i] _ _ hE (hUx _ (List.getElem_mem _)) (hUy _ (List.getElem_mem _)) (hR _ _ _ _ hE (hu i (by omega) (by omega))) (hR _ _ _ _ hE (hv i (by omega) (by omega)))) ?_)
    rintro _ w1 ⟨rfl,hE1⟩
    try simp only[go_sem]
    refine hK _ _ ?_;clear hK hgd;clear K;try clear gd
    repeat refine c_r ?_
    refine rg0 ?_
    repeat refine c_r ?_
    refine wc0 ?_ ?_
    ·intro hne
     simp only[Bool.not_eq_true',decide_eq_false_iff_not]at hne
     repeat (first|refine c_r ?_|refine rg0 ?_)
     refine rt0 Tryz.ntmps302 ?_
     exact⟨by rw[hinv,hst,if_neg hne],hE.trans hE1⟩
    ·intro heq
     simp only[Bool.not_eq_false',decide_eq_true_eq]at heq
     repeat refine c_r ?_
     refine rg1 h13 ?_
     repeat refine c_r ?_
     exact⟨m - 1,by omega,rfl,i+1,by omega,by omega,by simp only[go_sem];push_cast;rfl,(vq1 h12),by simp only[go_sem,h11],(vq1 h0),(vq1 h1),(vq1 h2),hE.trans hE1,by rw[hinv,hst,if_pos heq]⟩
  ·intro hge
   simp only[decide_eq_false_iff_not]at hge
   have e:xs.drop i=[]:=List.drop_of_length_le (by omega)
   have l2:(ys.drop i).length=ys.length - i:=by simp
   have hval:lexC cf xs ys=cmpI 0 (ys.length - i:Nat):=by rw[hinv,zcF (.inl e),e,l2];rfl
   repeat refine c_r ?_
   refine rg2 h0 h1 ?_
   repeat refine c_r ?_
   refine wc0 ?_ ?_
   ·intro h
    simp only[decide_eq_true_eq]at h
    repeat (first|refine c_r ?_|refine rg0 ?_)
    refine rt0 Tryz.ntmps302 ?_
    exact⟨by rw[hval,cmpI,if_pos (by omega)],hE⟩
   ·intro h
    simp only[decide_eq_false_iff_not]at h
    repeat (first|refine c_r ?_|refine rg0 ?_)
    refine rt0 Tryz.ntmps302 ?_
    exact⟨by rw[hval,cmpI,if_neg (by omega),if_neg (by omega)],hE⟩
end Go.Proofs.YtahbdamijngmmaaGreat.C_cu
