/-
  Texts of a proof, joined: JU, JV, JW, JX, JY, JZ, NA, NB, NC.
  Conditions: none.
-/
import Derived.Test.YtanmnkbccfcagaaGreatDoorQDA06
import Derived.Test.YtanmnkbccfcagaaGreatDoorQDA04
import Derived.Test.YtanmnkbccfcagaaGreatDoorQDA02
import Derived.Test.YtanmnkbccfcagaaGreatDoorQDA03
import Derived.Test.YtanmnkbccfcagaaGreatDoorQDA05
set_option linter.unusedVariables false
set_option linter.unusedSimpArgs false
set_option linter.defProp false
set_option linter.unnecessarySimpa false
set_option maxHeartbeats 8000000
namespace Go.Proofs.YtanmnkbccfcagaaGreatDoor
open Go
set_option maxRecDepth 100000
theorem zeg{B:Nat}{e:TypeId}{w:World}{v:Value}{l:List Value}(h:Own B w e v l):Hz (fun i=>i<B) w (fun X=>Row X v l):=fun X hX=>(h.keep hX fun i hi hs=>by have:=(h.ge hi).1;omega).row
def GD(d:DatL)(B:Nat)(cs:List Value)(w:World):Prop:=Hz (fun i=>i<B) w (fun X=>DatAt X cs d)
theorem GD_keep(d:DatL):∀B cs x y S,GD d B cs x→Keep S x y→(∀i,S i→i<B)→GD d B cs y:=fun B cs x y S h hk hS X hX=>h X ((hk.mono fun i _ hi=>hS i hi).trans hX)
theorem GD_one{d:DatL}{B:Nat}{cs:List Value}{w:World}(h:GD d B cs w):cs.length=5∧∀x∈cs,one x=true:=by
 obtain⟨nm,nu,tx,rw',rfl,⟨vals,h1,_,_⟩,h2,h3,h4⟩:=h.now.ex
 exact⟨rfl,zcz _ _ _ _ _ h1.isOne h2.isOne h3.isOne h4.isOne⟩
theorem PkD{w:World}{t:Int}{wv:Value}{oa:Option Addr}{on oc:Nat}{ws:List (Lab×Bool)}{d:DatL}(ht1:1≤t)(ht2:t≤65535)(hr:Rows 2 WdC w wv ws)
  (hc:∀(b:Nat) (w1:World),Rdr w w1 b ws (.slice oa on oc) 0→Fn Tryz.prog (if zdZ ws=true then 105 else 106) #[.pointer (some ⟨b,0,Option.none⟩),vi t] w1 (fun v w'=>(∃cs:List Value,v= .agg cs.toArray∧GD d w1.heap.size cs w')∧Rdr w w' b [] (.slice oa on oc) 0∧Keep (fun i=>i=b) w1 w')):
  Fn Tryz.prog 38 #[vi t,wv,.slice oa on oc] w (fun v w'=>Ext w w'∧∃cs:List Value,v= .tuple #[.agg cs.toArray,vi 0]∧DatAt w' cs d):=by
 refine Fn.mono (zdI (e:=0) (G:=GD d) ht1 ht2 hr (GD_keep d) (fun b w1 h=>Fn.mono (hc b w1 h) ?_)) ?_
 ·rintro v w' ⟨⟨cs,rfl,hg⟩,h2⟩
  exact⟨⟨cs,rfl,(GD_one hg).1,(GD_one hg).2,hg⟩,h2⟩
 ·rintro v w' ⟨hE,h0,_⟩
  obtain⟨cs,B,rfl,_,hg⟩:=h0 rfl
  exact⟨hE,cs,rfl,hg.now⟩
def dA:DatL:=⟨1,[],[],[],[10,0,0,7]⟩
def dM:DatL:=⟨15,[[[120],[111]]],[5],[],[]⟩
def dU:DatL:=⟨99,[],[],[],[10,255]⟩
def dT:DatL:=⟨16,[],[],[[97,34,98]],[]⟩
theorem splA:SplP [49,48,46,48,46,48,46,55] [[49,48],[48],[48],[55]]:=⟨by decide+kernel,by decide+kernel⟩
theorem splB:SplP [50,53,54,46,48,46,48,46,49] [[50,53,54],[48],[48],[49]]:=⟨by decide+kernel,by decide+kernel⟩
theorem pk1{w:World}(hW:WX w){wv:Value}(hr:Rows 2 WdC w wv [([49,48,46,48,46,48,46,55],false)]):Fn Tryz.prog 38 #[vi 1,wv,.slice Option.none 0 0] w (fun v w'=>Ext w w'∧∃cs:List Value,v= .tuple #[.agg cs.toArray,vi 0]∧DatAt w' cs dA):=by
 refine PkD (by decide) (by decide) hr fun b w1 h=>?_
 rw[if_neg (by decide)]
 have he:zfO (if ([[49,48],[48],[48],[55]]:List Lab).length=4 then(if (false:Bool)=true then zaQ 0 2 else 0) else zaQ (if (false:Bool)=true then zaQ 0 2 else 0) 2) [[49,48],[48],[48],[55]]=0:=by decide+kernel
 refine Fn.mono (zgs hW h (by decide) splA (by decide) (by decide)) ?_
 rintro _ w' ⟨⟨rv,rfl,ho⟩,hR,hk⟩
 rw[he]at hR
 rw[show ([[49,48],[48],[48],[55]]:List Lab).map octP=([10,0,0,7]:List UInt8).map zal from by kernel_rfl]at ho
 exact⟨⟨_,rfl,fun X hX=>⟨_,_,_,_,rfl,zbW X,zb8 X,zb8 X,zeg ho X hX⟩⟩,hR,hk⟩
theorem pk2{w:World}(hW:WX w){wv:Value}{oa:Addr}{oc:Nat}(ho:Row w (.slice (some oa) 1 oc) (([[111]]:Nm).map vs))(hr:Rows 2 WdC w wv [([53],false),([120],false)]):Fn Tryz.prog 38 #[vi 15,wv,.slice (some oa) 1 oc] w (fun v w'=>Ext w w'∧∃cs:List Value,v= .tuple #[.agg cs.toArray,vi 0]∧DatAt w' cs dM):=by
 refine PkD (by decide) (by decide) hr fun b w1 h=>?_
 rw[if_neg (by decide)]
 refine Fn.mono (own15_ok (e1:=0) (e2:=0) hW h (by decide) (by decide) ho ⟨by decide,by decide⟩ (by decide+kernel) (by decide+kernel)) ?_
 rintro _ w' ⟨⟨nmv,nuv,nv,rfl,h1,h2,h3,h4⟩,hR,hk⟩
 rw[show (zcA [120] [[111]]).1=[[120],[111]] from by decide+kernel]at h3
 rw[show v32 ((decP 65535 [53]).1:Int)=v32 5 from by kernel_rfl]at h1
 refine⟨⟨_,rfl,fun X hX=>⟨_,_,_,_,rfl,zgA (zeg h2 X hX) ?_,zeg h1 X hX,zb8 X,zb8 X⟩⟩,hR,hk⟩
 exact h3.blocks fun a n c hv=>hX.block _ (h4 a n c hv).2 (by have:=(h4 a n c hv).1;omega)
theorem pk3{w:World}(hW:WX w){wv:Value}(hr:Rows 2 WdC w wv [([92,35],false),([50],false),([48,65],false),([102,102],false)]):Fn Tryz.prog 38 #[vi 99,wv,.slice Option.none 0 0] w (fun v w'=>Ext w w'∧∃cs:List Value,v= .tuple #[.agg cs.toArray,vi 0]∧DatAt w' cs dU):=by
 refine PkD (by decide) (by decide) hr fun b w1 h=>?_
 rw[if_pos (by decide)]
 have hp:Pairs (catW [([48,65],false),([102,102],false)]) [10,255]:=by
  refine⟨rfl,fun i h1 h2 h3=>?_⟩
  have:i=0∨i=1:=by
   have h2:i<2:=h1
   omega
  rcases this with rfl|rfl
  ·exact⟨0,10,rfl,rfl,rfl⟩
  ·exact⟨15,15,rfl,rfl,rfl⟩
 refine Fn.mono (any_ok (n:=2) hW h 99 (by decide) (by decide) (by decide) (by decide+kernel) (by decide) (by decide) (by decide) (by decide+kernel) (by decide) hp) ?_
 rintro _ w' ⟨⟨rv,rfl,ho⟩,hR,hk⟩
 rw[show zbz (rawD 99 [10,255])=0 from by decide+kernel]at hR
 exact⟨⟨_,rfl,fun X hX=>⟨_,_,_,_,rfl,zbW X,zb8 X,zb8 X,zeg ho X hX⟩⟩,hR,hk⟩
theorem pk4{w:World}(hW:WX w){wv:Value}(hr:Rows 2 WdC w wv [([50,53,54,46,48,46,48,46,49],false)]):Fn Tryz.prog 38 #[vi 1,wv,.slice Option.none 0 0] w (fun v w'=>Ext w w'∧v= .tuple #[.agg ([vi 0,.slice Option.none 0 0,.slice Option.none 0 0,.slice Option.none 0 0,.slice Option.none 0 0]:List Value).toArray,vi 7]):=by
 have he:zfO (if ([[50,53,54],[48],[48],[49]]:List Lab).length=4 then(if (false:Bool)=true then zaQ 0 2 else 0) else zaQ (if (false:Bool)=true then zaQ 0 2 else 0) 2) [[50,53,54],[48],[48],[49]]=7:=by decide+kernel
 refine Fn.mono (zdI (e:=7) (G:=fun _ _ _=>True) (by decide) (by decide) hr (fun _ _ _ _ _ _ _ _=>trivial) fun b w1 h=>?_) ?_
 ·rw[if_neg (by decide)]
  refine Fn.mono (zgs hW h (by decide) splB (by decide) (by decide)) ?_
  rintro _ w' ⟨⟨rv,rfl,ho⟩,hR,hk⟩
  rw[he]at hR
  obtain⟨ra,rc',hrv⟩:=ho.slice
  exact⟨⟨_,rfl,rfl,zcz _ _ _ _ _ rfl rfl rfl (by rw[hrv];rfl),trivial⟩,hR,hk⟩
 ·rintro v w' ⟨hE,_,h1⟩
  exact⟨hE,h1 (by decide)⟩
theorem pk5{w:World}{wv:Value}(hr:Rows 2 WdC w wv [([97,92,34,98],true)]):Fn Tryz.prog 38 #[vi 16,wv,.slice Option.none 0 0] w (fun v w'=>Ext w w'∧∃cs:List Value,v= .tuple #[.agg cs.toArray,vi 0]∧DatAt w' cs dT):=by
 refine PkD (by decide) (by decide) hr fun b w1 h=>?_
 rw[if_neg (by decide)]
 refine Fn.mono (own16_ok h (by decide) (by decide) (by decide)) ?_
 rintro _ w' ⟨⟨tv,rfl,ho⟩,hR,hk⟩
 rw[show zfN 0 [([97,92,34,98],true)]=0 from by decide+kernel]at hR
 rw[show ((([([97,92,34,98],true)]:List (Lab×Bool)).map fun x=>untT x.1).map vs)=([[97,34,98]]:List Lab).map vs from by kernel_rfl]at ho
 exact⟨⟨_,rfl,fun X hX=>⟨_,_,_,_,rfl,zbW X,zb8 X,zeg ho X hX,zb8 X⟩⟩,hR,hk⟩
theorem dA_T:DatT dA:=⟨⟨by decide,by decide,by decide,by decide,by decide,by decide,by decide⟩,by decide⟩
theorem dM_T:DatT dM:=⟨⟨by decide,by decide,by decide,by decide,by decide,by decide,by decide⟩,by decide⟩
theorem dU_T:DatT dU:=⟨⟨by decide,by decide,by decide,by decide,by decide,by decide,by decide⟩,by decide⟩
theorem dT_T:DatT dT:=⟨⟨by decide,by decide,by decide,by decide,by decide,by decide,by decide⟩,by decide⟩
theorem dA_ok:zdz dA:=⟨by unfold LB;decide,by decide,by decide,by decide,by decide,by decide⟩
theorem dM_ok:zdz dM:=⟨by unfold LB;decide,by decide,by decide,by decide,by decide,by decide⟩
theorem tA:za6 hexU dA=[49,48,46,48,46,48,46,55]:=by decide+kernel
theorem tM:za6 hexU dM=[53,32,120,46,111,46]:=by decide+kernel
theorem tU:za6 hexU dU=[92,35,32,50,32,48,97,102,102]:=by decide+kernel
theorem tT:za6 hexU dT=[34,97,92,34,98,34]:=by decide+kernel
theorem zbN{w:World}{cs:List Value}{d:DatL}(h:DatAt w cs d):cs.length=5∧∀x∈cs,one x=true:=by
 obtain⟨nm,nu,tx,rw',rfl,⟨vals,h1,_,_⟩,h2,h3,h4⟩:=h.ex
 exact⟨rfl,zcz _ _ _ _ _ h1.isOne h2.isOne h3.isOne h4.isOne⟩
theorem zhh{w0:World}(hW:WX w0)(hY:WY w0):Fn Tryz.prog 28 #[] w0 (fun v w'=>v= .bool true∧Ext w0 w'):=by
 refine enter Tryz.func28 Tryz.ntmps28 rfl rfl ?_
 refine go trivial ?_
 refine rq ?_;intro gd K hgd hK
 try simp only[go_sem]
 refine⟨by kernel_rfl,?_⟩
 rw[show bdV Tryz.prog 141 [(0,vs [49,48,46,48,46,48,46,55])]=some (.agg #[vs [49,48,46,48,46,48,46,55],.bool false]) from by kernel_rfl]
 try simp only[go_sem]
 refine zer (e:=141) (arr:=#[vs [49,48,46,48,46,48,46,55],.bool false]) (by kernel_rfl) ?_
 intro a1 ea1 sa1 ba1
 obtain⟨ca1,hca1⟩:∃c,w0.heap.size=c:=⟨_,rfl⟩
 rw[hca1]at ba1 ⊢
 have rr1:Rows 2 WdC a1 (.slice (some ⟨ca1,0,Option.none⟩) 1 1) ([([49,48,46,48,46,48,46,55],false)]:List (Lab×Bool)):=by
  refine Rows.close (xs:=([([49,48,46,48,46,48,46,55],false)]:List (Lab×Bool))) (by decide) (fun i hi=>?_)
  have hi2:i<1:=hi
  have hi3:i=0:=by omega
  subst hi3
  exact⟨_,by rw[za9];exact zap ba1 (Nat.le_of_ble_eq_true rfl),rfl⟩
 try simp only[go_sem]
 have hF1:Ext w0 a1:=ea1
 refine Fn.mono (pk1 (hW.ext hF1) rr1) ?_
 rintro _ p1 ⟨ep1,cs1,rfl,hd1⟩
 obtain⟨hl1,ho1⟩:=zbN hd1
 try simp only[go_sem]
 refine zbv (P:=Tryz.prog) (l:=cs1) (by rw[hl1];rfl) ho1 (by rw[hl1];rfl) rfl ?_
 intro b1 eb1 sb1 hB1
 obtain⟨cb1,hcb1⟩:∃c,p1.heap.size=c:=⟨_,rfl⟩
 rw[hcb1]at hB1 ⊢
 try simp only[go_sem]
 refine hK _ _ ?_;clear hK hgd;clear K;try clear gd
 have hE1:Ext w0 b1:=(hF1.trans ep1).trans eb1
 have hX1:Ext b1 b1:=Keep.refl _ _
 refine go trivial ?_
 refine rq ?_;intro gd K hgd hK
 try simp only[go_sem]
 refine⟨by kernel_rfl,?_⟩
 rw[show bdV Tryz.prog 141 [(0,vs [53])]=some (.agg #[vs [53],.bool false]) from by kernel_rfl]
 try simp only[go_sem]
 refine⟨by kernel_rfl,?_⟩
 rw[show bdV Tryz.prog 141 [(0,vs [120])]=some (.agg #[vs [120],.bool false]) from by kernel_rfl]
 try simp only[go_sem]
 refine zer (e:=141) (arr:=#[vs [53],.bool false,vs [120],.bool false]) (by kernel_rfl) ?_
 intro a2 ea2 sa2 ba2
 obtain⟨ca2,hca2⟩:∃c,b1.heap.size=c:=⟨_,rfl⟩
 rw[hca2]at ba2 ⊢
 have rr2:Rows 2 WdC a2 (.slice (some ⟨ca2,0,Option.none⟩) 2 2) ([([53],false),([120],false)]:List (Lab×Bool)):=by
  refine Rows.close (xs:=([([53],false),([120],false)]:List (Lab×Bool))) (by decide) (fun i hi=>?_)
  have hi2:i<2:=hi
  have hi3:i=0∨i=1:=by omega
  rcases hi3 with rfl|rfl
  all_goals exact⟨_,by rw[za9];exact zap ba2 (Nat.le_of_ble_eq_true rfl),rfl⟩
 try simp only[go_sem]
 refine zd2 (z:=vs []) (l:=[vs [111]]) rfl rfl rfl rfl rfl rfl (fun v hv=>by simp at hv;rcases hv with rfl;rfl) (by simp) ?_
 intro o2 eo2 so2 oo2
 obtain⟨co2,hco2⟩:∃c,a2.heap.size=c:=⟨_,rfl⟩
 rw[hco2]at oo2 ⊢
 have rr2o:=rr2.ext eo2
 try simp only[go_sem]
 have hF2:Ext w0 o2:=(hE1.trans ea2).trans eo2
 refine Fn.mono (pk2 (hW.ext hF2) (oa:=⟨co2,0,Option.none⟩) (oc:=1) oo2.row rr2o) ?_
 rintro _ p2 ⟨ep2,cs2,rfl,hd2⟩
 obtain⟨hl2,ho2⟩:=zbN hd2
 try simp only[go_sem]
 refine zbv (P:=Tryz.prog) (l:=cs2) (by rw[hl2];rfl) ho2 (by rw[hl2];rfl) rfl ?_
 intro b2 eb2 sb2 hB2
 obtain⟨cb2,hcb2⟩:∃c,p2.heap.size=c:=⟨_,rfl⟩
 rw[hcb2]at hB2 ⊢
 try simp only[go_sem]
 refine hK _ _ ?_;clear hK hgd;clear K;try clear gd
 have hE2:Ext w0 b2:=(hF2.trans ep2).trans eb2
 have hX2:Ext b2 b2:=Keep.refl _ _
 refine go trivial ?_
 refine rq ?_;intro gd K hgd hK
 try simp only[go_sem]
 refine⟨by kernel_rfl,?_⟩
 rw[show bdV Tryz.prog 141 [(0,vs [92,35])]=some (.agg #[vs [92,35],.bool false]) from by kernel_rfl]
 try simp only[go_sem]
 refine⟨by kernel_rfl,?_⟩
 rw[show bdV Tryz.prog 141 [(0,vs [50])]=some (.agg #[vs [50],.bool false]) from by kernel_rfl]
 try simp only[go_sem]
 refine⟨by kernel_rfl,?_⟩
 rw[show bdV Tryz.prog 141 [(0,vs [48,65])]=some (.agg #[vs [48,65],.bool false]) from by kernel_rfl]
 try simp only[go_sem]
 refine⟨by kernel_rfl,?_⟩
 rw[show bdV Tryz.prog 141 [(0,vs [102,102])]=some (.agg #[vs [102,102],.bool false]) from by kernel_rfl]
 try simp only[go_sem]
 refine zer (e:=141) (arr:=#[vs [92,35],.bool false,vs [50],.bool false,vs [48,65],.bool false,vs [102,102],.bool false]) (by kernel_rfl) ?_
 intro a3 ea3 sa3 ba3
 obtain⟨ca3,hca3⟩:∃c,b2.heap.size=c:=⟨_,rfl⟩
 rw[hca3]at ba3 ⊢
 have rr3:Rows 2 WdC a3 (.slice (some ⟨ca3,0,Option.none⟩) 4 4) ([([92,35],false),([50],false),([48,65],false),([102,102],false)]:List (Lab×Bool)):=by
  refine Rows.close (xs:=([([92,35],false),([50],false),([48,65],false),([102,102],false)]:List (Lab×Bool))) (by decide) (fun i hi=>?_)
  have hi2:i<4:=hi
  have hi3:i=0∨i=1∨i=2∨i=3:=by omega
  rcases hi3 with rfl|rfl|rfl|rfl
  all_goals exact⟨_,by rw[za9];exact zap ba3 (Nat.le_of_ble_eq_true rfl),rfl⟩
 try simp only[go_sem]
 have hF3:Ext w0 a3:=hE2.trans ea3
 refine Fn.mono (pk3 (hW.ext hF3) rr3) ?_
 rintro _ p3 ⟨ep3,cs3,rfl,hd3⟩
 obtain⟨hl3,ho3⟩:=zbN hd3
 try simp only[go_sem]
 refine zbv (P:=Tryz.prog) (l:=cs3) (by rw[hl3];rfl) ho3 (by rw[hl3];rfl) rfl ?_
 intro b3 eb3 sb3 hB3
 obtain⟨cb3,hcb3⟩:∃c,p3.heap.size=c:=⟨_,rfl⟩
 rw[hcb3]at hB3 ⊢
 try simp only[go_sem]
 refine hK _ _ ?_;clear hK hgd;clear K;try clear gd
 have hE3:Ext w0 b3:=(hF3.trans ep3).trans eb3
 have hX3:Ext b3 b3:=Keep.refl _ _
 refine go trivial ?_
 refine rq ?_;intro gd K hgd hK
 try simp only[go_sem]
 refine⟨by kernel_rfl,?_⟩
 rw[show bdV Tryz.prog 141 [(0,vs [50,53,54,46,48,46,48,46,49])]=some (.agg #[vs [50,53,54,46,48,46,48,46,49],.bool false]) from by kernel_rfl]
 try simp only[go_sem]
 refine zer (e:=141) (arr:=#[vs [50,53,54,46,48,46,48,46,49],.bool false]) (by kernel_rfl) ?_
 intro a4 ea4 sa4 ba4
 obtain⟨ca4,hca4⟩:∃c,b3.heap.size=c:=⟨_,rfl⟩
 rw[hca4]at ba4 ⊢
 have rr4:Rows 2 WdC a4 (.slice (some ⟨ca4,0,Option.none⟩) 1 1) ([([50,53,54,46,48,46,48,46,49],false)]:List (Lab×Bool)):=by
  refine Rows.close (xs:=([([50,53,54,46,48,46,48,46,49],false)]:List (Lab×Bool))) (by decide) (fun i hi=>?_)
  have hi2:i<1:=hi
  have hi3:i=0:=by omega
  subst hi3
  exact⟨_,by rw[za9];exact zap ba4 (Nat.le_of_ble_eq_true rfl),rfl⟩
 try simp only[go_sem]
 have hF4:Ext w0 a4:=hE3.trans ea4
 refine Fn.mono (pk4 (hW.ext hF4) rr4) ?_
 rintro _ p4 ⟨ep4,rfl⟩
 obtain⟨cs4,hcs4⟩:∃l,([vi 0,.slice Option.none 0 0,.slice Option.none 0 0,.slice Option.none 0 0,.slice Option.none 0 0]:List Value)=l:=⟨_,rfl⟩
 rw[hcs4]
 obtain⟨hl4,ho4⟩:cs4.length=5∧∀x∈cs4,one x=true:=by subst hcs4;exact⟨rfl,zcz _ _ _ _ _ rfl rfl rfl rfl⟩
 try simp only[go_sem]
 refine zbv (P:=Tryz.prog) (l:=cs4) (by rw[hl4];rfl) ho4 (by rw[hl4];rfl) rfl ?_
 intro b4 eb4 sb4 hB4
 obtain⟨cb4,hcb4⟩:∃c,p4.heap.size=c:=⟨_,rfl⟩
 rw[hcb4]at hB4 ⊢
 try simp only[go_sem]
 refine hK _ _ ?_;clear hK hgd;clear K;try clear gd
 have hE4:Ext w0 b4:=(hF4.trans ep4).trans eb4
 have hX4:Ext b4 b4:=Keep.refl _ _
 refine go trivial ?_
 refine rq ?_;intro gd K hgd hK
 try simp only[go_sem]
 refine⟨by kernel_rfl,?_⟩
 rw[show bdV Tryz.prog 141 [(0,vs [97,92,34,98]),(1,.bool true)]=some (.agg #[vs [97,92,34,98],.bool true]) from by kernel_rfl]
 try simp only[go_sem]
 refine zer (e:=141) (arr:=#[vs [97,92,34,98],.bool true]) (by kernel_rfl) ?_
 intro a5 ea5 sa5 ba5
 obtain⟨ca5,hca5⟩:∃c,b4.heap.size=c:=⟨_,rfl⟩
 rw[hca5]at ba5 ⊢
 have rr5:Rows 2 WdC a5 (.slice (some ⟨ca5,0,Option.none⟩) 1 1) ([([97,92,34,98],true)]:List (Lab×Bool)):=by
  refine Rows.close (xs:=([([97,92,34,98],true)]:List (Lab×Bool))) (by decide) (fun i hi=>?_)
  have hi2:i<1:=hi
  have hi3:i=0:=by omega
  subst hi3
  exact⟨_,by rw[za9];exact zap ba5 (Nat.le_of_ble_eq_true rfl),rfl⟩
 try simp only[go_sem]
 have hF5:Ext w0 a5:=hE4.trans ea5
 refine Fn.mono (pk5 rr5) ?_
 rintro _ p5 ⟨ep5,cs5,rfl,hd5⟩
 obtain⟨hl5,ho5⟩:=zbN hd5
 try simp only[go_sem]
 refine zbv (P:=Tryz.prog) (l:=cs5) (by rw[hl5];rfl) ho5 (by rw[hl5];rfl) rfl ?_
 intro b5 eb5 sb5 hB5
 obtain⟨cb5,hcb5⟩:∃c,p5.heap.size=c:=⟨_,rfl⟩
 rw[hcb5]at hB5 ⊢
 try simp only[go_sem]
 refine hK _ _ ?_;clear hK hgd;clear K;try clear gd
 have hE5:Ext w0 b5:=(hF5.trans ep5).trans eb5
 have hX5:Ext b5 b5:=Keep.refl _ _
 refine go trivial ?_
 have hZ1:Ext b1 b5:=(((((((((((((hX1).trans ea2).trans eo2).trans ep2).trans eb2).trans ea3).trans ep3).trans eb3).trans ea4).trans ep4).trans eb4).trans ea5).trans ep5).trans eb5
 have hq1:DatAt b5 cs1 dA:=(hd1.ext eb1).ext hZ1
 have pc1:zaB b5 (some ⟨cb1,0,Option.none⟩) 5=some cs1:=zam (n:=5) (Ext.at hZ1 hB1) (by simp[hl1])
 have hZ2:Ext b2 b5:=(((((((((hX2).trans ea3).trans ep3).trans eb3).trans ea4).trans ep4).trans eb4).trans ea5).trans ep5).trans eb5
 have hq2:DatAt b5 cs2 dM:=(hd2.ext eb2).ext hZ2
 have pc2:zaB b5 (some ⟨cb2,0,Option.none⟩) 5=some cs2:=zam (n:=5) (Ext.at hZ2 hB2) (by simp[hl2])
 have hZ3:Ext b3 b5:=((((((hX3).trans ea4).trans ep4).trans eb4).trans ea5).trans ep5).trans eb5
 have hq3:DatAt b5 cs3 dU:=(hd3.ext eb3).ext hZ3
 have pc3:zaB b5 (some ⟨cb3,0,Option.none⟩) 5=some cs3:=zam (n:=5) (Ext.at hZ3 hB3) (by simp[hl3])
 have hZ5:Ext b5 b5:=hX5
 have hq5:DatAt b5 cs5 dT:=(hd5.ext eb5).ext hZ5
 have pc5:zaB b5 (some ⟨cb5,0,Option.none⟩) 5=some cs5:=zam (n:=5) (Ext.at hZ5 hB5) (by simp[hl5])
 obtain⟨nm,nu,tx,rv,hcs1,_,_,_,a4⟩:=hq1.ex
 obtain⟨ar,cr,hrv,_,hgr⟩:=a4
 have g3:=hgr 3 (by decide)
 obtain⟨ax,rfl⟩:=Option.isSome_iff_exists.1 (zaf g3)
 rw[show (dA.raw.map zal).length=4 from rfl]at hrv
 have p4:zad b5 (some ⟨cb1,4,Option.none⟩)=some (.slice (some ax) 4 cr):=by
  have:=zaJ (j:=4) (u:=rv) (Ext.at hZ1 hB1) (by rw[hcs1];rfl)
  rwa [hrv]at this
 have g3':zad b5 (adr (some ax) (Int.toNat 3))=some (zal 7):=g3
 have hW5:=hY.ext hE5
 have z0:decide ((0:Int)=0)=true:=rfl
 have z4:decide (((4:Nat):Int)=4)=true:=rfl
 have i0:(0:Int)≤3:=by decide
 have i3:(3:Int)<((4:Nat):Int):=by decide
 have z7:decide (((7:UInt8).toNat:Int)=7)=true:=rfl
 have z7':decide ((7:Int)=7)=true:=rfl
 have b7:binV Tryz.prog BinOp.eql 5 (zal 7) (Value.int IntKind.u8 7)=some (.bool true):=by kernel_rfl
 refine rq ?_;intro gd K hgd hK
 have hg8:∀n σ b,zaw gd n σ (some (8,b))=zao (ev n σ (.tmp 54)) b:=(fun n σ b=>by rw[zai,show gd 8=some 54 from(by rw[hgd];rfl)];rfl);have hg14:∀n σ b,zaw gd n σ (some (14,b))=zao (ev n σ (.tmp 60)) b:=(fun n σ b=>by rw[zai,show gd 14=some 60 from(by rw[hgd];rfl)];rfl);have hg21:∀n σ b,zaw gd n σ (some (21,b))=zao (ev n σ (.tmp 67)) b:=(fun n σ b=>by rw[zai,show gd 21=some 67 from(by rw[hgd];rfl)];rfl);have hg26:∀n σ b,zaw gd n σ (some (26,b))=zao (ev n σ (.tmp 72)) b:=(fun n σ b=>by rw[zai,show gd 26=some 72 from(by rw[hgd];rfl)];rfl);have hg31:∀n σ b,zaw gd n σ (some (31,b))=zao (ev n σ (.tmp 77)) b:=(fun n σ b=>by rw[zai,show gd 31=some 77 from(by rw[hgd];rfl)];rfl);have hg36:∀n σ b,zaw gd n σ (some (36,b))=zao (ev n σ (.tmp 82)) b:=(fun n σ b=>by rw[zai,show gd 36=some 82 from(by rw[hgd];rfl)];rfl);have hg40:∀n σ b,zaw gd n σ (some (40,b))=zao (ev n σ (.tmp 86)) b:=(fun n σ b=>by rw[zai,show gd 40=some 86 from(by rw[hgd];rfl)];rfl);have hg45:∀n σ b,zaw gd n σ (some (45,b))=zao (ev n σ (.tmp 91)) b:=(fun n σ b=>by rw[zai,show gd 45=some 91 from(by rw[hgd];rfl)];rfl);have hg50:∀n σ b,zaw gd n σ (some (50,b))=zao (ev n σ (.tmp 96)) b:=(fun n σ b=>by rw[zai,show gd 50=some 96 from(by rw[hgd];rfl)];rfl);have hg55:∀n σ b,zaw gd n σ (some (55,b))=zao (ev n σ (.tmp 101)) b:=(fun n σ b=>by rw[zai,show gd 55=some 101 from(by rw[hgd];rfl)];rfl);have hg61:∀n σ b,zaw gd n σ (some (61,b))=zao (ev n σ (.tmp 107)) b:=(fun n σ b=>by rw[zai,show gd 61=some 107 from(by rw[hgd];rfl)];rfl)
 simp only[List.append_eq,List.cons_append,List.nil_append]
 try simp (disch:=first|omega|assumption|rfl) only[go_sem,Int.add_zero,z0,p4,z4,i0,i3,g3',z7,z7',b7,pc1,pc2,pc3,pc5,Nat.zero_add,↓hg8,↓hg14,↓hg21,↓hg26,↓hg31,↓hg36,↓hg40,↓hg45,↓hg50,↓hg55,↓hg61]
 have dd1:decide (([49,48,46,48,46,48,46,55]:Lab)=[49,48,46,48,46,48,46,55])=true:=decide_eq_true rfl
 refine Fn.mono (zbo hW5 hq1 dA_T) ?_
 rintro _ y1 ⟨rfl,f1⟩
 have x1:Ext b5 y1:=f1
 rw[tA]
 have pc1_1:=zaj x1 pc1
 have pc2_1:=zaj x1 pc2
 have pc3_1:=zaj x1 pc3
 have pc5_1:=zaj x1 pc5
 try simp (disch:=first|omega|assumption|rfl) only[go_sem,dd1,z0,z7,z7',Nat.zero_add,pc1_1,pc2_1,pc3_1,pc5_1,↓hg8,↓hg14,↓hg21,↓hg26,↓hg31,↓hg36,↓hg40,↓hg45,↓hg50,↓hg55,↓hg61]
 have dd2:decide (([53,32,120,46,111,46]:Lab)=[53,32,120,46,111,46])=true:=decide_eq_true rfl
 refine Fn.mono (zbo (hW5.ext x1) (hq2.ext x1) dM_T) ?_
 rintro _ y2 ⟨rfl,f2⟩
 have x2:Ext b5 y2:=x1.trans f2
 rw[tM]
 have pc1_2:=zaj x2 pc1
 have pc2_2:=zaj x2 pc2
 have pc3_2:=zaj x2 pc3
 have pc5_2:=zaj x2 pc5
 try simp (disch:=first|omega|assumption|rfl) only[go_sem,dd2,z0,z7,z7',Nat.zero_add,pc1_2,pc2_2,pc3_2,pc5_2,↓hg8,↓hg14,↓hg21,↓hg26,↓hg31,↓hg36,↓hg40,↓hg45,↓hg50,↓hg55,↓hg61]
 have dd3:decide (([92,35,32,50,32,48,97,102,102]:Lab)=[92,35,32,50,32,48,97,102,102])=true:=decide_eq_true rfl
 refine Fn.mono (zbo (hW5.ext x2) (hq3.ext x2) dU_T) ?_
 rintro _ y3 ⟨rfl,f3⟩
 have x3:Ext b5 y3:=x2.trans f3
 rw[tU]
 have pc1_3:=zaj x3 pc1
 have pc2_3:=zaj x3 pc2
 have pc3_3:=zaj x3 pc3
 have pc5_3:=zaj x3 pc5
 try simp (disch:=first|omega|assumption|rfl) only[go_sem,dd3,z0,z7,z7',Nat.zero_add,pc1_3,pc2_3,pc3_3,pc5_3,↓hg8,↓hg14,↓hg21,↓hg26,↓hg31,↓hg36,↓hg40,↓hg45,↓hg50,↓hg55,↓hg61]
 have dd5:decide (([34,97,92,34,98,34]:Lab)=[34,97,92,34,98,34])=true:=decide_eq_true rfl
 refine Fn.mono (zbo (hW5.ext x3) (hq5.ext x3) dT_T) ?_
 rintro _ y4 ⟨rfl,f4⟩
 have x4:Ext b5 y4:=x3.trans f4
 rw[tT]
 have pc1_4:=zaj x4 pc1
 have pc2_4:=zaj x4 pc2
 have pc3_4:=zaj x4 pc3
 have pc5_4:=zaj x4 pc5
 try simp (disch:=first|omega|assumption|rfl) only[go_sem,dd5,z0,z7,z7',Nat.zero_add,pc1_4,pc2_4,pc3_4,pc5_4,↓hg8,↓hg14,↓hg21,↓hg26,↓hg31,↓hg36,↓hg40,↓hg45,↓hg50,↓hg55,↓hg61]
 refine Fn.mono (zdw (hq1.ext x4) dA_T) ?_
 rintro _ y5 ⟨rfl,f5⟩
 have x5:Ext b5 y5:=x4.trans f5
 rw[show zbz dA=0 from by decide+kernel]
 have pc1_5:=zaj x5 pc1
 have pc2_5:=zaj x5 pc2
 have pc3_5:=zaj x5 pc3
 have pc5_5:=zaj x5 pc5
 try simp (disch:=first|omega|assumption|rfl) only[go_sem,z0,z7,z7',Nat.zero_add,pc1_5,pc2_5,pc3_5,pc5_5,↓hg8,↓hg14,↓hg21,↓hg26,↓hg31,↓hg36,↓hg40,↓hg45,↓hg50,↓hg55,↓hg61]
 have e1:decide (cmpD dM dM=0)=true:=by decide+kernel
 have e2:decide (cmpD dA dM=0)=false:=by decide+kernel
 refine Fn.mono (zfs _ _ _ dM dM (hq2.ext x5) (hq2.ext x5) dM_ok dM_ok) ?_
 rintro _ y6 ⟨rfl,f6⟩
 have x6:Ext b5 y6:=x5.trans f6
 rw[e1]
 have pc1_6:=zaj x6 pc1
 have pc2_6:=zaj x6 pc2
 have pc3_6:=zaj x6 pc3
 have pc5_6:=zaj x6 pc5
 try simp (disch:=first|omega|assumption|rfl) only[go_sem,z0,z7,z7',Nat.zero_add,pc1_6,pc2_6,pc3_6,pc5_6,↓hg8,↓hg14,↓hg21,↓hg26,↓hg31,↓hg36,↓hg40,↓hg45,↓hg50,↓hg55,↓hg61]
 refine Fn.mono (zfs _ _ _ dA dM (hq1.ext x6) (hq2.ext x6) dA_ok dM_ok) ?_
 rintro _ y7 ⟨rfl,f7⟩
 have x7:Ext b5 y7:=x6.trans f7
 rw[e2]
 have pc1_7:=zaj x7 pc1
 have pc2_7:=zaj x7 pc2
 have pc3_7:=zaj x7 pc3
 have pc5_7:=zaj x7 pc5
 try simp (disch:=first|omega|assumption|rfl) only[go_sem,Bool.not_false,z0,z7,z7',Nat.zero_add,pc1_7,pc2_7,pc3_7,pc5_7,↓hg8,↓hg14,↓hg21,↓hg26,↓hg31,↓hg36,↓hg40,↓hg45,↓hg50,↓hg55,↓hg61]
 refine Fn.mono (zdv _ _ _ dA dM (hq1.ext x7) (hq2.ext x7) dA_ok dM_ok) ?_
 rintro _ y8 ⟨rfl,f8⟩
 have x8:Ext b5 y8:=x7.trans f8
 rw[show cmpD dA dM= -1 from by decide+kernel]
 have pc1_8:=zaj x8 pc1
 have pc2_8:=zaj x8 pc2
 have pc3_8:=zaj x8 pc3
 have pc5_8:=zaj x8 pc5
 try simp (disch:=first|omega|assumption|rfl) only[go_sem,decide_true,z0,z7,z7',Nat.zero_add,pc1_8,pc2_8,pc3_8,pc5_8,↓hg8,↓hg14,↓hg21,↓hg26,↓hg31,↓hg36,↓hg40,↓hg45,↓hg50,↓hg55,↓hg61]
 refine hK _ _ ?_;clear hK hgd;clear K;try clear gd
 refine go trivial ?_
 refine rt0 Tryz.ntmps28 ?_
 exact⟨rfl,hE5.trans x8⟩
def foldD(d:DatL):DatL:=⟨d.ty,d.names.map zbm,d.nums,d.texts,d.raw⟩
def moreD(d:DatL):DatL:=⟨d.ty,d.names,d.nums,d.texts++ [[120]],d.raw⟩
theorem few_D{d:DatL}(hf:DatF d)(hn:NumsD d):DatT d∧zdz d∧zdz (foldD d)∧zdz (moreD d):=by
 obtain⟨n1,n2,n3⟩:=hn
 obtain⟨f1,f2,f3,f4,f5⟩:=hf.f4
 have h8:=hf.n8
 have hnm:∀n∈d.names,NmT n:=fun n hn=>few_T (f5 n hn)
 have hok:zdz d:=⟨fun n hn=>⟨(hnm n hn).lb,by have:=(hnm n hn).2;omega⟩,by omega,by omega,by omega,n1,by omega⟩
 refine⟨⟨⟨hnm,by omega,by omega,n1,by omega,fun t ht=>by have:=f3 t ht;omega,by omega⟩,by omega⟩,hok,⟨fun n hn=>?_,?_,hok.nu,hok.nt,n1,hok.nr⟩,⟨hok.names,hok.nn,hok.nu,?_,n1,hok.nr⟩⟩
 ·obtain⟨x,hx,rfl⟩:=List.mem_map.1 hn
  have:=fold_T (hnm x hx)
  exact⟨this.lb,by have:=this.2;omega⟩
 ·show(d.names.map zbm).length≤_
  rw[List.length_map];omega
 ·show(d.texts++ [[120]]).length≤_
  rw[List.length_append,List.length_singleton];omega
set_option maxRecDepth 10000
theorem zfD(sep:Lab){ls:List Lab}{i:Nat}(h:i<ls.length):za7 sep (ls.take (i+1))=(if 0<i then za7 sep (ls.take i)++sep else za7 sep (ls.take i))++ls[i]:=by
 cases ls with
 |nil=>simp at h
 |cons x r=>
  cases i with
  |zero=>simp[za7]
  |succ j=>
   rw[if_pos (by omega)]
   have hj:j<r.length:=by simpa using h
   rw[List.take_succ_cons,List.take_succ_cons]
   show x++(r.take (j+1)).flatMap (fun y=>sep++y)=(x++(r.take j).flatMap fun y=>sep++y)++sep++r[j]
   rw[zak hj,List.flatMap_append]
   simp
theorem zgK{sep:Lab}{ls:List Lab}(hs:sep.length≤100)(hl:ls.length≤1000000)(ht:zaq ls≤1000000000000)(i:Nat):(za7 sep (ls.take i)).length≤2000000000000:=by
 have h1:=joinT_le sep (ls.take i)
 have h2:=zbY (xs:=ls) i
 have h3:(ls.take i).length≤1000000:=by rw[List.length_take];omega
 have h4:sep.length*(ls.take i).length≤100*1000000:=Nat.mul_le_mul hs h3
 omega
theorem zb4{w:World}{lv:Value}{ls:List Lab}(hr:Row w lv (ls.map vs)){sep:Lab}(hs:sep.length≤100)(hl:ls.length≤1000000)(ht:zaq ls≤1000000000000):
  Fn Tryz.prog 88 #[lv,vs sep] w (fun v w'=>v=vs (za7 sep ls)∧Ext w w'):=by
 obtain⟨a,c,rfl,hg⟩:=zbt hr
 refine enter Tryz.func88 Tryz.ntmps88 rfl rfl ?_
 refine go trivial ?_
 refine zbh ls.length (fun i σ v=>(σ 0= .slice a ls.length c∧σ 1=vs sep∧σ 5=vs (za7 sep (ls.take i))∧σ 6=vi i)∧Ext w v) ?_ ?_ ?_
 ·exact⟨⟨vr0,vr0,vr0,vr0⟩,Keep.refl _ _⟩
 ·rintro i σ v hi ⟨r1,r2,r3,r4⟩ ⟨⟨s0,s1,s5,s6⟩,hE⟩
  obtain⟨x,rfl,g0⟩:=hg i hi
  have g:=zab hE g0
  obtain⟨t,htt⟩:∃t,ls[i]=t:=⟨_,rfl⟩
  have hjt:=zfD sep hi
  have hm:=zgK hs hl ht i
  have hlt:zaq (ls.take (i+1))=zaq (ls.take i)+t.length:=by rw[zcB hi,htt]
  have hle:=zbY (xs:=ls) (i+1)
  rw[htt]at g hjt
  have a1:(za7 sep (ls.take i)).length+sep.length≤9223372036854775807:=by omega
  have a2:(za7 sep (ls.take i)++sep).length+t.length≤9223372036854775807:=by rw[List.length_append];omega
  have a3:(za7 sep (ls.take i)).length+t.length≤9223372036854775807:=by omega
  by_cases h0:0<i
  ·rw[if_pos h0]at hjt
   have d0:decide ((0:Int)<(i:Int))=true:=decide_eq_true (by omega)
   refine go (an9 s0 s1 s5 s6 d0 r1 (an6 r2 r3 r4 g a1 a2) trivial trivial) ?_
   exact⟨rfl,⟨(vq1 s0),(vq1 s1),by rw[hjt];first| (simp only[go_sem];done)| (simp only[go_sem];rfl),(vq1 r4)⟩,hE⟩
  ·rw[if_neg h0]at hjt
   have d0:decide ((0:Int)<(i:Int))=false:=decide_eq_false (by omega)
   refine go (an9 s0 s1 s5 s6 d0 r1 (an6 r2 r3 r4 g a3 trivial) trivial trivial) ?_
   exact⟨rfl,⟨(vq1 s0),(vq1 s1),by rw[hjt];first| (simp only[go_sem];done)| (simp only[go_sem];rfl),(vq1 r4)⟩,hE⟩
 ·rintro σ v r ⟨⟨s0,s1,s5,s6⟩,hE⟩
  refine go (an5 s0 s1 s5 s6 r) ?_
  refine rt1 s5 Tryz.ntmps88 ?_
  exact⟨by rw[List.take_length],hE⟩
theorem zgo{l:Lab}{i:Nat}(h:i<l.length):34::quoL (l.take (i+1))=(34::quoL (l.take i))++quoB l[i]:=by
 rw[zak h]
 unfold quoL
 rw[List.flatMap_append]
 simp
theorem zf4(w:World)(l:Lab)(hl:l.length≤1000000000):Fn Tryz.prog 90 #[vs l] w (fun v w'=>v=vs (quoT l)∧Ext w w'):=by
 refine enter Tryz.func90 Tryz.ntmps90 rfl rfl ?_
 refine go trivial ?_
 refine zbh l.length (fun i σ v=>(σ 0=vs l∧σ 3=vs (34::quoL (l.take i))∧σ 4=vi i)∧Ext w v) ?_ ?_ ?_
 ·exact⟨⟨vr0,vr0,vr0⟩,Keep.refl _ _⟩
 ·rintro i σ v hi ⟨r1,r2,r3,r4⟩ ⟨⟨s0,s3,s4⟩,hE⟩
  obtain⟨c,hc⟩:∃c,l[i]=c:=⟨_,rfl⟩
  have htk:=zgo hi
  rw[hc]at htk
  have hql:=zbU (l.take i)
  rw[List.length_take]at hql
  have hsl:(l.drop i).take (i+1 - i)=[c]:=by
   rw[List.drop_eq_getElem_cons hi,hc,show i+1 - i=1 from by omega];rfl
  have b0:(0:Int)≤((i+1:Nat):Int):=by omega
  have b1:(i:Int)≤((i+1:Nat):Int):=by omega
  have b2:((i+1:Nat):Int)≤(l.length:Int):=by omega
  have b3:((i+1:Nat):Int).toNat=i+1:=rfl
  have b4:((i:Nat):Int).toNat=i:=rfl
  have hin:(i:Int).toNat<l.length:=by omega
  have hc2:l[(i:Int).toNat]'hin=c:=hc
  have a1:(34::quoL (l.take i)).length+([92]:List UInt8).length≤9223372036854775807:=by simp;omega
  have a2:(34::(quoL (l.take i)++ [92])).length+([c]:List UInt8).length≤9223372036854775807:=by simp;omega
  have a3:(34::quoL (l.take i)).length+([c]:List UInt8).length≤9223372036854775807:=by simp;omega
  have a4:(34::quoL (l.take i)).length+(escB c).length≤9223372036854775807:=by have:(escB c).length=4:=rfl;simp;omega
  have hbc:zal c= .int .u8 (c.toNat:Int):=rfl
  refine go (an9 s0 s3 s4 r1 r2 r3 r4 trivial trivial) ?_
  have fin:∀{A:World} {σ':Sto},Ext v A→σ' 0=vs l→σ' 3=vs ((34::quoL (l.take i))++quoB c)→σ' 4=vi (i+1:Nat)→(σ' 0=vs l∧σ' 3=vs (34::quoL (l.take (i+1)))∧σ' 4=vi (i+1:Nat))∧Ext w A:=fun hA h0 h3 h4=>⟨⟨h0,by rw[htk];exact h3,h4⟩,hE.trans hA⟩
  by_cases h34:c=34
  ·have d1:decide ((c.toNat:Int)=34)=true:=decide_eq_true (by rw[h34];rfl)
   have hq:quoB c=[92]++ [c]:=by unfold quoB;rw[if_neg (by rw[h34];decide),if_pos (.inl h34)];rfl
   have hq3:vs ((34::quoL (l.take i))++quoB c)=vs (34::(quoL (l.take i)++ [92]++ [c])):=by rw[hq];simp
   refine rgg [(4,22)] (an6 s0 s4 (an6 r2 r3 b4 hc2 hc hin) hbc d1 trivial) ?_
   refine go trivial ?_
   refine rq ?_;intro gd K hgd hK
   try simp (disch:=first|omega|assumption|rfl) only[go_sem,s0,s3,s4,r4,Int.toNat_natCast,hsl]
   refine hK _ _ ?_;clear hK hgd;clear K;try clear gd
   repeat refine c_r ?_
   refine go (an4 s0 s4 r4 trivial) ?_
   exact⟨rfl,fin (Keep.refl _ _) ((vq1 s0)) (by rw[hq3];first| (simp only[go_sem];done)| (simp only[go_sem];rfl)) ((vq1 r4))⟩
  by_cases h92:c=92
  ·have d1:decide ((c.toNat:Int)=34)=false:=decide_eq_false (by rw[h92];decide)
   have d2:decide ((c.toNat:Int)=92)=true:=decide_eq_true (by rw[h92];rfl)
   have hq:quoB c=[92]++ [c]:=by unfold quoB;rw[if_neg (by rw[h92];decide),if_pos (.inr h92)];rfl
   have hq3:vs ((34::quoL (l.take i))++quoB c)=vs (34::(quoL (l.take i)++ [92]++ [c])):=by rw[hq];simp
   refine rgg [(4,22)] (an6 s0 s4 (an6 r2 r3 b4 hc2 hc hin) hbc d1 d2) ?_
   refine go trivial ?_
   refine rq ?_;intro gd K hgd hK
   try simp (disch:=first|omega|assumption|rfl) only[go_sem,s0,s3,s4,r4,Int.toNat_natCast,hsl]
   refine hK _ _ ?_;clear hK hgd;clear K;try clear gd
   repeat refine c_r ?_
   refine go (an4 s0 s4 r4 trivial) ?_
   exact⟨rfl,fin (Keep.refl _ _) ((vq1 s0)) (by rw[hq3];first| (simp only[go_sem];done)| (simp only[go_sem];rfl)) ((vq1 r4))⟩
  have e34:¬(c.toNat:Int)=34:=fun h=>h34 (UInt8.toNat_inj.1 (show c.toNat=34 by omega))
  have e92:¬(c.toNat:Int)=92:=fun h=>h92 (UInt8.toNat_inj.1 (show c.toNat=92 by omega))
  refine rgg [(4,22)] (an6 s0 s4 (an6 r2 r3 b4 hc2 hc hin) hbc (decide_eq_false e34) (decide_eq_false e92)) ?_
  refine go trivial ?_
  by_cases h32:32≤c.toNat
  rotate_left
  ·have d1:decide ((32:Int)≤(c.toNat:Int))=false:=decide_eq_false (by omega)
   have hq:quoB c=escB c:=by unfold quoB;rw[if_pos (.inl (by omega))]
   rw[hq]at fin
   refine rgg [(4,41)] (an6 s0 s4 (an6 r2 r3 b4 hc2 hc hin) hbc d1 trivial) ?_
   refine go trivial ?_
   refine rq ?_;intro gd K hgd hK
   try simp (disch:=first|omega|assumption|rfl) only[go_sem,s0,s3,s4,r2,r3,hc,hin,Int.toNat_natCast]
   refine Fn.mono (zce v c) ?_
   rintro _ v1 ⟨rfl,hE1⟩
   try simp (disch:=first|omega|assumption|rfl) only[go_sem,s3]
   refine hK _ _ ?_;clear hK hgd;clear K;try clear gd
   repeat refine c_r ?_
   refine go (an4 s0 s4 r4 trivial) ?_
   exact⟨rfl,fin hE1 ((vq1 s0)) (vr0) ((vq1 r4))⟩
  have d1:decide ((32:Int)≤(c.toNat:Int))=true:=decide_eq_true (by omega)
  by_cases h126:c.toNat≤126
  rotate_left
  ·have d2:decide ((c.toNat:Int)≤126)=false:=decide_eq_false (by omega)
   have hq:quoB c=escB c:=by unfold quoB;rw[if_pos (.inr (by omega))]
   rw[hq]at fin
   refine rgg [(4,41)] (an6 s0 s4 (an6 r2 r3 b4 hc2 hc hin) hbc d1 d2) ?_
   refine go trivial ?_
   refine rq ?_;intro gd K hgd hK
   try simp (disch:=first|omega|assumption|rfl) only[go_sem,s0,s3,s4,r2,r3,hc,hin,Int.toNat_natCast]
   refine Fn.mono (zce v c) ?_
   rintro _ v1 ⟨rfl,hE1⟩
   try simp (disch:=first|omega|assumption|rfl) only[go_sem,s3]
   refine hK _ _ ?_;clear hK hgd;clear K;try clear gd
   repeat refine c_r ?_
   refine go (an4 s0 s4 r4 trivial) ?_
   exact⟨rfl,fin hE1 ((vq1 s0)) (vr0) ((vq1 r4))⟩
  have d2:decide ((c.toNat:Int)≤126)=true:=decide_eq_true (by omega)
  have hq:quoB c=[c]:=by unfold quoB;rw[if_neg (by omega),if_neg (by rintro(h|h);exact h34 h;exact h92 h)]
  rw[hq]at fin
  refine rgg [(4,41)] (an6 s0 s4 (an6 r2 r3 b4 hc2 hc hin) hbc d1 d2) ?_
  refine go trivial ?_
  refine rq ?_;intro gd K hgd hK
  try simp (disch:=first|omega|assumption|rfl) only[go_sem,s0,s3,s4,r4,Int.toNat_natCast,hsl]
  refine hK _ _ ?_;clear hK hgd;clear K;try clear gd
  repeat refine c_r ?_
  refine go (an4 s0 s4 r4 trivial) ?_
  exact⟨rfl,fin (Keep.refl _ _) ((vq1 s0)) (vr0) ((vq1 r4))⟩
 ·rintro σ v r ⟨⟨s0,s3,s4⟩,hE⟩
  have a5:(34::quoL l).length+([34]:List UInt8).length≤9223372036854775807:=by have:=zbU l;simp;omega
  rw[List.take_length]at s3
  refine go (an5 s0 s3 s4 r a5) ?_
  refine rt0 Tryz.ntmps90 ?_
  exact⟨rfl,hE⟩
def hexR(n wd:Nat)(s:Lab):Lab:=if h:0<n∨s.length<wd then hexR (n / 16) wd (hexD (n % 16)::s) else s
termination_by n+(wd - s.length)
decreasing_by
 simp only[List.length_cons]
 rcases h with h|h<;>omega
theorem zbJ{n wd:Nat}{s:Lab}(h:0<n∨s.length<wd):hexR n wd s=hexR (n / 16) wd (hexD (n % 16)::s):=by rw[hexR,dif_pos h]
theorem zcW{n wd:Nat}{s:Lab}(h:¬(0<n∨s.length<wd)):hexR n wd s=s:=by rw[hexR,dif_neg h]
theorem zfi:∀(k n wd:Nat) (s:Lab),n≤k→wd≤s.length→hexR n wd s=if n=0 then s else hexU n++s
 |0,n,wd,s,hk,hw=>by
  have:n=0:=by omega
  rw[if_pos this,zcW (by omega)]
 |k+1,n,wd,s,hk,hw=>by
  by_cases h0:n=0
  ·rw[if_pos h0,zcW (by omega)]
  ·rw[if_neg h0,zbJ (.inl (by omega)),zfi k (n / 16) wd _ (by omega) (by simp;omega)]
   by_cases h1:n<16
   ·rw[if_pos (by omega),zdd h1,Nat.mod_eq_of_lt h1];rfl
   ·rw[if_neg (by omega),zdY h1,List.append_assoc];rfl
theorem hexR_one(n:Nat):hexR n 1 []=hexU n:=by
 rw[zbJ (.inr (by decide)),zfi (n / 16) (n / 16) 1 [hexD (n % 16)] (Nat.le_refl _) (by simp)]
 by_cases h1:n<16
 ·rw[if_pos (by omega),zdd h1,Nat.mod_eq_of_lt h1]
 ·rw[if_neg (by omega),zdY h1]
theorem hexR_two{n:Nat}(h:n<256):hexR n 2 []=[hexD (n / 16),hexD (n % 16)]:=by
 rw[zbJ (.inr (by simp)),zbJ (.inr (by simp)),zcW (by rw[List.length_cons,List.length_cons,List.length_nil];omega),Nat.mod_eq_of_lt (show n / 16<16 by omega)]
theorem zhd(w:World){n wd:Nat}(hn:n≤4000000000)(hw:wd≤1000):Fn Tryz.prog 89 #[vi n,vi wd] w (fun v w'=>v=vs (hexR n wd [])∧Ext w w'):=by
 refine enter Tryz.func89 Tryz.ntmps89 rfl rfl ?_
 refine go trivial ?_
 have e1:∀m:Nat,(m:Int).tmod 16=((m % 16:Nat):Int):=fun m=>by rw[Int.tmod_eq_emod_of_nonneg (by omega)];omega
 have w1:∀m:Nat,IntKind.i64.wrap (((m % 16:Nat):Int)+1)=((m % 16+1:Nat):Int):=fun m=>by rw[zbj (by omega) (by omega)];omega
 have nz:¬(16:Int)=0:=by decide
 refine zaF (fun M σ ds v=>ds=[]∧∃(m:Nat) (t:Lab),M=m+(wd - t.length)∧σ 0=vi m∧σ 1=vi wd∧σ 5=vs t∧m≤n∧hexR n wd []=hexR m wd t∧t.length+(m+(wd - t.length))≤n+wd∧Ext w v) (n+wd) ?_ ?_
 ·exact⟨rfl,n,[],rfl,vr0,vr0,vr0,Nat.le_refl _,rfl,by simp,Keep.refl _ _⟩
 rintro M σ ds v ⟨rfl,m,t,rfl,s0,s1,s5,hm,ht,hl,hE⟩
 have hq:(m:Int).tdiv 16=((m / 16:Nat):Int):=by rw[Int.tdiv_eq_ediv_of_nonneg (by omega)];omega
 have hwq:IntKind.i64.wrap ((m / 16:Nat):Int)=((m / 16:Nat):Int):=zbj (by omega) (by omega)
 have hwm:IntKind.i64.wrap ((m % 16:Nat):Int)=((m % 16:Nat):Int):=zbj (by omega) (by omega)
 have hlt:m % 16<16:=Nat.mod_lt _ (by decide)
 have hsl:(hexS.drop (m % 16)).take (m % 16+1 - m % 16)=[hexD (m % 16)]:=by
  have h2:m % 16<hexS.length:=hlt
  rw[List.drop_eq_getElem_cons h2,zfh h2,show m % 16+1 - m % 16=1 from by omega];rfl
 have slc:slV Tryz.prog 9 (.string ⟨#[48,49,50,51,52,53,54,55,56,57,97,98,99,100,101,102]⟩) (some (vi (m % 16:Nat))) (some (vi (m % 16+1:Nat))) Option.none=some (vs [hexD (m % 16)]):=by
  rw[s_D,←hsl]
  have h16:hexS.length=16:=rfl
  exact s_str (P:=Tryz.prog) (s:=hexS) (k:= .i64) (k':= .i64) (l:=(m % 16:Nat)) (m:=(m % 16+1:Nat)) (by omega) (by omega) (by rw[h16];omega)
 have a1:([hexD (m % 16)]:Lab).length+t.length≤9223372036854775807:=by simp;omega
 by_cases hgo:0<m∨t.length<wd
 ·have e2:=zbJ hgo
  have fin:∀{A:World} {σ':Sto},Ext v A→σ' 0=vi (m / 16:Nat)→σ' 1=vi wd→σ' 5=vs (hexD (m % 16)::t)→∃m',m'<m+(wd - t.length)∧([]:List Deferred)=[]∧∃(m1:Nat) (t1:Lab),m'=m1+(wd - t1.length)∧σ' 0=vi m1∧σ' 1=vi wd∧σ' 5=vs t1∧m1≤n∧hexR n wd []=hexR m1 wd t1∧t1.length+(m1+(wd - t1.length))≤n+wd∧Ext w A:=fun {A σ'} hA h0 h1 h5=>by
   have h6:m / 16+(wd - (hexD (m % 16)::t).length)<m+(wd - t.length):=by rw[List.length_cons];rcases hgo with h|h<;>omega
   exact⟨m / 16+(wd - (hexD (m % 16)::t).length),h6,rfl,m / 16,_,rfl,h0,h1,h5,by omega,ht.trans e2,by rw[List.length_cons]at*;omega,hE.trans hA⟩
  by_cases h0:0<m
  ·have d1:decide ((0:Int)<(m:Int))=true:=decide_eq_true (by omega)
   refine go trivial ?_
   refine rgg [(2,8)] (an4 s0 s1 s5 d1) ?_
   refine go (an6 s0 s1 s5 (e1 m) (w1 m) (an6 nz hwm hq hwq a1 slc)) ?_
   exact fin (Keep.refl _ _) (vr0) ((vq1 s1)) (vr0)
  ·have d1:decide ((0:Int)<(m:Int))=false:=decide_eq_false (by omega)
   have d2:decide ((t.length:Int)<(wd:Int))=true:=decide_eq_true (by omega)
   refine go trivial ?_
   refine rgg [(2,8)] (an5 s0 s1 s5 d1 d2) ?_
   refine go (an6 s0 s1 s5 (e1 m) (w1 m) (an6 nz hwm hq hwq a1 slc)) ?_
   exact fin (Keep.refl _ _) (vr0) ((vq1 s1)) (vr0)
 ·have d1:decide ((0:Int)<(m:Int))=false:=decide_eq_false (by omega)
  have d2:decide ((t.length:Int)<(wd:Int))=false:=decide_eq_false (by omega)
  refine go trivial ?_
  refine rgg [(2,8)] (an5 s0 s1 s5 d1 d2) ?_
  refine go (an3 s0 s1 s5) ?_
  refine rt1 s5 Tryz.ntmps89 ?_
  exact⟨by rw[ht,zcW hgo],hE⟩
theorem zeZ(w:World)(t:Int):Fn Tryz.prog 83 #[vi t] w (fun v w'=>v= .tuple #[vi (zas t).1,vi (zas t).2.1,vi (zas t).2.2.2]∧w'=w):=by
 refine enter Tryz.func83 Tryz.ntmps83 rfl rfl ?_
 by_cases h1:t=1
 ·subst h1
  refine go (an9 (show decide ((1:Int)=1)=true from rfl) trivial trivial trivial trivial trivial trivial trivial trivial) ?_
  refine zag (.inr rfl) Tryz.ntmps83 rfl (zac (vr0) (zac (vr0) (zac (vr0) zae))) ?_
  exact⟨rfl,rfl⟩
 by_cases h28:t=28
 ·subst h28
  refine go (an9 (show decide ((28:Int)=1)=false from rfl) (show decide ((28:Int)=28)=true from rfl) trivial trivial trivial trivial trivial trivial trivial) ?_
  refine zag (.inr rfl) Tryz.ntmps83 rfl (zac (vr0) (zac (vr0) (zac (vr0) zae))) ?_
  exact⟨rfl,rfl⟩
 by_cases h2:t=2
 ·subst h2
  refine go (an9 (show decide ((2:Int)=1)=false from rfl) (show decide ((2:Int)=28)=false from rfl) (show decide ((2:Int)=2)=true from rfl) trivial trivial trivial trivial trivial trivial) ?_
  refine zag (.inr rfl) Tryz.ntmps83 rfl (zac (vr0) (zac (vr0) (zac (vr0) zae))) ?_
  exact⟨rfl,rfl⟩
 by_cases h5:t=5
 ·subst h5
  refine go (an9 (show decide ((5:Int)=1)=false from rfl) (show decide ((5:Int)=28)=false from rfl) (show decide ((5:Int)=2)=false from rfl) (show decide ((5:Int)=5)=true from rfl) trivial trivial trivial trivial trivial) ?_
  refine zag (.inr rfl) Tryz.ntmps83 rfl (zac (vr0) (zac (vr0) (zac (vr0) zae))) ?_
  exact⟨rfl,rfl⟩
 by_cases h12:t=12
 ·subst h12
  refine go (an9 (show decide ((12:Int)=1)=false from rfl) (show decide ((12:Int)=28)=false from rfl) (show decide ((12:Int)=2)=false from rfl) (show decide ((12:Int)=5)=false from rfl) (show decide ((12:Int)=12)=true from rfl) trivial trivial trivial trivial) ?_
  refine zag (.inr rfl) Tryz.ntmps83 rfl (zac (vr0) (zac (vr0) (zac (vr0) zae))) ?_
  exact⟨rfl,rfl⟩
 by_cases h39:t=39
 ·subst h39
  refine go (an9 (show decide ((39:Int)=1)=false from rfl) (show decide ((39:Int)=28)=false from rfl) (show decide ((39:Int)=2)=false from rfl) (show decide ((39:Int)=5)=false from rfl) (show decide ((39:Int)=12)=false from rfl) (show decide ((39:Int)=39)=true from rfl) trivial trivial trivial) ?_
  refine zag (.inr rfl) Tryz.ntmps83 rfl (zac (vr0) (zac (vr0) (zac (vr0) zae))) ?_
  exact⟨rfl,rfl⟩
 by_cases h15:t=15
 ·subst h15
  refine go (an9 (show decide ((15:Int)=1)=false from rfl) (show decide ((15:Int)=28)=false from rfl) (show decide ((15:Int)=2)=false from rfl) (show decide ((15:Int)=5)=false from rfl) (show decide ((15:Int)=12)=false from rfl) (show decide ((15:Int)=39)=false from rfl) (show decide ((15:Int)=15)=true from rfl) trivial trivial) ?_
  refine zag (.inr rfl) Tryz.ntmps83 rfl (zac (vr0) (zac (vr0) (zac (vr0) zae))) ?_
  exact⟨rfl,rfl⟩
 by_cases h6:t=6
 ·subst h6
  refine go (an9 (show decide ((6:Int)=1)=false from rfl) (show decide ((6:Int)=28)=false from rfl) (show decide ((6:Int)=2)=false from rfl) (show decide ((6:Int)=5)=false from rfl) (show decide ((6:Int)=12)=false from rfl) (show decide ((6:Int)=39)=false from rfl) (show decide ((6:Int)=15)=false from rfl) (show decide ((6:Int)=6)=true from rfl) trivial) ?_
  refine zag (.inr rfl) Tryz.ntmps83 rfl (zac (vr0) (zac (vr0) (zac (vr0) zae))) ?_
  exact⟨rfl,rfl⟩
 by_cases h16:t=16
 ·subst h16
  refine go (an9 (show decide ((16:Int)=1)=false from rfl) (show decide ((16:Int)=28)=false from rfl) (show decide ((16:Int)=2)=false from rfl) (show decide ((16:Int)=5)=false from rfl) (show decide ((16:Int)=12)=false from rfl) (show decide ((16:Int)=39)=false from rfl) (show decide ((16:Int)=15)=false from rfl) (show decide ((16:Int)=6)=false from rfl) (show decide ((16:Int)=16)=true from rfl)) ?_
  refine zag (.inr rfl) Tryz.ntmps83 rfl (zac (vr0) (zac (vr0) (zac (vr0) zae))) ?_
  exact⟨rfl,rfl⟩
 have hsh:zas t=(0,0,0, -1):=by
  unfold zas
  rw[if_neg h1,if_neg h28,if_neg h15,if_neg h6,if_neg h16,if_neg (by rintro(h|h|h|h);exact h2 h;exact h5 h;exact h12 h;exact h39 h)]
 rw[hsh]
 refine go (an9 (decide_eq_false h1) (decide_eq_false h28) (decide_eq_false h2) (decide_eq_false h5) (decide_eq_false h12) (decide_eq_false h39) (decide_eq_false h15) (decide_eq_false h6) (decide_eq_false h16)) ?_
 refine zag (.inr rfl) Tryz.ntmps83 rfl (zac (vr0) (zac (vr0) (zac (vr0) zae))) ?_
 exact⟨rfl,rfl⟩
theorem shape_x(t:Int):(zas t).2.2.1=if t=16 then -1 else 0:=by
 unfold zas
 by_cases h:t=16
 ·subst h;rfl
 ·rw[if_neg h]
  (repeat' split)<;>rfl
theorem zf5{w:World}{cs:List Value}{d:DatL}(hd:DatAt w cs d)(hT:DatT d):Fn Tryz.prog 30 #[.agg cs.toArray] w (fun v w'=>v=vi (zbz d)∧Ext w w'):=by
 have hS:=hT.s
 obtain⟨nm,nu,tx,rw',rfl,⟨vals,⟨an,cn,rfl,hcn,hgn⟩,hvl,hvr⟩,hnu,htx,hrw⟩:=hd.ex
 obtain⟨au,cu,hau,hcu,hgu⟩:=id hnu
 obtain⟨at1,ct,hat,hgt⟩:=zbt htx
 obtain⟨ar,cr,har,_⟩:=id hrw
 rw[List.length_map]at hau har hcu
 subst hau
 subst hat
 subst har
 unfold zbz
 refine enter Tryz.func30 Tryz.ntmps30 rfl rfl ?_
 refine go trivial ?_
 refine zan ?_
 intro w1 hE1 hs1 hA
 have p0:zad w1 (some ⟨w.heap.size,0,Option.none⟩)=some (vi d.ty):=zaa hA rfl
 have p1:zad w1 (some ⟨w.heap.size,1,Option.none⟩)=some (.slice an vals.length cn):=zaa hA rfl
 have p2:zad w1 (some ⟨w.heap.size,2,Option.none⟩)=some (.slice au d.nums.length cu):=zaa hA rfl
 have p3:zad w1 (some ⟨w.heap.size,3,Option.none⟩)=some (.slice at1 d.texts.length ct):=zaa hA rfl
 have p4:zad w1 (some ⟨w.heap.size,4,Option.none⟩)=some (.slice ar d.raw.length cr):=zaa hA rfl
 obtain⟨p,hp⟩:∃p,w.heap.size=p:=⟨_,rfl⟩
 rw[hp]at p0 p1 p2 p3 p4 hA ⊢
 by_cases c1:d.ty<1
 ·rw[if_pos (.inl c1)]
  refine go trivial ?_
  refine rgg [(3,13)] (an3 p0 (decide_eq_true c1) (Nat.add_zero 0)) ?_
  refine go trivial ?_
  refine zag (.inr rfl) Tryz.ntmps30 rfl (zac (vr0) zae) ?_
  exact⟨rfl,hE1⟩
 by_cases c2:65535<d.ty
 ·rw[if_pos (.inr c2)]
  refine go trivial ?_
  refine rgg [(3,13)] (an4 p0 (decide_eq_false c1) (decide_eq_true c2) (Nat.add_zero 0)) ?_
  refine go trivial ?_
  refine zag (.inr rfl) Tryz.ntmps30 rfl (zac (vr0) zae) ?_
  exact⟨rfl,hE1⟩
 rw[if_neg (by omega)]
 refine go trivial ?_
 refine rgg [(3,13)] (an4 p0 (decide_eq_false c1) (decide_eq_false c2) (Nat.add_zero 0)) ?_
 refine go trivial ?_
 refine rc (an2 p0 (Nat.add_zero 0)) (zeZ w1 d.ty) ?_
 rintro _ w2 ⟨rfl,hw2⟩
 subst hw2
 have hx:=shape_x d.ty
 obtain⟨⟨a,c,x,r⟩,hsh⟩:∃x,zas d.ty=x:=⟨_,rfl⟩
 have htxd:txD d=if x<0 then min (max (d.texts.length:Int) 1) 32 else x:=by unfold txD;rw[hsh]
 have hrwd:rwD d=if r<0 then(d.raw.length:Int) else r:=by unfold rwD;rw[hsh]
 have hfb:zaO d=(decide ((d.names.length:Int)=a) && decide ((d.nums.length:Int)=c) && decide ((d.texts.length:Int)=txD d) && decide ((d.raw.length:Int)=rwD d)):=by unfold zaO;rw[hsh]
 rw[hsh]at hx ⊢
 simp only at hx ⊢
 obtain⟨b6,hb6⟩:∃b,decide ((d.texts.length:Int)=txD d)=b:=⟨_,rfl⟩
 rw[hb6]at hfb
 obtain⟨z,hz⟩:∃b,decide ((d.texts.length:Int)=0)=b:=⟨_,rfl⟩
 refine rgo (an3 p3 (Nat.zero_add 3) hz) ?_
 refine rg2 p0 Nat.add_zero ?_
 repeat refine c_r ?_
 refine zav (Q:=fun e σ' ds' v'=>e= .normal∧ds'=[]∧v'=w2∧(σ' 1= .pointer (some ⟨p,0,Option.none⟩)∧σ' 3=vi a∧σ' 4=vi c∧σ' 5=vi r∧σ' 6= .bool b6)) ?_ ?_
 ·refine wc0 ?_ ?_
  ·intro h16
   have h16':=of_decide_eq_true h16
   rw[if_pos h16']at hx
   rw[if_pos (by omega)]at htxd
   repeat refine c_r ?_
   by_cases k1:(1:Int)≤(d.texts.length:Int)
   ·obtain⟨z2,hz2⟩:∃b,decide ((d.texts.length:Int)≤32)=b:=⟨_,rfl⟩
    have e6:z2=b6:=by rw[←hz2,←hb6];exact decide_eq_decide.2 (by rw[htxd];omega)
    refine rgg [(4,36)] (an5 p3 (Nat.zero_add 3) (decide_eq_true k1) hz2 trivial) ?_
    exact⟨rfl,rfl,rfl,vr0,vr0,vr0,vr0,by rw[←e6];first| (simp only[go_sem];done)| (simp only[go_sem];rfl)⟩
   ·have e6:b6=false:=by rw[←hb6];exact decide_eq_false (by rw[htxd];omega)
    subst e6
    refine rgg [(4,36)] (an3 p3 (Nat.zero_add 3) (decide_eq_false k1)) ?_
    exact⟨rfl,rfl,rfl,vr0,vr0,vr0,vr0,vr0⟩
  ·intro h16
   have h16':=of_decide_eq_false h16
   rw[if_neg h16']at hx
   rw[if_neg (by omega),hx]at htxd
   have e6:z=b6:=by rw[←hz,←hb6,htxd]
   repeat refine c_r ?_
   exact⟨rfl,rfl,rfl,vr0,vr0,vr0,vr0,by rw[←e6];first| (simp only[go_sem];done)| (simp only[go_sem];rfl)⟩
 rintro _ σ1 _ w3 ⟨rfl,rfl,rfl,⟨s1,s3,s4,s5,s6⟩⟩
 repeat refine c_r ?_
 rw[←hvl]at hfb
 refine zav (Q:=fun e σ' ds' v'=>e= .normal∧ds'=[]∧v'=w3∧σ' 1= .pointer (some ⟨p,0,Option.none⟩)∧σ' 68= .bool (!zaO d)) ?_ ?_
 ·by_cases kA:(vals.length:Int)=a
  rotate_left
  ·have e7:(!zaO d)=true:=by rw[hfb,decide_eq_false kA];rfl
   rw[e7]
   refine rgg [(5,47),(12,54),(15,57),(23,65)] (an9 s1 s3 s4 s5 s6 p1 (Nat.zero_add 1) (decide_eq_false kA) (an3 Bool.not_true Bool.not_false zbs)) ?_
   exact⟨rfl,rfl,rfl,(vq1 s1),vr0⟩
  by_cases kB:(d.nums.length:Int)=c
  rotate_left
  ·have e7:(!zaO d)=true:=by rw[hfb,decide_eq_false kB];simp
   rw[e7]
   refine rgg [(5,47),(12,54),(15,57),(23,65)] (an9 s1 s3 s4 s5 s6 p1 (Nat.zero_add 1) (decide_eq_true kA) (an6 p2 (Nat.zero_add 2) (decide_eq_false kB) Bool.not_true Bool.not_false zbs)) ?_
   exact⟨rfl,rfl,rfl,(vq1 s1),vr0⟩
  by_cases kC:(0:Int)≤r
  ·rw[if_neg (by omega)]at hrwd
   by_cases kD:(d.raw.length:Int)=r
   ·have e7:(!zaO d)=!b6:=by rw[hfb,decide_eq_true kA,decide_eq_true kB,hrwd,decide_eq_true kD];simp
    rw[e7]
    refine rgg [(5,47),(12,54),(15,57),(23,65)] (an9 s1 s3 s4 s5 s6 p1 (Nat.zero_add 1) (decide_eq_true kA) (an9 p2 (Nat.zero_add 2) (decide_eq_true kB) Bool.not_true Bool.not_false (decide_eq_true kC) p4 (Nat.zero_add 4) (decide_eq_true kD))) ?_
    exact⟨rfl,rfl,rfl,(vq1 s1),vr0⟩
   ·have e7:(!zaO d)=true:=by rw[hfb,hrwd,decide_eq_false kD];simp
    rw[e7]
    refine rgg [(5,47),(12,54),(15,57),(23,65)] (an9 s1 s3 s4 s5 s6 p1 (Nat.zero_add 1) (decide_eq_true kA) (an9 p2 (Nat.zero_add 2) (decide_eq_true kB) Bool.not_true Bool.not_false (decide_eq_true kC) p4 (Nat.zero_add 4) (decide_eq_false kD))) ?_
    exact⟨rfl,rfl,rfl,(vq1 s1),vr0⟩
  ·rw[if_pos (by omega)]at hrwd
   have e7:(!zaO d)=!b6:=by rw[hfb,decide_eq_true kA,decide_eq_true kB,hrwd];simp
   rw[e7]
   refine rgg [(5,47),(12,54),(15,57),(23,65)] (an9 s1 s3 s4 s5 s6 p1 (Nat.zero_add 1) (decide_eq_true kA) (an9 p2 (Nat.zero_add 2) (decide_eq_true kB) Bool.not_true Bool.not_false (decide_eq_false kC) p4 (Nat.zero_add 4) zbs)) ?_
   exact⟨rfl,rfl,rfl,(vq1 s1),vr0⟩
 clear s1 s3 s4 s5 s6
 rintro _ σ2 _ w4 ⟨rfl,rfl,rfl,s1,s68⟩
 cases hf:zaO d with
 |false=>
  rw[hf]at s68
  rw[if_pos rfl]
  refine go (an2 s1 s68) ?_
  refine zag (.inr rfl) Tryz.ntmps30 rfl (zac (vr0) zae) ?_
  exact⟨rfl,hE1⟩
 |true=>
 rw[hf]at s68
 rw[if_neg (by decide)]
 refine go (an2 s1 s68) ?_
 have hnames:=hS.names
 have hnn:=hT.nn
 refine zbh vals.length (fun i σ v=>(σ 1= .pointer (some ⟨p,0,Option.none⟩)∧σ 7=vi i)∧Ext w4 v∧∀j (h:j<d.names.length),j<i→zaR d.names[j]=0) ?_ ?_ ?_
 ·exact⟨⟨(vr1 s1),vr0⟩,Keep.refl _ _,fun j _ h=>by omega⟩
 ·rintro i σ v hi r ⟨⟨s1,s7⟩,hE,hlow⟩
  have g0:=hgn i hi
  obtain⟨xN,rfl⟩:=Option.isSome_iff_exists.1 (zaf g0)
  have hEv:=hE1.trans hE
  have g:=zab hEv g0
  have hin:i<d.names.length:=by omega
  have hrow:=(hvr i hi hin).ext hEv
  obtain⟨nv,hnv⟩:∃nv,vals[i]=nv:=⟨_,rfl⟩
  obtain⟨n,hn⟩:∃n,d.names[i]=n:=⟨_,rfl⟩
  rw[hnv]at g hrow
  rw[hn]at hrow
  have hnS:=hnames n (hn▸List.getElem_mem hin)
  obtain⟨r1,r2,r3,r4⟩:=r
  have q1:=zab hE p1
  refine go (an9 s1 s7 q1 (Nat.zero_add 1) r1 r2 r3 g trivial) ?_
  refine rc (an9 s1 s7 q1 (Nat.zero_add 1) r1 r2 r3 g trivial) (zd7 v nv n hrow (fun l hl=>by have:=hnS.1 l hl;omega) (by have:=hnS.2;omega)) ?_
  rintro _ v1 ⟨rfl,hE1'⟩
  by_cases hc:zaR n=0
  ·refine rgo (an4 s1 s7 r4 (decide_eq_true hc)) ?_
   refine⟨rfl,⟨(vq1 s1),(vq1 r4)⟩,hE.trans hE1',fun j hj hji=>?_⟩
   by_cases e:j=i
   ·subst e;rw[hn];exact hc
   ·exact hlow j hj (by omega)
  ·refine rgo (an2 s1 (decide_eq_false hc)) ?_
   refine zag (.inr rfl) Tryz.ntmps30 rfl (zac (vr0) zae) ?_
   have hfind:d.names.find? (fun n=>decide (zaR n≠0))=some n:=by
    rw[List.find?_eq_some_iff_getElem]
    refine⟨decide_eq_true hc,i,hin,hn,fun j hj=>?_⟩
    simp[hlow j (by omega) hj]
   rw[hfind]
   exact⟨rfl,hEv.trans hE1'⟩
 clear s1 s68
 rintro σ v r ⟨⟨s1,s7⟩,hE,hlow⟩
 have hnone:d.names.find? (fun n=>decide (zaR n≠0))=Option.none:=by
  rw[List.find?_eq_none]
  intro n hn
  obtain⟨j,hj,rfl⟩:=List.mem_iff_getElem.1 hn
  simp[hlow j hj (by omega)]
 rw[hnone]
 simp only
 have hEv:=hE1.trans hE
 have u0:=zab hE p0
 have u1:=zab hE p1
 have u2:=zab hE p2
 have u3:=zab hE p3
 have u4:=zab hE p4
 refine go (an5 s1 s7 u1 r (Nat.zero_add 1)) ?_
 obtain⟨tt,htt⟩:∃tt,decide (d.ty=15∧65535<d.nums.headD 0)=tt:=⟨_,rfl⟩
 refine zav (Q:=fun e σ' ds' v'=>e= .normal∧ds'=[]∧v=v'∧σ' 1= .pointer (some ⟨p,0,Option.none⟩)∧σ' 94= .bool tt) ?_ ?_
 ·by_cases c3:d.ty=15
  ·have hn1:d.nums.length=1:=by
    unfold zaO at hf
    simp only[Bool.and_eq_true,decide_eq_true_eq]at hf
    have h2:=hf.1.1.2
    rw[c3]at h2
    have h3:(zas 15).2.1=1:=rfl
    rw[h3]at h2
    omega
   obtain⟨x,hx⟩:∃x,d.nums[0]'(by omega)=x:=⟨_,rfl⟩
   have hhd:d.nums.headD 0=x:=by
    cases hnn:d.nums with
    |nil=>rw[hnn]at hn1;cases hn1
    |cons a l=>simp[hnn]at hx;simpa using hx
   have gu:=zab hEv (hgu 0 (by rw[List.length_map];omega))
   rw[List.getElem_map,hx,zaC]at gu
   obtain⟨xU,rfl⟩:∃x,au=some x:=by
    cases au with
    |none=>cases gu
    |some x=>exact⟨x,rfl⟩
   have n0:(0:Int)<(d.nums.length:Int):=by omega
   have d2:decide ((65535:Int)<x)=tt:=by rw[←htt,hhd];exact decide_eq_decide.2 ⟨fun h=>⟨c3,h⟩,fun h=>h.2⟩
   refine rgg [(3,88)] (an9 s1 u0 u2 (decide_eq_true c3) gu n0 d2 (Nat.add_zero 0) (an4 (Nat.zero_add 2) Int.toNat_zero (Nat.zero_mul 1) (zaC (some xU)))) ?_
   exact⟨rfl,rfl,rfl,(vq1 s1),vr0⟩
  ·have d2:tt=false:=by rw[←htt];exact decide_eq_false fun h=>c3 h.1
   subst d2
   refine rgg [(3,88)] (an4 s1 u0 (decide_eq_false c3) (Nat.add_zero 0)) ?_
   exact⟨rfl,rfl,rfl,(vq1 s1),vr0⟩
 clear s1
 rintro _ σ3 _ v1 ⟨rfl,rfl,hv1,s1,s94⟩
 subst hv1
 cases tt with
 |true=>
  rw[if_pos (of_decide_eq_true htt)]
  refine go (an2 s1 s94) ?_
  refine zag (.inr rfl) Tryz.ntmps30 rfl (zac (vr0) zae) ?_
  exact⟨rfl,hEv⟩
 |false=>
 rw[if_neg (of_decide_eq_false htt)]
 have htx':=hS.tx
 have hnt:=hS.nt
 refine go (an2 s1 s94) ?_
 clear hlow
 refine zbh d.texts.length (fun i σ v'=>(σ 1= .pointer (some ⟨p,0,Option.none⟩)∧σ 9=vi i)∧v'=v∧∀j (h:j<d.texts.length),j<i→d.texts[j].length≤255) ?_ ?_ ?_
 ·exact⟨⟨(vr1 s1),vr0⟩,rfl,fun j _ h=>by omega⟩
 ·rintro i σ v' hi ⟨r1,r2,r3,r4⟩ ⟨⟨s1,s9⟩,rfl,hlow⟩
  obtain⟨xT,rfl,g0⟩:=hgt i hi
  have g:=zab hEv g0
  obtain⟨tx,htxi⟩:∃t,d.texts[i]=t:=⟨_,rfl⟩
  rw[htxi]at g
  have htl:=htx' tx (htxi▸List.getElem_mem hi)
  by_cases hlt:255<tx.length
  ·have d5:decide ((255:Int)<(tx.length:Int))=true:=decide_eq_true (by omega)
   refine go (an9 s1 s9 u3 (Nat.zero_add 3) r1 r2 r3 g d5) ?_
   refine zag (.inr rfl) Tryz.ntmps30 rfl (zac (vr0) zae) ?_
   have hlg:zcT d.texts=true:=by
    unfold zcT
    rw[List.any_eq_true]
    exact⟨tx,htxi▸List.getElem_mem hi,decide_eq_true hlt⟩
   rw[if_pos (.inr hlg)]
   exact⟨rfl,hEv⟩
  ·have d5:decide ((255:Int)<(tx.length:Int))=false:=decide_eq_false (by omega)
   refine go (an9 s1 s9 u3 (Nat.zero_add 3) r1 r2 r3 g (an2 r4 d5)) ?_
   refine⟨rfl,⟨(vq1 s1),(vq1 r4)⟩,rfl,fun j hj hji=>?_⟩
   by_cases e:j=i
   ·subst e;rw[htxi];omega
   ·exact hlow j hj (by omega)
 clear s1
 rintro σ v' r ⟨⟨s1,s9⟩,rfl,hlow⟩
 have hlg:zcT d.texts=false:=by
  unfold zcT
  rw[List.any_eq_false]
  intro t ht
  obtain⟨j,hj,rfl⟩:=List.mem_iff_getElem.1 ht
  have:=hlow j hj hj
  simp;omega
 by_cases c4:1024<d.raw.length
 ·have d4:decide ((1024:Int)<(d.raw.length:Int))=true:=decide_eq_true (by omega)
  rw[if_pos (.inl c4)]
  refine go (an9 s1 s9 u3 (Nat.zero_add 3) r u4 d4 (Nat.zero_add 4) trivial) ?_
  refine zag (.inr rfl) Tryz.ntmps30 rfl (zac (vr0) zae) ?_
  exact⟨rfl,hEv⟩
 ·have d4:decide ((1024:Int)<(d.raw.length:Int))=false:=decide_eq_false (by omega)
  rw[if_neg (fun h=>by rcases h with h|h;exact c4 h;rw[hlg]at h;cases h)]
  refine go (an9 s1 s9 u3 (Nat.zero_add 3) r u4 d4 (Nat.zero_add 4) trivial) ?_
  refine zag (.inr rfl) Tryz.ntmps30 rfl (zac (vr0) zae) ?_
  exact⟨rfl,hEv⟩
theorem zdE{d:DatL}(hf:zaO d=true):(d.names.length:Int)=(zas d.ty).1∧(d.nums.length:Int)=(zas d.ty).2.1∧(d.texts.length:Int)=txD d∧(d.raw.length:Int)=rwD d:=by
 unfold zaO at hf
 simp only[Bool.and_eq_true,decide_eq_true_eq]at hf
 exact⟨hf.1.1.1,hf.1.1.2,hf.1.2,hf.2⟩
theorem zb7{α:Type}{l:List α}(h:(l.length:Int)=0):l=[]:=List.length_eq_zero_iff.1 (by omega)
theorem zbE{d:DatL}(hf:zaO d=true){a c r:Int}(h:zas d.ty=(a,c,0,r)):(d.names.length:Int)=a∧(d.nums.length:Int)=c∧d.texts=[]∧(0≤r→(d.raw.length:Int)=r):=by
 obtain⟨h1,h2,h3,h4⟩:=zdE hf
 unfold txD at h3
 unfold rwD at h4
 rw[h]at h1 h2 h3 h4
 exact⟨h1,h2,zb7 h3,fun hr=>by rw[if_neg (by simp only;omega)]at h4;exact h4⟩
theorem zfe(sep x:Lab):za7 sep [x]=x:=by simp[za7]
theorem zfS(l:List UInt8):zay 1 l=l.map fun c=>[c]:=by
 refine List.ext_getElem (by rw[zby];simp) fun i h1 h2=>?_
 rw[zcC]
 have hi:i<l.length:=by simpa using h2
 rw[List.getElem_map,Nat.mul_one,List.drop_eq_getElem_cons hi]
 rfl
theorem tx_one{d:DatL}(hf:zaO d=true)(ht:d.ty=1):za6 hexU d=za7 [46] (d.raw.map fun c=>Lib.decDigits c.toNat):=by
 obtain⟨h1,h2,h3,h4⟩:=zbE hf (a:=0) (c:=0) (r:=4) (by rw[ht];rfl)
 have e1:=zb7 h1
 have e2:=zb7 h2
 unfold za6 zbd zbe zch zbD
 rw[e1,e2,h3,ht]
 simp only[List.map_nil,ite_self,List.append_nil,List.nil_append,if_true]
 rw[zfe]
 unfold zbK
 rw[zfS,List.map_map]
 congr 1
 refine List.map_congr_left fun c _=>?_
 show Lib.decDigits (0*256+c.toNat)=_
 rw[Nat.zero_mul,Nat.zero_add]
def zdQ(raw:List UInt8)(i:Nat):Lab:=hexU ((raw.getD (2*i) 0).toNat*256+(raw.getD (2*i+1) 0).toNat)
theorem tx_28{d:DatL}(hf:zaO d=true)(ht:d.ty=28):d.raw.length=16∧za6 hexU d=za7 [58] ((List.range 8).map (zdQ d.raw)):=by
 obtain⟨h1,h2,h3,h4⟩:=zbE hf (a:=0) (c:=0) (r:=16) (by rw[ht];rfl)
 have e1:=zb7 h1
 have e2:=zb7 h2
 have e4:d.raw.length=16:=by have:=h4 (by decide);omega
 refine⟨e4,?_⟩
 unfold za6 zbd zbe zch zbD
 rw[e1,e2,h3,ht]
 simp only[List.map_nil,ite_self,List.append_nil,List.nil_append,if_true,if_neg (show¬(28:Int)=1 by decide)]
 rw[zfe]
 unfold zbK
 congr 1
 refine List.ext_getElem (by rw[List.length_map,zby,e4];simp) fun i h1 h2=>?_
 have hi:i<8:=by simpa using h2
 rw[List.getElem_map,List.getElem_map,zcC,List.getElem_range]
 unfold zdQ
 rw[List.getD_eq_getElem?_getD,List.getElem?_eq_getElem (show 2*i<d.raw.length by omega),List.getD_eq_getElem?_getD,List.getElem?_eq_getElem (show 2*i+1<d.raw.length by omega)]
 rw[show i*2=2*i from Nat.mul_comm _ _,List.drop_eq_getElem_cons (show 2*i<d.raw.length by omega),List.drop_eq_getElem_cons (show 2*i+1<d.raw.length by omega)]
 show hexU ((0*256+_)*256+_)=_
 rw[Nat.zero_mul,Nat.zero_add]
 rfl
theorem tx_16{d:DatL}(hf:zaO d=true)(ht:d.ty=16):za6 hexU d=za7 [32] (d.texts.map quoT):=by
 obtain⟨h1,h2,_,_⟩:=zdE hf
 rw[ht]at h1 h2
 have e1:=zb7 h1
 have e2:=zb7 h2
 unfold za6 zbd zbe zch zbD
 rw[e1,e2,ht,show(zbH 16 tyTab).2=true from rfl]
 simp
theorem tx_15{d:DatL}(hf:zaO d=true)(ht:d.ty=15):∃m n,d.nums=[m]∧d.names=[n]∧za6 hexU d=(numT m++ [32])++zbc n:=by
 obtain⟨h1,h2,h3,h4⟩:=zbE hf (a:=1) (c:=1) (r:=0) (by rw[ht];rfl)
 obtain⟨n,hn⟩:=List.length_eq_one_iff.1 (show d.names.length=1 by omega)
 obtain⟨m,hm⟩:=List.length_eq_one_iff.1 (show d.nums.length=1 by omega)
 refine⟨m,n,hm,hn,?_⟩
 unfold za6 zbd zbe zch zbD
 rw[hn,hm,h3,ht,show(zbH 15 tyTab).2=true from rfl]
 simp[za7]
theorem tx_names{d:DatL}(hf:zaO d=true)(ht:d.ty=2∨d.ty=5∨d.ty=12∨d.ty=39∨d.ty=6):za6 hexU d=za7 [32] (d.names.map zbc++d.nums.map numT):=by
 have h3:d.texts=[]:=by
  rcases ht with h|h|h|h|h
  ·exact(zbE hf (a:=1) (c:=0) (r:=0) (by rw[h];rfl)).2.2.1
  ·exact(zbE hf (a:=1) (c:=0) (r:=0) (by rw[h];rfl)).2.2.1
  ·exact(zbE hf (a:=1) (c:=0) (r:=0) (by rw[h];rfl)).2.2.1
  ·exact(zbE hf (a:=1) (c:=0) (r:=0) (by rw[h];rfl)).2.2.1
  ·exact(zbE hf (a:=2) (c:=5) (r:=0) (by rw[h];rfl)).2.2.1
 unfold za6 zbd zbe zch zbD
 rw[h3]
 rcases ht with h|h|h|h|h<;>(rw[h];simp[show (zbH 2 tyTab).2=true from rfl,show(zbH 5 tyTab).2=true from rfl,show(zbH 12 tyTab).2=true from rfl,show(zbH 39 tyTab).2=true from rfl,show(zbH 6 tyTab).2=true from rfl])
theorem tx_any{d:DatL}(hf:zaO d=true)(ht:¬(d.ty=1∨d.ty=28∨d.ty=16∨d.ty=15∨d.ty=2∨d.ty=5∨d.ty=12∨d.ty=39∨d.ty=6)):za6 hexU d=([92,35,32]++Lib.decDigits d.raw.length++if 0<d.raw.length then [32] else [])++hexT d.raw:=by
 have hsh:zas d.ty=(0,0,0, -1):=by
  unfold zas
  rw[if_neg (by omega),if_neg (by omega),if_neg (by omega),if_neg (by omega),if_neg (by omega),if_neg (by omega)]
 obtain⟨h1,h2,h3,_⟩:=zbE hf hsh
 have e1:=zb7 h1
 have e2:=zb7 h2
 have hfd:(zbH d.ty tyTab).2=false:=by
  unfold tyTab
  simp only[zbH]
  rw[if_neg (by omega),if_neg (by omega),if_neg (by omega),if_neg (by omega),if_neg (by omega),if_neg (by omega),if_neg (by omega),if_neg (by omega),if_neg (by omega)]
 unfold za6 zbd zbe zch zbD
 rw[e1,e2,h3,hfd,if_neg (show¬d.ty=1 by omega),if_neg (show¬d.ty=28 by omega),if_neg (show¬false=true by decide),zff]
 simp only[List.map_nil,ite_self,List.append_nil,List.nil_append]
 by_cases h0:d.raw.length=0
 ·rw[if_pos h0,if_neg (by omega),zb7 (l:=d.raw) (by omega)]
  simp[za7,hexT]
 ·rw[if_neg h0,if_pos (by omega)]
  simp[za7]
theorem hexT_two(l:List UInt8):(hexT l).length=2*l.length:=by
 induction l with
 |nil=>rfl
 |cons c l ih=>
  have:hexT (c::l)=hexB c++hexT l:=rfl
  rw[this,List.length_append,ih,List.length_cons,show(hexB c).length=2 from rfl]
  omega
theorem zhc{w:World}{cs:List Value}{d:DatL}(hd:DatAt w cs d)(hT:DatT d)(hf:zaO d=true)(ht:d.ty=1):Fn Tryz.prog 34 #[.agg cs.toArray] w (fun v w'=>v=vs (za6 hexU d)∧Ext w w'):=by
 have hS:=hT.s
 have hnl:=hT.nn
 have hul:=hS.nu
 have htl:=hS.nt
 have hrl:=hS.nr
 obtain⟨nm,nu,tx,rw',rfl,⟨vals,⟨an,cn,rfl,hcn,hgn⟩,hvl,hvr⟩,hnu,htx,hrw⟩:=hd.ex
 obtain⟨au,cu,hau,hcu,hgu⟩:=id hnu
 obtain⟨at1,ct,hat,hgt⟩:=zbt htx
 obtain⟨ar,cr,har,hcr,hgr⟩:=id hrw
 rw[List.length_map]at hau har hcu hcr
 subst hau
 subst hat
 subst har
 refine enter Tryz.func34 Tryz.ntmps34 rfl rfl ?_
 refine go trivial ?_
 refine zan ?_
 intro w1 hE1 hs1 hA
 have p0:zad w1 (some ⟨w.heap.size,0,Option.none⟩)=some (vi d.ty):=zaa hA rfl
 have p1:zad w1 (some ⟨w.heap.size,1,Option.none⟩)=some (.slice an vals.length cn):=zaa hA rfl
 have p2:zad w1 (some ⟨w.heap.size,2,Option.none⟩)=some (.slice au d.nums.length cu):=zaa hA rfl
 have p3:zad w1 (some ⟨w.heap.size,3,Option.none⟩)=some (.slice at1 d.texts.length ct):=zaa hA rfl
 have p4:zad w1 (some ⟨w.heap.size,4,Option.none⟩)=some (.slice ar d.raw.length cr):=zaa hA rfl
 obtain⟨p,hp⟩:∃p,w.heap.size=p:=⟨_,rfl⟩
 rw[hp]at p0 p1 p2 p3 p4 hA ⊢
 refine go (an9 p0 (Nat.add_zero 0) (decide_eq_true ht) trivial trivial trivial trivial trivial trivial) ?_
 refine zbh d.raw.length (fun i σ v=>(σ 1= .pointer (some ⟨p,0,Option.none⟩)∧σ 4=vi i∧∃sv,σ 3=sv∧Own w1.heap.size v 9 sv (((d.raw.map fun c=>Lib.decDigits c.toNat).take i).map vs))∧Ext w1 v) ?_ ?_ ?_
 ·exact⟨⟨vr0,vr0,_,vr0,Own.nil _ _ _⟩,Keep.refl _ _⟩
 ·rintro i σ v hi ⟨r1,r2,r3,r4⟩ ⟨⟨s1,s4,sv,s3,hown⟩,hE⟩
  have hEv:=hE1.trans hE
  have q:=zab hE p4
  have g0:=hgr i (by rw[List.length_map];exact hi)
  rw[List.getElem_map]at g0
  obtain⟨xT,rfl⟩:=Option.isSome_iff_exists.1 (zaf g0)
  have g:=zab hEv g0
  obtain⟨c,hx⟩:∃c,d.raw[i]=c:=⟨_,rfl⟩
  rw[hx]at g
  have hcl:=c.toNat_lt
  have hbc:zal c= .int .u8 (c.toNat:Int):=rfl
  have hwc:IntKind.i64.wrap (c.toNat:Int)=(c.toNat:Int):=zbj (by omega) (by omega)
  have hsE:=hE.size
  refine go (an6 s1 s4 s3 q (Nat.zero_add 4) r1) ?_
  refine rq ?_;intro gd K hgd hK
  try simp (disch:=first|omega|assumption|rfl) only[go_sem,s1,s3,s4,q,Nat.zero_add,r2,r3,g,hbc,hwc]
  refine Fn.mono (zbG v c.toNat (by omega) (by omega)) ?_
  rintro _ y1 ⟨rfl,hy1⟩
  try simp only[go_sem]
  refine zaK (z:=vs []) rfl rfl rfl rfl rfl ?_
  intro y2 hy2 hys2 hyo
  try simp (disch:=first|omega|assumption|rfl) only[go_sem,s3]
  have hxy:=hy1.trans hy2
  have hsxy:=hxy.size
  refine zaG (B:=w1.heap.size) (hown.ext hxy) hyo.row rfl rfl rfl rfl rfl rfl ((vr1 s3)) (vr0) (fun q hq=>by rw[List.mem_singleton.1 hq];rfl) (by simp;omega) (by decide) (by omega) ?_
  intro sv' y3 hown3 hX3 hK3 hb3
  try simp only[go_sem]
  refine hK _ _ ?_;clear hK hgd;clear K;try clear gd
  refine go (an3 s1 s4 r4) ?_
  refine⟨rfl,⟨(vq1 s1),(vq1 r4),sv',vr0,?_⟩,hX3 w1 (hE.trans hxy) (Nat.le_refl _)⟩
  have hiL:i<(d.raw.map fun c=>Lib.decDigits c.toNat).length:=by simp;omega
  rw[zak hiL,List.map_append]
  simp only[List.getElem_map,hx]
  exact hown3
 rintro σ v r ⟨⟨s1,s4,sv,s3,hown⟩,hE⟩
 have q:=zab hE p4
 rw[List.take_of_length_le (show(d.raw.map fun c=>Lib.decDigits c.toNat).length≤d.raw.length by simp)]at hown
 refine go (an6 s1 s4 s3 q (Nat.zero_add 4) r) ?_
 have hlens:zaq (d.raw.map fun c=>Lib.decDigits c.toNat)≤1000000000000:=by
  have:=za1 (m:=20) (l:=d.raw) (f:=fun c=>Lib.decDigits c.toNat) fun c _=>by have:=zbM 19 c.toNat (by have:=c.toNat_lt;omega);omega
  omega
 refine rc s3 (zb4 hown.row (sep:=[46]) (by decide) (by simp;omega) hlens) ?_
 rintro _ y ⟨rfl,hy⟩
 refine rgo trivial ?_
 refine rt0 Tryz.ntmps34 ?_
 exact⟨by rw[tx_one hf ht],(hE1.trans hE).trans hy⟩
theorem zf2{w:World}{cs:List Value}{d:DatL}(hd:DatAt w cs d)(hT:DatT d)(hf:zaO d=true)(ht:d.ty=16):Fn Tryz.prog 34 #[.agg cs.toArray] w (fun v w'=>v=vs (za6 hexU d)∧Ext w w'):=by
 have hS:=hT.s
 have hnl:=hT.nn
 have hul:=hS.nu
 have htl:=hS.nt
 have hrl:=hS.nr
 obtain⟨nm,nu,tx,rw',rfl,⟨vals,⟨an,cn,rfl,hcn,hgn⟩,hvl,hvr⟩,hnu,htx,hrw⟩:=hd.ex
 obtain⟨au,cu,hau,hcu,hgu⟩:=id hnu
 obtain⟨at1,ct,hat,hgt⟩:=zbt htx
 obtain⟨ar,cr,har,hcr,hgr⟩:=id hrw
 rw[List.length_map]at hau har hcu hcr
 subst hau
 subst hat
 subst har
 refine enter Tryz.func34 Tryz.ntmps34 rfl rfl ?_
 refine go trivial ?_
 refine zan ?_
 intro w1 hE1 hs1 hA
 have p0:zad w1 (some ⟨w.heap.size,0,Option.none⟩)=some (vi d.ty):=zaa hA rfl
 have p1:zad w1 (some ⟨w.heap.size,1,Option.none⟩)=some (.slice an vals.length cn):=zaa hA rfl
 have p2:zad w1 (some ⟨w.heap.size,2,Option.none⟩)=some (.slice au d.nums.length cu):=zaa hA rfl
 have p3:zad w1 (some ⟨w.heap.size,3,Option.none⟩)=some (.slice at1 d.texts.length ct):=zaa hA rfl
 have p4:zad w1 (some ⟨w.heap.size,4,Option.none⟩)=some (.slice ar d.raw.length cr):=zaa hA rfl
 obtain⟨p,hp⟩:∃p,w.heap.size=p:=⟨_,rfl⟩
 rw[hp]at p0 p1 p2 p3 p4 hA ⊢
 refine go (an9 p0 (Nat.add_zero 0) (show decide (d.ty=1)=false from decide_eq_false (by omega)) (show decide (d.ty=28)=false from decide_eq_false (by omega)) (decide_eq_true ht) trivial trivial trivial trivial) ?_
 refine zbh d.texts.length (fun i σ v=>(σ 1= .pointer (some ⟨p,0,Option.none⟩)∧σ 6=vi i∧∃sv,σ 3=sv∧Own w1.heap.size v 9 sv (((d.texts.map quoT).take i).map vs))∧Ext w1 v) ?_ ?_ ?_
 ·exact⟨⟨vr0,vr0,_,vr0,Own.nil _ _ _⟩,Keep.refl _ _⟩
 ·rintro i σ v hi ⟨r1,r2,r3,r4⟩ ⟨⟨s1,s4,sv,s3,hown⟩,hE⟩
  have hEv:=hE1.trans hE
  have q:=zab hE p3
  obtain⟨xT,rfl,g0⟩:=hgt i hi
  have g:=zab hEv g0
  obtain⟨t,hx⟩:∃t,d.texts[i]=t:=⟨_,rfl⟩
  rw[hx]at g
  have htt:=hS.tx t (hx▸List.getElem_mem hi)
  have hsE:=hE.size
  refine go (an6 s1 s4 s3 q (Nat.zero_add 3) r1) ?_
  refine rq ?_;intro gd K hgd hK
  try simp (disch:=first|omega|assumption|rfl) only[go_sem,s1,s3,s4,q,Nat.zero_add,r2,r3,g]
  refine Fn.mono (zf4 v t (by omega)) ?_
  rintro _ y1 ⟨rfl,hy1⟩
  try simp only[go_sem]
  refine zaK (z:=vs []) rfl rfl rfl rfl rfl ?_
  intro y2 hy2 hys2 hyo
  try simp (disch:=first|omega|assumption|rfl) only[go_sem,s3]
  have hxy:=hy1.trans hy2
  have hsxy:=hxy.size
  refine zaG (B:=w1.heap.size) (hown.ext hxy) hyo.row rfl rfl rfl rfl rfl rfl ((vr1 s3)) (vr0) (fun q hq=>by rw[List.mem_singleton.1 hq];rfl) (by simp;omega) (by decide) (by omega) ?_
  intro sv' y3 hown3 hX3 hK3 hb3
  try simp only[go_sem]
  refine hK _ _ ?_;clear hK hgd;clear K;try clear gd
  refine go (an3 s1 s4 r4) ?_
  refine⟨rfl,⟨(vq1 s1),(vq1 r4),sv',vr0,?_⟩,hX3 w1 (hE.trans hxy) (Nat.le_refl _)⟩
  have hiL:i<(d.texts.map quoT).length:=by simp;omega
  rw[zak hiL,List.map_append]
  simp only[List.getElem_map,hx]
  exact hown3
 rintro σ v r ⟨⟨s1,s4,sv,s3,hown⟩,hE⟩
 have q:=zab hE p3
 rw[List.take_of_length_le (show(d.texts.map quoT).length≤d.texts.length by simp)]at hown
 refine go (an6 s1 s4 s3 q (Nat.zero_add 3) r) ?_
 have hlens:zaq (d.texts.map quoT)≤1000000000000:=by
  have:=za1 (m:=5000) (l:=d.texts) (f:=quoT) fun t ht=>by have h1:=zbU t;have h2:=hS.tx t ht;unfold quoT;simp;omega
  omega
 refine rc s3 (zb4 hown.row (sep:=[32]) (by decide) (by simp;omega) hlens) ?_
 rintro _ y ⟨rfl,hy⟩
 refine rgo trivial ?_
 refine rt0 Tryz.ntmps34 ?_
 exact⟨by rw[tx_16 hf ht],(hE1.trans hE).trans hy⟩
theorem zha{w:World}{cs:List Value}{d:DatL}(hd:DatAt w cs d)(hT:DatT d)(hf:zaO d=true)(ht:d.ty=2∨d.ty=5∨d.ty=12∨d.ty=39∨d.ty=6):Fn Tryz.prog 34 #[.agg cs.toArray] w (fun v w'=>v=vs (za6 hexU d)∧Ext w w'):=by
 have hS:=hT.s
 have hnl:=hT.nn
 have hul:=hS.nu
 have htl:=hS.nt
 have hrl:=hS.nr
 obtain⟨nm,nu,tx,rw',rfl,⟨vals,⟨an,cn,rfl,hcn,hgn⟩,hvl,hvr⟩,hnu,htx,hrw⟩:=hd.ex
 obtain⟨au,cu,hau,hcu,hgu⟩:=id hnu
 obtain⟨at1,ct,hat,hgt⟩:=zbt htx
 obtain⟨ar,cr,har,hcr,hgr⟩:=id hrw
 rw[List.length_map]at hau har hcu hcr
 subst hau
 subst hat
 subst har
 refine enter Tryz.func34 Tryz.ntmps34 rfl rfl ?_
 refine go trivial ?_
 refine zan ?_
 intro w1 hE1 hs1 hA
 have p0:zad w1 (some ⟨w.heap.size,0,Option.none⟩)=some (vi d.ty):=zaa hA rfl
 have p1:zad w1 (some ⟨w.heap.size,1,Option.none⟩)=some (.slice an vals.length cn):=zaa hA rfl
 have p2:zad w1 (some ⟨w.heap.size,2,Option.none⟩)=some (.slice au d.nums.length cu):=zaa hA rfl
 have p3:zad w1 (some ⟨w.heap.size,3,Option.none⟩)=some (.slice at1 d.texts.length ct):=zaa hA rfl
 have p4:zad w1 (some ⟨w.heap.size,4,Option.none⟩)=some (.slice ar d.raw.length cr):=zaa hA rfl
 obtain⟨p,hp⟩:∃p,w.heap.size=p:=⟨_,rfl⟩
 rw[hp]at p0 p1 p2 p3 p4 hA ⊢
 have htx2:=tx_names hf ht
 rcases ht with h|h|h|h|h
 all_goals
  rw[h]at p0
  refine go (an2 p0 (Nat.add_zero 0)) ?_
  refine zbh vals.length (fun i σ v=>(σ 1= .pointer (some ⟨p,0,Option.none⟩)∧σ 7=vi i∧∃sv,σ 3=sv∧Own w1.heap.size v 9 sv (((d.names.map zbc).take i).map vs))∧Ext w1 v) ?_ ?_ ?_
  ·exact⟨⟨vr0,vr0,_,vr0,Own.nil _ _ _⟩,Keep.refl _ _⟩
  ·rintro i σ v hi ⟨r1,r2,r3,r4⟩ ⟨⟨s1,s4,sv,s3,hown⟩,hE⟩
   have hEv:=hE1.trans hE
   have q:=zab hE p1
   have g0:=hgn i hi
   obtain⟨xN,rfl⟩:=Option.isSome_iff_exists.1 (zaf g0)
   have g:=zab hEv g0
   have hin:i<d.names.length:=by omega
   have hrow:=(hvr i hi hin).ext hEv
   obtain⟨nv,hnv⟩:∃nv,vals[i]=nv:=⟨_,rfl⟩
   obtain⟨n,hx⟩:∃n,d.names[i]=n:=⟨_,rfl⟩
   rw[hnv]at g hrow
   rw[hx]at hrow
   have hnS:=hS.names n (hx▸List.getElem_mem hin)
   have hsE:=hE.size
   refine go (an6 s1 s4 s3 q (Nat.zero_add 1) r1) ?_
   refine rq ?_;intro gd K hgd hK
   try simp (disch:=first|omega|assumption|rfl) only[go_sem,s1,s3,s4,q,Nat.zero_add,r2,r3,g]
   refine Fn.mono (zcP v nv n hrow (fun l hl=>by have:=hnS.1 l hl;omega) hnS.2) ?_
   rintro _ y1 ⟨rfl,hy1⟩
   try simp only[go_sem]
   refine zaK (z:=vs []) rfl rfl rfl rfl rfl ?_
   intro y2 hy2 hys2 hyo
   try simp (disch:=first|omega|assumption|rfl) only[go_sem,s3]
   have hxy:=hy1.trans hy2
   have hsxy:=hxy.size
   refine zaG (B:=w1.heap.size) (hown.ext hxy) hyo.row rfl rfl rfl rfl rfl rfl ((vr1 s3)) (vr0) (fun q hq=>by rw[List.mem_singleton.1 hq];rfl) (by simp;omega) (by decide) (by omega) ?_
   intro sv' y3 hown3 hX3 hK3 hb3
   try simp only[go_sem]
   refine hK _ _ ?_;clear hK hgd;clear K;try clear gd
   refine go (an3 s1 s4 r4) ?_
   refine⟨rfl,⟨(vq1 s1),(vq1 r4),sv',vr0,?_⟩,hX3 w1 (hE.trans hxy) (Nat.le_refl _)⟩
   have hiL:i<(d.names.map zbc).length:=by simp;omega
   rw[zak hiL,List.map_append]
   simp only[List.getElem_map,hx]
   exact hown3
  rintro σ v r ⟨⟨s1,s4,sv,s3,hown⟩,hE⟩
  have q:=zab hE p1
  rw[List.take_of_length_le (show(d.names.map zbc).length≤vals.length by simp;omega)]at hown
  refine go (an6 s1 s4 s3 q (Nat.zero_add 1) r) ?_
  refine zbh d.nums.length (fun i σ v=>(σ 1= .pointer (some ⟨p,0,Option.none⟩)∧σ 8=vi i∧∃sv,σ 3=sv∧Own w1.heap.size v 9 sv ((d.names.map zbc).map vs++((d.nums.map numT).take i).map vs))∧Ext w1 v) ?_ ?_ ?_
  ·exact⟨⟨(vr1 s1),vr0,_,(vr1 s3),by rw[List.take_zero,List.map_nil,List.append_nil];exact hown⟩,hE⟩
  clear s1 s3 hown hE
  ·rintro i σ v hi ⟨r1,r2,r3,r4⟩ ⟨⟨s1,s4,sv,s3,hown⟩,hE⟩
   have hEv:=hE1.trans hE
   have q:=zab hE p2
   have g0:=hgu i (by rw[List.length_map];exact hi)
   rw[List.getElem_map]at g0
   obtain⟨xU,rfl⟩:=Option.isSome_iff_exists.1 (zaf g0)
   have g:=zab hEv g0
   obtain⟨m,hx⟩:∃m,d.nums[i]=m:=⟨_,rfl⟩
   rw[hx]at g
   have hmv:=hS.nv m (hx▸List.getElem_mem hi)
   obtain⟨k,rfl⟩:∃k:Nat,m=(k:Int):=⟨m.toNat,by omega⟩
   have hwc:IntKind.i64.wrap (k:Int)=(k:Int):=zbj (by omega) (by omega)
   have hvc:v32 (k:Int)= .int .u32 (k:Int):=rfl
   have hsE:=hE.size
   refine go (an6 s1 s4 s3 q (Nat.zero_add 2) r1) ?_
   refine rq ?_;intro gd K hgd hK
   try simp (disch:=first|omega|assumption|rfl) only[go_sem,s1,s3,s4,q,Nat.zero_add,r2,r3,g,hwc,hvc]
   refine Fn.mono (zbG v k (by omega) (by omega)) ?_
   rintro _ y1 ⟨rfl,hy1⟩
   try simp only[go_sem]
   refine zaK (z:=vs []) rfl rfl rfl rfl rfl ?_
   intro y2 hy2 hys2 hyo
   try simp (disch:=first|omega|assumption|rfl) only[go_sem,s3]
   have hxy:=hy1.trans hy2
   have hsxy:=hxy.size
   refine zaG (B:=w1.heap.size) (hown.ext hxy) hyo.row rfl rfl rfl rfl rfl rfl ((vr1 s3)) (vr0) (fun q hq=>by rw[List.mem_singleton.1 hq];rfl) (by simp;omega) (by decide) (by omega) ?_
   intro sv' y3 hown3 hX3 hK3 hb3
   try simp only[go_sem]
   refine hK _ _ ?_;clear hK hgd;clear K;try clear gd
   refine go (an3 s1 s4 r4) ?_
   refine⟨rfl,⟨(vq1 s1),(vq1 r4),sv',vr0,?_⟩,hX3 w1 (hE.trans hxy) (Nat.le_refl _)⟩
   have hiL:i<(d.nums.map numT).length:=by simp;omega
   rw[zak hiL,List.map_append,←List.append_assoc]
   simp only[List.getElem_map,hx]
   exact hown3
  rintro σ v r ⟨⟨s1,s4,sv,s3,hown⟩,hE⟩
  have q:=zab hE p2
  rw[List.take_of_length_le (show(d.nums.map numT).length≤d.nums.length by simp)]at hown
  refine go (an6 s1 s4 s3 q (Nat.zero_add 2) r) ?_
  rw[←List.map_append]at hown
  have hlens:zaq (d.names.map zbc++d.nums.map numT)≤1000000000000:=by
   have g1:zaq (d.names.map zbc)≤5000000*d.names.length:=za1 fun n hn=>zc3 (hS.names n hn).1 (hS.names n hn).2
   have g2:zaq (d.nums.map numT)≤20*d.nums.length:=za1 fun n hn=>zfc (hS.nv n hn).2
   have g3:∀a b:List Lab,zaq (a++b)=zaq a+zaq b:=fun a b=>by unfold zaq;rw[List.map_append,List.sum_append]
   rw[g3];omega
  refine rc s3 (zb4 hown.row (sep:=[32]) (by decide) (by simp;omega) hlens) ?_
  rintro _ y ⟨rfl,hy⟩
  refine rgo trivial ?_
  refine rt0 Tryz.ntmps34 ?_
  exact⟨by rw[htx2],(hE1.trans hE).trans hy⟩
theorem zf3{w:World}{cs:List Value}{d:DatL}(hd:DatAt w cs d)(hT:DatT d)(hf:zaO d=true)(ht:d.ty=15):Fn Tryz.prog 34 #[.agg cs.toArray] w (fun v w'=>v=vs (za6 hexU d)∧Ext w w'):=by
 have hS:=hT.s
 have hnl:=hT.nn
 have hul:=hS.nu
 have htl:=hS.nt
 have hrl:=hS.nr
 obtain⟨nm,nu,tx,rw',rfl,⟨vals,⟨an,cn,rfl,hcn,hgn⟩,hvl,hvr⟩,hnu,htx,hrw⟩:=hd.ex
 obtain⟨au,cu,hau,hcu,hgu⟩:=id hnu
 obtain⟨at1,ct,hat,hgt⟩:=zbt htx
 obtain⟨ar,cr,har,hcr,hgr⟩:=id hrw
 rw[List.length_map]at hau har hcu hcr
 subst hau
 subst hat
 subst har
 refine enter Tryz.func34 Tryz.ntmps34 rfl rfl ?_
 refine go trivial ?_
 refine zan ?_
 intro w1 hE1 hs1 hA
 have p0:zad w1 (some ⟨w.heap.size,0,Option.none⟩)=some (vi d.ty):=zaa hA rfl
 have p1:zad w1 (some ⟨w.heap.size,1,Option.none⟩)=some (.slice an vals.length cn):=zaa hA rfl
 have p2:zad w1 (some ⟨w.heap.size,2,Option.none⟩)=some (.slice au d.nums.length cu):=zaa hA rfl
 have p3:zad w1 (some ⟨w.heap.size,3,Option.none⟩)=some (.slice at1 d.texts.length ct):=zaa hA rfl
 have p4:zad w1 (some ⟨w.heap.size,4,Option.none⟩)=some (.slice ar d.raw.length cr):=zaa hA rfl
 obtain⟨p,hp⟩:∃p,w.heap.size=p:=⟨_,rfl⟩
 rw[hp]at p0 p1 p2 p3 p4 hA ⊢
 refine go (an9 p0 (Nat.add_zero 0) (show decide (d.ty=1)=false from decide_eq_false (by omega)) (show decide (d.ty=28)=false from decide_eq_false (by omega)) (show decide (d.ty=16)=false from decide_eq_false (by omega)) (decide_eq_true ht) trivial trivial trivial) ?_
 obtain⟨m,n,hm,hn,htx2⟩:=tx_15 hf ht
 have hu1:d.nums.length=1:=by rw[hm];rfl
 have hn1:d.names.length=1:=by rw[hn];rfl
 have g0:=hgu 0 (by rw[List.length_map];omega)
 rw[List.getElem_map,show d.nums[0]=m from by simp[hm]]at g0
 obtain⟨xU,rfl⟩:=Option.isSome_iff_exists.1 (zaf g0)
 have g1:=hgn 0 (by omega)
 have hrow:=hvr 0 (by omega) (by omega)
 rw[show d.names[0]=n from by simp[hn]]at hrow
 obtain⟨xN,rfl⟩:=Option.isSome_iff_exists.1 (zaf g1)
 obtain⟨nv,hnv⟩:∃nv,vals[0]'(by omega)=nv:=⟨_,rfl⟩
 rw[hnv]at g1 hrow
 have hmv:=hS.nv m (by rw[hm];simp)
 obtain⟨k,rfl⟩:∃k:Nat,m=(k:Int):=⟨m.toNat,by omega⟩
 have hnS:=hS.names n (by rw[hn];simp)
 have hwc:IntKind.i64.wrap (k:Int)=(k:Int):=zbj (by omega) (by omega)
 have hvc:v32 (k:Int)= .int .u32 (k:Int):=rfl
 have i0:(0:Int)<(d.nums.length:Int):=by omega
 have i1:(0:Int)<(vals.length:Int):=by omega
 rw[zaC]at g0 g1
 refine za4 (fun _=>false) [(0,true),(1,true),(2,true),(3,true),(4,true),(7,true),(8,true),(9,true),(10,true),(5,false),(6,true),(11,false),(12,true),(13,true)] NoS mixed (by kernel_rfl) ?_;intro gd K x hgd hx hxe hK;have hx0:=za5 hxe;clear hxe
 have hEx:=hE1.trans hx0
 have q1:=zab hx0 p1
 have q2:=zab hx0 p2
 have u0:=zab hEx g0
 have u1:=zab hEx g1
 simp (disch:=first|omega|assumption|rfl) only[go_sem,q1,q2,u0,u1,i0,i1,hvc,hwc,Nat.zero_add,Int.toNat_zero,Nat.zero_mul,zaC]
 refine Fn.mono (zbG x k (by omega) (by omega)) ?_
 rintro _ y1 ⟨rfl,hy1⟩
 refine⟨.inr hy1.keep,?_⟩
 have hdl:=zbM 19 k (by omega)
 have a1:(Lib.decDigits k).length+([32]:List UInt8).length≤9223372036854775807:=by simp;omega
 simp (disch:=first|omega|assumption|rfl) only[go_sem,a1]
 refine Fn.mono (zcP y1 nv n (hrow.ext (hEx.trans hy1)) (fun l hl=>by have:=hnS.1 l hl;omega) hnS.2) ?_
 rintro _ y2 ⟨rfl,hy2⟩
 refine⟨.inr hy2.keep,?_⟩
 have htl2:=zc3 hnS.1 hnS.2
 have a2:(Lib.decDigits k++ [32]).length+(zbc n).length≤9223372036854775807:=by simp;omega
 simp (disch:=first|omega|assumption|rfl) only[go_sem,a2]
 refine hK _ _ ?_;clear hK hgd;clear K;try clear gd
 refine go trivial ?_
 refine rt0 Tryz.ntmps34 ?_
 exact⟨by rw[htx2];rfl,(hEx.trans hy1).trans hy2⟩
theorem zhb{w:World}{cs:List Value}{d:DatL}(hd:DatAt w cs d)(hT:DatT d)(hf:zaO d=true)(ht:¬(d.ty=1∨d.ty=28∨d.ty=16∨d.ty=15∨d.ty=2∨d.ty=5∨d.ty=12∨d.ty=39∨d.ty=6)):Fn Tryz.prog 34 #[.agg cs.toArray] w (fun v w'=>v=vs (za6 hexU d)∧Ext w w'):=by
 have hS:=hT.s
 have hnl:=hT.nn
 have hul:=hS.nu
 have htl:=hS.nt
 have hrl:=hS.nr
 obtain⟨nm,nu,tx,rw',rfl,⟨vals,⟨an,cn,rfl,hcn,hgn⟩,hvl,hvr⟩,hnu,htx,hrw⟩:=hd.ex
 obtain⟨au,cu,hau,hcu,hgu⟩:=id hnu
 obtain⟨at1,ct,hat,hgt⟩:=zbt htx
 obtain⟨ar,cr,har,hcr,hgr⟩:=id hrw
 rw[List.length_map]at hau har hcu hcr
 subst hau
 subst hat
 subst har
 refine enter Tryz.func34 Tryz.ntmps34 rfl rfl ?_
 refine go trivial ?_
 refine zan ?_
 intro w1 hE1 hs1 hA
 have p0:zad w1 (some ⟨w.heap.size,0,Option.none⟩)=some (vi d.ty):=zaa hA rfl
 have p1:zad w1 (some ⟨w.heap.size,1,Option.none⟩)=some (.slice an vals.length cn):=zaa hA rfl
 have p2:zad w1 (some ⟨w.heap.size,2,Option.none⟩)=some (.slice au d.nums.length cu):=zaa hA rfl
 have p3:zad w1 (some ⟨w.heap.size,3,Option.none⟩)=some (.slice at1 d.texts.length ct):=zaa hA rfl
 have p4:zad w1 (some ⟨w.heap.size,4,Option.none⟩)=some (.slice ar d.raw.length cr):=zaa hA rfl
 obtain⟨p,hp⟩:∃p,w.heap.size=p:=⟨_,rfl⟩
 rw[hp]at p0 p1 p2 p3 p4 hA ⊢
 refine go (an2 (an2 p0 (Nat.add_zero 0)) (an9 (show decide (d.ty=1)=false from decide_eq_false (by omega)) (show decide (d.ty=28)=false from decide_eq_false (by omega)) (show decide (d.ty=16)=false from decide_eq_false (by omega)) (show decide (d.ty=15)=false from decide_eq_false (by omega)) (show decide (d.ty=2)=false from decide_eq_false (by omega)) (show decide (d.ty=5)=false from decide_eq_false (by omega)) (show decide (d.ty=12)=false from decide_eq_false (by omega)) (show decide (d.ty=39)=false from decide_eq_false (by omega)) (show decide (d.ty=6)=false from decide_eq_false (by omega)))) ?_
 refine rc (an2 p4 (Nat.zero_add 4)) (zbG w1 d.raw.length (by omega) (by omega)) ?_
 rintro _ w2 ⟨rfl,hE2⟩
 have hdl:=zbM 19 d.raw.length (by omega)
 have p4':=zab hE2 p4
 have hE12:=hE1.trans hE2
 have a1:([92,35,32]:List UInt8).length+(Lib.decDigits d.raw.length).length≤9223372036854775807:=by simp;omega
 have a2:(([92,35,32]:List UInt8)++Lib.decDigits d.raw.length).length+([32]:List UInt8).length≤9223372036854775807:=by simp;omega
 have a3:(92::35::32::Lib.decDigits d.raw.length).length+([32]:List UInt8).length≤9223372036854775807:=by simp;omega
 have htx2:=tx_any hf ht
 obtain⟨hd0,hhd⟩:∃l,(([92,35,32]:Lab)++Lib.decDigits d.raw.length++if 0<d.raw.length then [32] else [])=l:=⟨_,rfl⟩
 have hhl:hd0.length≤100:=by rw[←hhd];split<;>simp<;>omega
 rw[hhd]at htx2
 by_cases h0:0<d.raw.length
 all_goals
  first
   |rw[if_pos h0]at hhd
   |rw[if_neg h0,List.append_nil]at hhd
  have hz:decide ((0:Int)<(d.raw.length:Int))=decide (0<d.raw.length):=decide_eq_decide.2 (by omega)
  first
   |rw[decide_eq_true h0]at hz
   |rw[decide_eq_false h0]at hz
  refine rgo (an6 p4' (Nat.zero_add 4) a1 a2 hz a3) ?_
  refine zbh d.raw.length (fun i σ v=>(σ 1= .pointer (some ⟨p,0,Option.none⟩)∧σ 10=vi i∧σ 9=vs (hd0++hexT (d.raw.take i)))∧Ext w2 v) ?_ ?_ ?_
  ·exact⟨⟨vr0,vr0,by rw[List.take_zero,show hexT []=[] from rfl,List.append_nil,←hhd];first| (simp only[go_sem];done)| (simp only[go_sem];rfl)⟩,Keep.refl _ _⟩
  ·rintro i σ v hi ⟨r1,r2,r3,r4⟩ ⟨⟨s1,s10,s9⟩,hE⟩
   have hEv:=hE12.trans hE
   have q:=zab hE p4'
   have g0:=hgr i (by rw[List.length_map];exact hi)
   rw[List.getElem_map]at g0
   obtain⟨xT,rfl⟩:=Option.isSome_iff_exists.1 (zaf g0)
   have g:=zab hEv g0
   obtain⟨c,hx⟩:∃c,d.raw[i]=c:=⟨_,rfl⟩
   rw[hx]at g
   have hcl:=c.toNat_lt
   have hbc:zal c= .int .u8 (c.toNat:Int):=rfl
   have hwc:IntKind.i64.wrap (c.toNat:Int)=(c.toNat:Int):=zbj (by omega) (by omega)
   have htk:hexT (d.raw.take (i+1))=hexT (d.raw.take i)++hexB c:=by
    rw[zak hi,hx]
    unfold hexT
    rw[List.flatMap_append]
    simp
   have hlen:(hexT (d.raw.take i)).length≤4000:=by rw[hexT_two,List.length_take];omega
   have a3:(hd0++hexT (d.raw.take i)).length+(hexB c).length≤9223372036854775807:=by have:(hexB c).length=2:=rfl;rw[List.length_append];omega
   refine go (an6 s1 s10 s9 q (Nat.zero_add 4) r1) ?_
   refine rq ?_;intro gd K hgd hK
   try simp (disch:=first|omega|assumption|rfl) only[go_sem,s1,s10,s9,q,Nat.zero_add,r2,r3,g,hbc,hwc]
   refine Fn.mono (zhd v (n:=c.toNat) (wd:=2) (by omega) (by decide)) ?_
   rintro _ y1 ⟨rfl,hy1⟩
   rw[hexR_two (by omega),show([hexD (c.toNat / 16),hexD (c.toNat % 16)]:Lab)=hexB c from rfl]
   try simp (disch:=first|omega|assumption|rfl) only[go_sem,s9,a3]
   refine hK _ _ ?_;clear hK hgd;clear K;try clear gd
   refine go (an3 s1 s10 r4) ?_
   exact⟨rfl,⟨(vq1 s1),(vq1 r4),by rw[htk,←List.append_assoc];first| (simp only[go_sem];done)| (simp only[go_sem];rfl)⟩,hE.trans hy1⟩
  ·rintro σ v r ⟨⟨s1,s10,s9⟩,hE⟩
   have q:=zab hE p4'
   rw[List.take_length]at s9
   refine go (an6 s1 s10 s9 q (Nat.zero_add 4) r) ?_
   refine rt1 s9 Tryz.ntmps34 ?_
   exact⟨by rw[htx2],hE12.trans hE⟩
theorem zf1{w:World}{cs:List Value}{d:DatL}(hd:DatAt w cs d)(hT:DatT d)(hf:zaO d=true)(ht:d.ty=28):Fn Tryz.prog 34 #[.agg cs.toArray] w (fun v w'=>v=vs (za6 hexU d)∧Ext w w'):=by
 have hS:=hT.s
 have hnl:=hT.nn
 have hul:=hS.nu
 have htl:=hS.nt
 have hrl:=hS.nr
 obtain⟨nm,nu,tx,rw',rfl,⟨vals,⟨an,cn,rfl,hcn,hgn⟩,hvl,hvr⟩,hnu,htx,hrw⟩:=hd.ex
 obtain⟨au,cu,hau,hcu,hgu⟩:=id hnu
 obtain⟨at1,ct,hat,hgt⟩:=zbt htx
 obtain⟨ar,cr,har,hcr,hgr⟩:=id hrw
 rw[List.length_map]at hau har hcu hcr
 subst hau
 subst hat
 subst har
 refine enter Tryz.func34 Tryz.ntmps34 rfl rfl ?_
 refine go trivial ?_
 refine zan ?_
 intro w1 hE1 hs1 hA
 have p0:zad w1 (some ⟨w.heap.size,0,Option.none⟩)=some (vi d.ty):=zaa hA rfl
 have p1:zad w1 (some ⟨w.heap.size,1,Option.none⟩)=some (.slice an vals.length cn):=zaa hA rfl
 have p2:zad w1 (some ⟨w.heap.size,2,Option.none⟩)=some (.slice au d.nums.length cu):=zaa hA rfl
 have p3:zad w1 (some ⟨w.heap.size,3,Option.none⟩)=some (.slice at1 d.texts.length ct):=zaa hA rfl
 have p4:zad w1 (some ⟨w.heap.size,4,Option.none⟩)=some (.slice ar d.raw.length cr):=zaa hA rfl
 obtain⟨p,hp⟩:∃p,w.heap.size=p:=⟨_,rfl⟩
 rw[hp]at p0 p1 p2 p3 p4 hA ⊢
 refine go (an9 p0 (Nat.add_zero 0) (show decide (d.ty=1)=false from decide_eq_false (by omega)) (decide_eq_true ht) trivial trivial trivial trivial trivial) ?_
 obtain⟨hr16,htx2⟩:=tx_28 hf ht
 obtain⟨L,hL⟩:∃L,(List.range 8).map (zdQ d.raw)=L:=⟨_,rfl⟩
 have hL8:L.length=8:=by rw[←hL];rfl
 have hLi:∀i (h:i<L.length),L[i]=zdQ d.raw i:=fun i h=>by
  have h2:L[i]? =some (zdQ d.raw i):=by
   rw[←hL,List.getElem?_map,List.getElem?_range (by omega)]
   rfl
  rw[List.getElem?_eq_getElem h]at h2
  exact Option.some.inj h2
 rw[hL]at htx2
 have e16:(d.raw.length:Int)=16:=by omega
 rw[hr16]at p4
 refine zbh 8 (fun i σ v=>(σ 1= .pointer (some ⟨p,0,Option.none⟩)∧σ 5=vi (2*i:Nat)∧∃sv,σ 3=sv∧Own w1.heap.size v 9 sv ((L.take i).map vs))∧Ext w1 v) ?_ ?_ ?_
 ·exact⟨⟨vr0,vr0,_,vr0,Own.nil _ _ _⟩,Keep.refl _ _⟩
 ·rintro i σ v hi _ ⟨⟨s1,s4,sv,s3,hown⟩,hE⟩
  have hEv:=hE1.trans hE
  have hsE:=hE.size
  have hsE1:=hE1.size
  have q:=zab hE p4
  have ga:=hgr (2*i) (by rw[List.length_map];omega)
  have gb:=hgr (2*i+1) (by rw[List.length_map];omega)
  rw[List.getElem_map]at ga gb
  obtain⟨xT,rfl⟩:=Option.isSome_iff_exists.1 (zaf ga)
  obtain⟨xa,hxa⟩:∃x,adr (some xT) (2*i)=some x:=⟨_,rfl⟩
  obtain⟨xb,hxb⟩:∃x,adr (some xT) (2*i+1)=some x:=⟨_,rfl⟩
  rw[hxa]at ga
  rw[hxb]at gb
  have la:=zcD ga
  have lb:=zcD gb
  obtain⟨ca,hca⟩:∃c,d.raw[2*i]'(by omega)=c:=⟨_,rfl⟩
  obtain⟨cb,hcb⟩:∃c,d.raw[2*i+1]'(by omega)=c:=⟨_,rfl⟩
  rw[hca]at ga
  rw[hcb]at gb
  have hpu:zdQ d.raw i=hexU (ca.toNat*256+cb.toNat):=by
   unfold zdQ
   rw[List.getD_eq_getElem?_getD,List.getElem?_eq_getElem (show 2*i<d.raw.length by omega),List.getD_eq_getElem?_getD,List.getElem?_eq_getElem (show 2*i+1<d.raw.length by omega),hca,hcb]
   rfl
  have hal:=ca.toNat_lt
  have hbl:=cb.toNat_lt
  have hbca:zal ca= .int .u8 (ca.toNat:Int):=rfl
  have hbcb:zal cb= .int .u8 (cb.toNat:Int):=rfl
  have hwa:IntKind.i64.wrap (ca.toNat:Int)=(ca.toNat:Int):=zbj (by omega) (by omega)
  have hwb:IntKind.i64.wrap (cb.toNat:Int)=(cb.toNat:Int):=zbj (by omega) (by omega)
  have hwm:IntKind.i64.wrap ((ca.toNat:Int)*256)=((ca.toNat*256:Nat):Int):=by rw[zbj (by omega) (by omega)];omega
  have hwd:IntKind.i64.wrap (((ca.toNat*256:Nat):Int)+(cb.toNat:Int))=((ca.toNat*256+cb.toNat:Nat):Int):=by rw[zbj (by omega) (by omega)];omega
  have i1:((2*i:Nat):Int)+1=((2*i+1:Nat):Int):=by omega
  have i2:((2*i:Nat):Int)+2=((2*(i+1):Nat):Int):=by omega
  have j0:(0:Int)≤((2*i:Nat):Int):=by omega
  have j1:(0:Int)≤((2*i+1:Nat):Int):=by omega
  have j2:((2*i:Nat):Int)<((16:Nat):Int):=by omega
  have j3:((2*i+1:Nat):Int)<((16:Nat):Int):=by omega
  have t1:((2*i:Nat):Int).toNat=2*i:=rfl
  have t2:((2*i+1:Nat):Int).toNat=2*i+1:=rfl
  refine go (an9 s1 s4 s3 q (Nat.zero_add 4) i1 (decide_eq_true j3) trivial trivial) ?_
  refine za4 (fun _=>false) [(0,true),(1,true),(2,true),(3,true),(4,true),(5,true),(6,true),(7,true),(8,true),(9,true),(10,true),(11,true),(12,true),(13,true),(14,true),(15,true),(16,false),(17,false),(18,false),(19,true)] (zbS w1.heap.size) mixed (by kernel_rfl) ?_;intro gd K x hgd hx hxe hK;have hx0:=za5 hxe;clear hxe
  have hxs:=hx0.size
  have qx:=zab hx0 q
  have gax:=zab (hEv.trans hx0) ga
  have gbx:=zab (hEv.trans hx0) gb
  simp (disch:=first|omega|assumption|rfl) only[go_sem,s1,s3,s4,qx,gax,gbx,i1,j0,j1,j2,j3,t1,t2,hxa,hxb,Nat.zero_add,Nat.mul_one,hbca,hbcb,hwa,hwb,hwm,hwd]
  refine⟨zaP (by omega),zgB (by omega),zaP (by omega),zgB (by omega),?_⟩
  refine Fn.mono (zhd x (n:=ca.toNat*256+cb.toNat) (wd:=1) (by omega) (by decide)) ?_
  rintro _ y1 ⟨rfl,hy1⟩
  refine⟨.inr hy1.keep,?_⟩
  rw[hexR_one,←hpu]
  simp (disch:=first|omega|assumption|rfl) only[go_sem]
  refine zaK (z:=vs []) rfl rfl rfl rfl rfl ?_
  intro y2 hy2 hys2 hyo
  refine⟨.inr hy2.keep,?_⟩
  simp (disch:=first|omega|assumption|rfl) only[go_sem]
  have hxy:=(hx0.trans hy1).trans hy2
  have hsxy:=hxy.size
  refine zaG (B:=w1.heap.size) (hown.ext hxy) hyo.row rfl rfl rfl rfl rfl rfl ((vr1 s3)) (vr0) (fun q hq=>by rw[List.mem_singleton.1 hq];rfl) (by simp;omega) (by decide) (by omega) ?_
  intro sv' y3 hown3 hX3 hK3 hb3
  refine⟨.inr (hK3.mono fun b _ hb=>by have:=(hown.ge hb).1;show _≤_;omega),?_⟩
  simp (disch:=first|omega|assumption|rfl) only[go_sem]
  refine hK _ _ ?_;clear hK hgd;clear K;try clear gd
  refine go (an3 s1 s4 i2) ?_
  refine⟨rfl,⟨(vq1 s1),(vq1 i2),sv',vr0,?_⟩,hX3 w1 (hE.trans hxy) (Nat.le_refl _)⟩
  have hiL:i<L.length:=by omega
  rw[zak hiL,List.map_append,hLi i hiL]
  exact hown3
 rintro σ v _ ⟨⟨s1,s4,sv,s3,hown⟩,hE⟩
 have q:=zab hE p4
 rw[List.take_of_length_le (show L.length≤8 by omega)]at hown
 have i1:((2*8:Nat):Int)+1=17:=rfl
 have d1:decide ((17:Int)<((16:Nat):Int))=false:=rfl
 refine go (an6 s1 s4 s3 q (Nat.zero_add 4) (an2 i1 d1)) ?_
 have hlens:zaq L≤1000000000000:=by
  rw[←hL]
  have:=za1 (m:=10) (l:=List.range 8) (f:=zdQ d.raw) fun i _=>by
   unfold zdQ
   have h1:=((d.raw.getD (2*i) 0).toNat_lt)
   have h2:=((d.raw.getD (2*i+1) 0).toNat_lt)
   have:=zdX 3 ((d.raw.getD (2*i) 0).toNat*256+(d.raw.getD (2*i+1) 0).toNat) (by omega)
   omega
  rw[List.length_range]at this
  omega
 refine rc s3 (zb4 hown.row (sep:=[58]) (by decide) (by omega) hlens) ?_
 rintro _ y ⟨rfl,hy⟩
 refine rgo trivial ?_
 refine rt0 Tryz.ntmps34 ?_
 exact⟨by rw[htx2],(hE1.trans hE).trans hy⟩
theorem zet{w:World}{cs:List Value}{d:DatL}(hd:DatAt w cs d)(hT:DatT d)(hf:zaO d=true):Fn Tryz.prog 34 #[.agg cs.toArray] w (fun v w'=>v=vs (za6 hexU d)∧Ext w w'):=by
 by_cases h1:d.ty=1
 ·exact zhc hd hT hf h1
 by_cases h28:d.ty=28
 ·exact zf1 hd hT hf h28
 by_cases h16:d.ty=16
 ·exact zf2 hd hT hf h16
 by_cases h15:d.ty=15
 ·exact zf3 hd hT hf h15
 by_cases hn:d.ty=2∨d.ty=5∨d.ty=12∨d.ty=39∨d.ty=6
 ·exact zha hd hT hf hn
 ·exact zhb hd hT hf (by omega)
set_option maxRecDepth 100000
theorem zfT{d:DatL}(h:zbz d=0):zaO d=true:=by
 unfold zbz at h
 split at h
 ·cases h
 ·split at h
  ·cases h
  ·rename_i h2
   simpa using h2
theorem zf8{W:World}(hX:WX W)(hY:WY W){cs:List Value}{d:DatL}(hd:DatAt W cs d)(hN:NumsD d):Fn Tryz.prog 8 #[.agg cs.toArray] W (fun v w'=>v= .bool true∧Ext W w'):=by
 obtain⟨hl5,h1⟩:=zbN hd
 refine enter Tryz.func8 Tryz.ntmps8 rfl rfl ?_
 refine go trivial ?_
 refine zan ?_
 intro w1 hE1 hs1 hA
 obtain⟨p,hp⟩:∃p,W.heap.size=p:=⟨_,rfl⟩
 rw[hp]at hA ⊢
 refine go trivial ?_
 refine rc trivial (zhh (hX.ext hE1) (hY.ext hE1)) ?_
 rintro _ w2 ⟨rfl,hE2⟩
 refine rgo trivial ?_
 have hE02:=hE1.trans hE2
 have q2:=zam (n:=5) (Ext.at hE2 hA) (by simp[hl5])
 refine rc q2 (DFew_ok hE02 hd) ?_
 rintro _ w3 ⟨hE3,b,rfl,hb⟩
 cases b with
 |false=>
  refine rgo trivial ?_
  refine rt0 Tryz.ntmps8 ?_
  exact⟨rfl,hE02.trans hE3⟩
 |true=>
 have hF:=hb rfl
 obtain⟨hT,hO,_,_⟩:=few_D hF hN
 have hE03:=hE02.trans hE3
 have q3:=zaj hE3 q2
 refine rgo trivial ?_
 refine rc q3 (DOf_ok hE03 hd hF.nn) ?_
 rintro _ w4 ⟨hE4,csx,nmx,rfl,hdx⟩
 have hE04:=hE03.trans hE4
 refine rd trivial (zf5 (hdx.at hE04) hT) ?_
 rintro _ w5 ⟨rfl,hE5⟩
 have hE05:=hE04.trans hE5
 have q5:=zaj (hE4.trans hE5) q3
 obtain⟨e,he⟩:∃e,zbz d=e:=⟨_,rfl⟩
 rw[he]
 refine rgo trivial ?_
 refine zav (Q:=fun e' σ' ds' v'=>e'= .normal∧ds'=[]∧σ' 2= .bool true∧Ext w5 v') ?_ ?_
 ·refine za4 (fun _=>false) [(0,true),(2,true),(1,false),(3,true),(4,true),(5,true),(6,true),(7,true),(8,true),(10,true),(9,false),(11,false),(12,false),(13,true),(14,true),(15,true),(16,true)] NoS mixed (by kernel_rfl) ?_;intro gd K x hgd hx hxe hK;have hx0:=za5 hxe;clear hxe
  have hg4:∀n σ b,zaw gd n σ (some (4,b))=zao (ev n σ (.tmp 16)) b:=(fun n σ b=>by rw[zai,show gd 4=some 16 from(by rw[hgd];rfl)];rfl);have hg7:∀n σ b,zaw gd n σ (some (7,b))=zao (ev n σ (.tmp 19)) b:=(fun n σ b=>by rw[zai,show gd 7=some 19 from(by rw[hgd];rfl)];rfl)
  have hE0x:=hE05.trans hx0
  have qx:=zaj hx0 q5
  have ee:decide (e=e)=true:=decide_eq_true rfl
  simp (disch:=first|omega|assumption|rfl) only[go_sem,qx,↓hg4,↓hg7]
  refine Fn.mono (zdw (hd.ext hE0x) hT) ?_
  rintro _ y1 ⟨rfl,hy1⟩
  rw[he]
  refine⟨.inr hy1.keep,?_⟩
  by_cases h0:e=0
  rotate_left
  ·simp (disch:=first|omega|assumption|rfl) only[go_sem,ee,decide_eq_false h0,Bool.not_false,Bool.not_true,↓hg4,↓hg7]
   refine hK _ _ ?_;clear hK hgd;clear K;try clear gd
   exact⟨rfl,rfl,vr0,hx0.trans hy1⟩
  subst h0
  have hf:=zfT he
  have e0:decide ((0:Int)=0)=true:=rfl
  have qy:=zaj hy1 qx
  simp (disch:=first|omega|assumption|rfl) only[go_sem,e0,qy,Bool.not_true,Bool.not_false,↓hg4,↓hg7]
  have hE1y:=hE0x.trans hy1
  refine Fn.mono (zbo (hY.ext hE1y) (hd.ext hE1y) hT) ?_
  rintro _ y2 ⟨rfl,hy2⟩
  refine⟨.inr hy2.keep,?_⟩
  simp (disch:=first|omega|assumption|rfl) only[go_sem,↓hg4,↓hg7]
  have hE2y:=hE1y.trans hy2
  refine Fn.mono (DOf_ok hE2y hd hF.nn) ?_
  rintro _ y3 ⟨hy3,csb,nmb,rfl,hdb⟩
  refine⟨.inr hy3.keep,?_⟩
  simp (disch:=first|omega|assumption|rfl) only[go_sem,↓hg4,↓hg7]
  refine Fn.mono (zet (hdb.at (hE2y.trans hy3)) hT hf) ?_
  rintro _ y4 ⟨rfl,hy4⟩
  refine⟨.inr hy4.keep,?_⟩
  have et:decide (za6 hexU d=za6 hexU d)=true:=decide_eq_true rfl
  simp (disch:=first|omega|assumption|rfl) only[go_sem,et,↓hg4,↓hg7]
  refine hK _ _ ?_;clear hK hgd;clear K;try clear gd
  exact⟨rfl,rfl,vr0,(((hx0.trans hy1).trans hy2).trans hy3).trans hy4⟩
 rintro _ σ1 _ w6 ⟨rfl,rfl,s2,hE6⟩
 refine go s2 ?_
 refine rt1 s2 Tryz.ntmps8 ?_
 exact⟨rfl,hE05.trans hE6⟩
end Go.Proofs.YtanmnkbccfcagaaGreatDoor
