/-
  Texts of a proof, joined: T1bool, T2bool, T3bool, M1bool, M2, L1, M3b, M3, T4bool, T5bool, T6bool, H1bool, A1, A2.
  Conditions: none.
-/
import Derived.Test.YtopbbjdembnfdaaGreatJS02
import Derived.Test.YtopbbjdembnfdaaGreatProg
import Derived.Ground.SlsfProg
import Derived.Shelf.SlSortCmp.NoneTotal
import Derived.Test.YtopbbjdembnfdaaGreatJS03
import Derived.Test.YtopbbjdembnfdaaGreatJS07
import Derived.Test.YtopbbjdembnfdaaGreatJS06
set_option linter.unusedVariables false
set_option linter.unusedSimpArgs false
set_option linter.defProp false
set_option linter.unnecessarySimpa false
namespace Go.Proofs.YtopbbjdembnfdaaGreat.T_bool
open Go Go.Proofs.YtopbbjdembnfdaaGreat
set_option maxRecDepth 10000
theorem zhk(w:World):Fn Tryz.prog 202 #[] w (fun v w'=>v=zaq (w.heap.size+1)∧w'=(w.alloc (.map #[] 0)).alloc (.cells #[.map (some w.heap.size),(.bool false),.bool false] 297)):=by
 refine enter Tryz.func202 Tryz.ntmps202 rfl rfl ?_
 repeat refine c_r ?_
 refine rg0 ?_
 repeat refine c_r ?_
 refine rq ?_;intro gd K hgd hK
 try simp only[go_sem]
 refine⟨by kernel_rfl,?_⟩
 rw[show bdV Tryz.prog 297 [(0,.map (some w.heap.size))]=some (.agg #[.map (some w.heap.size),(.bool false),.bool false]) from by kernel_rfl]
 try simp only[go_sem]
 refine hK _ _ ?_;clear hK hgd;clear K;try clear gd
 repeat refine c_r ?_
 refine rt0 Tryz.ntmps202 ?_
 simp[zaq]
abbrev TAt:=TreeAt 259 297
abbrev TOk:=TSok (.bool false)
def ts0(B:Nat):TS:={names:=[[]],val:=fun _=>(.bool false),has:=fun _=>false,nb:=fun _=>B+1,mb:=fun _=>B}
theorem New_ok(w:World):Fn Tryz.prog 161 #[] w (fun v w'=>v=zaq (w.heap.size+2)∧Ext w w'∧TOk (ts0 w.heap.size)∧TAt w' (w.heap.size+2) (ts0 w.heap.size)):=by
 refine enter Tryz.func161 Tryz.ntmps161 rfl rfl ?_
 repeat refine c_r ?_
 refine rg0 ?_
 repeat refine c_r ?_
 refine rq ?_;intro gd K hgd hK
 try simp only[go_sem]
 refine Fn.mono (zhk w) ?_
 rintro _ w1 ⟨rfl,rfl⟩
 try simp only[go_sem]
 refine⟨by kernel_rfl,?_⟩
 rw[show bdV Tryz.prog 259 [(0,zaq (w.heap.size+1)),(1,.int .i64 1)]=some (.agg #[zaq (w.heap.size+1),.int .i64 1]) from by kernel_rfl]
 try simp only[go_sem]
 refine hK _ _ ?_;clear hK hgd;clear K;try clear gd
 repeat refine c_r ?_
 refine rt0 Tryz.ntmps161 ?_
 have hE:=((Ext.alloc w (.map #[] 0)).trans (Ext.alloc _ (.cells #[.map (some w.heap.size),(.bool false),.bool false] 297))).trans (Ext.alloc _ (.cells #[zaq (w.heap.size+1),.int .i64 1] 259))
 refine⟨by simp[zaq],hE,⟨by simp[ts0],by simp[ts0],by simp[ts0],by simp[ts0],by simp[ts0],fun _=>rfl,fun _ _=>⟨rfl,rfl⟩⟩,?_,?_,?_⟩
 ·have:=zal ((w.alloc (.map #[] 0)).alloc (.cells #[.map (some w.heap.size),(.bool false),.bool false] 297)) (.cells #[zaq (w.heap.size+1),.int .i64 1] 259)
  simp only[World.size_alloc]at this
  exact this
 ·intro f hf
  have:=zal (w.alloc (.map #[] 0)) (.cells #[.map (some w.heap.size),(.bool false),.bool false] 297)
  simp only[World.size_alloc]at this
  exact(RowKit.Below.heap_alloc _ _ _ (by simp[ts0])).trans this
 ·intro f hf
  simp only[ts0,List.mem_singleton]at hf
  subst hf
  exact(ziN w).block ((RowKit.Below.heap_alloc _ _ _ (by simp;omega)).trans (RowKit.Below.heap_alloc _ _ _ (by simp)))
def encD(s:TS)(f:Nm)(k:Nat)(_:World)(args:Array Value):Prop:=args=#[vi k,zaq (s.nb (sfx f k))]
theorem zgz{m:Nat}{i:Nat}(h:i<m):∃suf,List.range m=List.range i++i::suf:=by
 refine⟨(List.range m).drop (i+1),?_⟩
 have:=zbS (l:=List.range m) (i:=i) (by simpa using h)
 rw[List.take_range,Nat.min_eq_left (by omega)]at this
 simpa using this
theorem down1_ok{W00 W0:World}{n0:Nat}{C:Nat→Prop}{b1 b2 tb:Nat}{s:TS}{n:Nm}{nv:Value}(hT:TAt W00 tb s)(hs:TOk s)(hr:Row W00 nv (n.map vs))(hn:LB n)(hlen:n.length≤9000000000000000000)
  (hE:Ext W00 W0) (hC:∀b,C b→W00.heap.size≤b) (hn0:W00.heap.size≤n0)
  (h1:W0.cell? ⟨b1,0,Option.none⟩=some (zaq tb)) (h1n:b1<n0) (h1C:¬C b1) (h2:W0.cell? ⟨b2,0,Option.none⟩=some nv) (h2n:b2<n0) (h2C:¬C b2):
  Iter Tryz.prog 245 #[zaq b1,zaq b2] W0 n0 C (List.range (dep s.names (zah n)+1)) (encD s (zah n)):=by
 intro lp J Jx W hW hnW hJ hJx hY h0
 have hfl:(zah n).length=n.length:=zax n
 have hdl:=zga s.names (zah n)
 generalize hd:dep s.names (zah n)=d at*
 have fact:∀A,KeepB n0 C W A→TAt A tb s∧Row A nv (n.map vs)∧A.cell? ⟨b1,0,Option.none⟩=some (zaq tb)∧A.cell? ⟨b2,0,Option.none⟩=some nv:=fun A hA=>by
  have hEA:=KeepB.to_ext (hE.trans hW) hA hn0 hC
  exact⟨hT.ext hEA,hr.ext hEA,zb3 hA h1n h1C (zdh hW h1),zb3 hA h2n h2C (zdh hW h2)⟩
 obtain⟨hT1,hr1,hc1,hc2⟩:=fact W (KeepB.refl _ _ _)
 have hroot:zai W (some ⟨tb,0,Option.none⟩)=some (zaq (s.nb [])):=by
  show W.cell? _=_
  rw[zaz hT1.root];rfl
 have hc1':zai W (some ⟨b1,0,Option.none⟩)=some (zaq tb):=hc1
 unfold zaq at hc1' hroot
 refine enter Tryz.func245 Tryz.ntmps245 rfl rfl ?_
 repeat refine c_r ?_
 refine rq ?_;intro gd K hgd hK;simp (disch:=first|omega|assumption|rfl) only[go_sem,zaq,hc1',hroot];refine hK _ _ ?_;clear hK hgd;clear K gd
 repeat refine c_r ?_
 refine rg0 ?_
 repeat refine c_r ?_
 refine zaj (fun m σ ds v=>ds=[]∧∃i,i+m=d+1∧σ 5=vi i∧σ 0= .func (.yield lp) #[] #[]∧σ 1=zaq b1∧σ 2=zaq b2∧J (List.range i) v∧KeepB n0 C W v∧
  ((i≤d∧σ 4=zaq (s.nb (sfx (zah n) i)))∨(i=d+1∧σ 4= .pointer Option.none))) (d+1) ?_ ?_
 ·refine⟨rfl,0,by omega,?_,?_,?_,?_,h0,KeepB.refl _ _ _,.inl ⟨by omega,?_⟩⟩
  ·simp only[go_sem];rfl
  ·simp only[go_sem]
  ·simp only[go_sem]
  ·simp only[go_sem]
  ·rw[zg2];simp only[go_sem]
 ·rintro m σ ds v ⟨rfl,i,him,h5,hf0,hf1,hf2,hj,hK0,hat⟩
  obtain⟨hTv,hrv,hcv1,hcv2⟩:=fact v hK0
  repeat refine c_r ?_
  refine rq ?_;intro gd K hgd hK
  have hg2:∀n σ b,zas gd n σ (some (2,b))=zak (ev n σ (.tmp 12)) b:=(fun n σ b=>by rw[zac,show gd 2=some 12 from(by rw[hgd];rfl)];rfl);have hg8:∀n σ b,zas gd n σ (some (8,b))=zak (ev n σ (.tmp 18)) b:=(fun n σ b=>by rw[zac,show gd 8=some 18 from(by rw[hgd];rfl)];rfl)
  rcases hat with ⟨hid,h4⟩| ⟨hid,h4⟩
  ·have h4p:=h4
   unfold zaq at h4p
   simp (disch:=first|omega|assumption|rfl) only[go_sem,h5,hf0,h4p,↓hg2,↓hg8]
   obtain⟨suf,hsuf⟩:=zgz (m:=d+1) (i:=i) (by omega)
   have hrs:List.range i++ [i]=List.range (i+1):=(List.range_succ).symm
   refine Yld.mono (hY (List.range i) i suf v _ hsuf hj hK0 rfl) ?_
   rintro u z (⟨rfl,hj',hk'⟩| ⟨rfl,hjx⟩)
   ·have hK1:=hK0.trans hk'
    obtain⟨hTz,hrz,hcz1,hcz2⟩:=fact z hK1
    rw[hrs]at hj'
    obtain⟨a,ca,hnv,hca,hla⟩:=hrz
    simp only[List.length_map]at hnv hca hla
    have hcz2':zai z (some ⟨b2,0,Option.none⟩)=some (.slice a n.length ca):=by rw[←hnv];exact hcz2
    try simp (disch:=first|omega|assumption|rfl) only[go_sem,h5,hf0,hf2,zaq,hcz2',↓hg2,↓hg8]
    refine hK _ _ ?_;clear hK hgd;clear K;try clear gd
    repeat refine c_r ?_
    refine wc0 ?_ ?_
    ·intro hlt
     simp only[decide_eq_true_eq]at hlt
     repeat refine c_r ?_
     refine zaG (fun _=>false) [(0,true),(1,true),(2,true),(3,true),(4,true),(5,true),(6,true),(7,true),(8,true),(9,true),(10,true),(11,true),(12,false),(13,true),(14,true)] NoS mixed (by kernel_rfl) ?_;intro gd K x hgd hx hxe hK;clear hxe
     have hKy:=hK1.trans (hx.toB (Nat.le_trans hnW hK1.size) (fun _ _ h=>h.elim))
     have hsy:=Nat.le_trans hnW hKy.size
     obtain⟨hTx,hrx,hcx1,hcx2⟩:=fact _ hKy
     have hla':=fun j h=>zab hx (hla j h)
     have hsa:a.isSome=true:=zad (hla 0 (by omega))
     have hcx2':zai x (some ⟨b2,0,Option.none⟩)=some (.slice a n.length ca):=by rw[←hnv];exact hcx2
     have hin:sfx (zah n) i∈s.names:=zin hs (by omega)
     have hkids:zai x (some ⟨s.nb (sfx (zah n) i),0,Option.none⟩)=some (.map (some (s.mb (sfx (zah n) i)))):=by
      show x.cell? _=_
      rw[zaz (hTx.node _ hin)];rfl
     have hix:((n.length:Int) - 1 - i).toNat=n.length - 1 - i:=by omega
     simp (disch:=first|omega|assumption|rfl) only[go_sem,h4p,h5,hf0,hf2,zaq,hcx2',hkids,hix,hla',List.getElem_map]
     refine Fn.mono (zci _ _ (LB.get hn _)) ?_
     rintro _ y ⟨rfl,hy⟩
     refine⟨.inr hy,?_⟩
     have hKy:=hKy.trans (hy.toB hsy (fun _ _ h=>h.elim))
     have hTy:=(fact y hKy).1
     have hlk:=(hTy.map _ hin).lk (P:=Tryz.prog) (t:=295) (kt:=9) (et:=257) (z:= .pointer Option.none) rfl rfl rfl (zaO n[n.length - 1 - i])
     have hlab:zaO n[n.length - 1 - i]::sfx (zah n) i=sfx (zah n) (i+1):=by
      rw[zg3 (by omega)];simp[zah]
     rw[zdv,hlab]at hlk
     simp (disch:=first|omega|assumption|rfl) only[go_sem,hlk]
     refine⟨fun _ _ h=>h,?_⟩
     refine hK _ _ ?_;clear hK hgd;clear K;try clear gd
     repeat refine c_r ?_
     refine rg1 h5 ?_
     repeat refine c_r ?_
     refine⟨m - 1,by omega,rfl,i+1,by omega,by simp only[go_sem];rfl,(vq1 hf0),(vq1 hf1),(vq1 hf2),hJ _ _ _ hj' (hx.trans hy),hKy,?_⟩
     by_cases hup:i+1≤d
     ·rw[if_pos (zin hs (by omega))]
      exact .inl ⟨hup,by simp only[go_sem];rfl⟩
     ·rw[if_neg (zgv hs (by omega) (by omega))]
      exact .inr ⟨by omega,by simp only[go_sem];rfl⟩
    ·intro hge
     simp only[decide_eq_false_iff_not]at hge
     repeat refine c_r ?_
     have hi:i=d:=by omega
     subst hi
     exact zar (by simp) rfl (.inl hj')
   ·try simp (disch:=first|omega|assumption|rfl) only[go_sem,h5,hf0,hf2,↓hg2,↓hg8]
    refine hK _ _ ?_;clear hK hgd;clear K;try clear gd
    repeat refine c_r ?_
    refine wc0 ?_ ?_
    ·intro h;simp at h
    ·intro _
     repeat refine c_r ?_
     exact zar (by simp) rfl (.inr ⟨_,_,_,hsuf,hjx⟩)
  ·try simp (disch:=first|omega|assumption|rfl) only[go_sem,h5,hf0,h4,↓hg2,↓hg8]
   refine hK _ _ ?_;clear hK hgd;clear K;try clear gd
   repeat refine c_r ?_
   refine wc0 ?_ ?_
   ·intro h;simp at h
   ·intro _
    repeat refine c_r ?_
    subst hid
    exact zar (by simp) rfl (.inl hj)
theorem down_ok{W00 w:World}{tb:Nat}{s:TS}{n:Nm}{nv:Value}(hT:TAt W00 tb s)(hs:TOk s)(hr:Row W00 nv (n.map vs))(hn:LB n)(hlen:n.length≤9000000000000000000)(hE:Ext W00 w):
  Fn Tryz.prog 231 #[zaq tb,nv] w (fun v w'=>Ext w w'∧∃cap,v= .func (.func 245) #[] cap∧
   ∀C:Nat→Prop,(∀b,C b→W00.heap.size≤b∧b<w.heap.size)→Iter Tryz.prog 245 cap w' w'.heap.size C (List.range (dep s.names (zah n)+1)) (encD s (zah n))):=by
 obtain⟨a,ca,rfl,hca,hla⟩:=id hr
 simp only[List.length_map]at*
 refine enter Tryz.func231 Tryz.ntmps231 rfl rfl ?_
 repeat refine c_r ?_
 refine rg0 ?_
 repeat refine c_r ?_
 refine rg0 ?_
 repeat refine c_r ?_
 refine rt0 Tryz.ntmps231 ?_
 have hE1:=(Ext.alloc w (.cells #[zaq tb] 195)).trans (Ext.alloc _ (.cells #[.slice a n.length ca] 23))
 refine⟨hE1,_,rfl,fun C hC=>?_⟩
 have e1:(w.alloc (.cells #[zaq tb] 195)).heap.size=w.heap.size+1:=by simp
 rw[e1]
 refine down1_ok hT hs hr hn hlen (hE.trans hE1) (fun b hb=>(hC b hb).1) (Nat.le_trans hE.size hE1.size) ?_ (by simp;omega) (fun h=>by have:=(hC _ h).2;omega) ?_ (by simp) (fun h=>by have:=(hC _ h).2;omega)
 ·rw[zaz ((RowKit.Below.heap_alloc _ _ _ (by simp)).trans (zal w _))];rfl
 ·have:=zal (w.alloc (.cells #[zaq tb] 195)) (.cells #[.slice a n.length ca] 23)
  rw[e1]at this
  rw[zaz this];rfl
theorem zh2{w:World}{tb:Nat}{s:TS}{n:Nm}{nv:Value}(hT:TAt w tb s)(hs:TOk s)(hr:Row w nv (n.map vs))(hn:LB n)(hlen:n.length≤9000000000000000000):
  Fn Tryz.prog 204 #[zaq tb,nv] w (fun v w'=>v= .tuple #[vi (dep s.names (zah n)),zaq (s.nb (sfx (zah n) (dep s.names (zah n))))]∧Ext w w'):=by
 obtain⟨a,ca,rfl,hca,hla⟩:=id hr
 simp only[List.length_map]at*
 refine enter Tryz.func204 Tryz.ntmps204 rfl rfl ?_
 repeat refine c_r ?_
 refine rg0 ?_
 repeat (with_reducible first|refine zdJ ?_|refine zgo ?_|refine zdK ?_|refine zav ?_|refine zbx ?_|refine zbM ?_|refine zaZ ?_|refine zbD ?_|refine za5 ?_|refine zaX rfl ?_)
 refine W_mid (fun σ ds A=>ds=[]∧σ 0=zaq tb∧σ 1= .slice a n.length ca∧∃b6 b7,σ 6=zaq b6∧σ 7=zaq b7∧b6≠b7∧w.heap.size≤b6∧w.heap.size≤b7∧Ext w A∧
  A.heap[b6]? =some (.cells #[vi 0] 3 (0,0))∧A.heap[b7]? =some (.cells #[zaq (s.nb [])] 257 (0,0))) ?_ ?_
 ·refine W_tree (fun i=>i==7) (.run [(0,true),(1,true),(2,true),(3,true)] (.fork 3 [4,5] (fun i=>if i=4 then(.run [(5,false),(6,false),(7,false)] .fin) else(.run [(4,false),(6,false),(7,false)] .fin)))) (zdO w.heap.size) mixed (by kernel_rfl) ?_;intro gd K x hgd hx hxe hK;clear hxe
  have hEx:Ext w x:=Keep.to_ext (Keep.refl _ _) rfl (fun b hb=>hb) hx
  have hroot:zai x (some ⟨tb,0,Option.none⟩)=some (zaq (s.nb [])):=by
   show x.cell? _=_
   rw[zaz (hT.ext hEx).root];rfl
  have htb:tb<w.heap.size:=(Array.getElem?_eq_some_iff.1 hT.root).1
  have hsx:=hEx.size
  unfold zaq at hroot
  simp (disch:=first|omega|assumption|rfl) only[go_sem,zaq,hroot,zhM htb]
  simp only[zeG,zfw];refine⟨?_,?_⟩
  ·simp (disch:=first|omega|assumption|rfl) only[go_sem]
   refine⟨.inr (Ext.alloc _ _).keep,.inr (Ext.alloc _ _).keep,?_⟩
   have hb1:=zal x (.cells #[.int .i64 0] 3 (0,0))
   have hE2:=(Ext.alloc x (.cells #[.int .i64 0] 3 (0,0))).trans (Ext.alloc _ (.cells #[.pointer Option.none] 257 (0,0)))
   have hb1':=(RowKit.Below.heap_alloc _ (.cells #[.pointer Option.none] 257 (0,0)) _ (by simp)).trans hb1
   have hb2:=zal (x.alloc (.cells #[.int .i64 0] 3 (0,0))) (.cells #[.pointer Option.none] 257 (0,0))
   rw[zan]at hb2 ⊢
   refine zbw rfl rfl rfl hb1' (by simp) (by simp) ?_
   intro x1 hs1 hx1 hk1
   refine⟨.inr (hk1.mono (fun b _ hb=>by show _≤b;omega)),?_⟩
   simp (disch:=first|omega|assumption|rfl) only[go_sem]
   refine zbw rfl rfl rfl ((hk1.block _ (by simp) (by omega)).trans hb2) (by simp) (by simp) ?_
   intro x2 hs2 hx2 hk2
   refine⟨.inl rfl,?_⟩
   simp (disch:=first|omega|assumption|rfl) only[go_sem]
   refine hK _ _ ?_;clear hK hgd;clear K;try clear gd
   repeat (with_reducible first|refine zdJ ?_|refine zgo ?_|refine zdK ?_|refine zav ?_|refine zbx ?_|refine zbM ?_|refine zaZ ?_|refine zbD ?_|refine za5 ?_|refine zaX rfl ?_)
   refine⟨rfl,vq0,vq0,x.heap.size,x.heap.size+1,vq0,vq0,by omega,hsx,by omega,?_,(hk2.block _ (by rw[hs1];simp;omega) (by omega)).trans hx1,hx2⟩
   exact Keep.to_ext (Keep.to_ext (hEx.trans hE2) rfl (fun b hb=>by omega) hk1) rfl (fun b hb=>by omega) hk2
  ·simp (disch:=first|omega|assumption|rfl) only[go_sem]
   refine⟨.inr (Ext.alloc _ _).keep,.inr (Ext.alloc _ _).keep,?_⟩
   have hb1:=zal x (.cells #[.pointer Option.none] 257 (0,0))
   have hE2:=(Ext.alloc x (.cells #[.pointer Option.none] 257 (0,0))).trans (Ext.alloc _ (.cells #[.int .i64 0] 3 (0,0)))
   have hb1':=(RowKit.Below.heap_alloc _ (.cells #[.int .i64 0] 3 (0,0)) _ (by simp)).trans hb1
   have hb2:=zal (x.alloc (.cells #[.pointer Option.none] 257 (0,0))) (.cells #[.int .i64 0] 3 (0,0))
   rw[zan]at hb2 ⊢
   refine zbw rfl rfl rfl hb2 (by simp) (by simp) ?_
   intro x1 hs1 hx1 hk1
   refine⟨.inr (hk1.mono (fun b _ hb=>by show _≤b;omega)),?_⟩
   simp (disch:=first|omega|assumption|rfl) only[go_sem]
   refine zbw rfl rfl rfl ((hk1.block _ (by simp;omega) (by omega)).trans hb1') (by simp) (by simp) ?_
   intro x2 hs2 hx2 hk2
   refine⟨.inl rfl,?_⟩
   simp (disch:=first|omega|assumption|rfl) only[go_sem]
   refine hK _ _ ?_;clear hK hgd;clear K;try clear gd
   repeat (with_reducible first|refine zdJ ?_|refine zgo ?_|refine zdK ?_|refine zav ?_|refine zbx ?_|refine zbM ?_|refine zaZ ?_|refine zbD ?_|refine za5 ?_|refine zaX rfl ?_)
   refine⟨rfl,vq0,vq0,x.heap.size+1,x.heap.size,vq0,vq0,by omega,by omega,hsx,?_,(hk2.block _ (by rw[hs1];simp) (by omega)).trans hx1,hx2⟩
   exact Keep.to_ext (Keep.to_ext (hEx.trans hE2) rfl (fun b hb=>by omega) hk1) rfl (fun b hb=>by omega) hk2
 ·rintro σ ds A ⟨rfl,hs0,hs1,b6,b7,hs6,hs7,hne,hb6,hb7,hE,hc6,hc7⟩
  have hl6:=(Array.getElem?_eq_some_iff.1 hc6).1
  have hl7:=(Array.getElem?_eq_some_iff.1 hc7).1
  repeat refine c_r ?_
  refine rq ?_;intro gd K hgd hK
  try simp (disch:=first|omega|assumption|rfl) only[go_sem,hs0,hs1]
  refine Fn.mono (down_ok hT hs hr hn hlen hE) ?_
  rintro _ w3 ⟨hE3,cap,rfl,hit⟩
  try simp only[go_sem]
  refine hK _ _ ?_;clear hK hgd;clear K;try clear gd
  repeat refine c_r ?_
  generalize hd:dep s.names (zah n)=d at*
  have hs3:=hE3.size
  refine zgU (g:=245) (cap:=cap) (vq0) rfl (hit (fun b=>b=b6∨b=b7) (fun b hb=>by omega)) (Keep.refl _ _) (Nat.le_refl _) (fun b hb=>by omega)
   (fun x A args h=>by rw[h];rfl)
   (fun pre A=>Ext w A∧A.heap[b6]? =some (.cells #[vi ((pre.length - 1:Nat))] 3 (0,0))∧A.heap[b7]? =some (.cells #[zaq (s.nb (sfx (zah n) (pre.length - 1)))] 257 (0,0)))
   (fun _ _ _=>False) ?_ (fun _ _ _ _ h _=>h.elim) ?_ ?_ ?_ (fun _ _ _ _ _ _ _ h _=>h.elim)
  ·rintro pre A B ⟨h1,h2,h3⟩ hk
   have ne1:¬two w3.heap.size b6:=by unfold two;omega
   have ne2:¬two w3.heap.size b7:=by unfold two;omega
   exact⟨Keep.to_ext h1 rfl (fun b hb=>by unfold two at hb;have:=hE.size;omega) hk,(hk.block _ (Array.getElem?_eq_some_iff.1 h2).1 ne1).trans h2,(hk.block _ (Array.getElem?_eq_some_iff.1 h3).1 ne2).trans h3⟩
  ·exact⟨hE.trans hE3,(hE3.block _ hl6 (fun h=>h)).trans hc6,by rw[List.length_nil,zg2];exact(hE3.block _ hl7 (fun h=>h)).trans hc7⟩
  ·rintro lp pre x suf A1 args hxs hszA ⟨hEA,hc6',hc7'⟩ rfl
   obtain rfl:=ziD hxs
   repeat (first|refine c_r ?_| (refine zcP (by rfl) ?_;intro gd K hgd hK;simp (disch:=first|omega|assumption|rfl) only[go_sem,zaq];refine hK _ _ ?_;clear hK hgd;clear K gd))
   refine⟨rfl,KeepB.refl _ _ _,fun A2 hA2=>?_⟩
   have ne1:¬two w3.heap.size b6:=by unfold two;omega
   have ne2:¬two w3.heap.size b7:=by unfold two;omega
   have hc6:=(hA2.block _ (Array.getElem?_eq_some_iff.1 hc6').1 ne1).trans hc6'
   have hc7:=(hA2.block _ (Array.getElem?_eq_some_iff.1 hc7').1 ne2).trans hc7'
   have hE2':Ext w A2:=Keep.to_ext hEA rfl (fun b hb=>by unfold two at hb;have:=hE.size;omega) hA2
   have hl62:=(Array.getElem?_eq_some_iff.1 hc6).1
   have hl72:=(Array.getElem?_eq_some_iff.1 hc7).1
   repeat refine c_r ?_
   refine rq ?_;intro gd K hgd hK
   try simp (disch:=first|omega|assumption|rfl) only[go_sem,hs6,hs7,zaq]
   refine zbw rfl rfl rfl hc6 (by simp) (by simp) ?_
   intro x1 hz1 hx1 hk1
   try simp (disch:=first|omega|assumption|rfl) only[go_sem,hs6,hs7,zaq]
   refine zbw rfl rfl rfl ((hk1.block _ hl72 (by omega)).trans hc7) (by simp) (by simp) ?_
   intro x2 hz2 hx2 hk2
   refine hK _ _ ?_;clear hK hgd;clear K;try clear gd
   repeat refine c_r ?_
   have e:(pre++ [pre.length]).length - 1=pre.length:=by simp
   refine⟨⟨Keep.to_ext (Keep.to_ext hE2' rfl (fun b hb=>by omega) hk1) rfl (fun b hb=>by omega) hk2,?_,?_⟩,(hk1.toB (by have:=hA2.size;omega) (fun i _ h=> .inl h)).trans (hk2.toB (by have:=hA2.size;omega) (fun i _ h=> .inr h))⟩
   ·rw[e];exact(hk2.block _ (by omega) (by omega)).trans hx1
   ·rw[e];exact hx2
  ·rintro w4 hsz4 ⟨hE4,hc6,hc7⟩ hD
   rw[List.length_range,Nat.add_sub_cancel]at hc6 hc7
   repeat refine c_r ?_
   refine zaG (fun _=>false) [(0,true),(1,true),(2,true),(3,true)] NoS mixed (by kernel_rfl) ?_;intro gd K x hgd hx hxe hK;clear hxe
   have hc6':zai x (some ⟨b6,0,Option.none⟩)=some (vi d):=by
    show x.cell? _=_
    rw[zaz ((hx.block _ (Array.getElem?_eq_some_iff.1 hc6).1 (fun h=>h)).trans hc6)];rfl
   have hc7':zai x (some ⟨b7,0,Option.none⟩)=some (zaq (s.nb (sfx (zah n) d))):=by
    show x.cell? _=_
    rw[zaz ((hx.block _ (Array.getElem?_eq_some_iff.1 hc7).1 (fun h=>h)).trans hc7)];rfl
   simp (disch:=first|omega|assumption|rfl) only[go_sem,hs6,hs7,zaq]at hc6' hc7' ⊢
   simp (disch:=first|omega|assumption|rfl) only[go_sem,hs6,hs7,hc6',hc7']
   refine hK _ _ ?_;clear hK hgd;clear K;try clear gd
   repeat refine c_r ?_
   refine ziy (by simp) rfl Tryz.ntmps204 (by simp only[go_sem];rfl) (by simp only[go_sem];rfl) ((hx.block _ (Array.getElem?_eq_some_iff.1 hD).1 (fun h=>h)).trans hD) ?_
   intro w5 hk5 _
   exact⟨rfl,Keep.to_ext (hE4.trans hx) rfl (fun b hb=>by have:=hE.size;omega) hk5⟩
theorem Len_ok{w:World}{tb:Nat}{s:TS}(hT:TAt w tb s):
  Fn Tryz.prog 116 #[zaq tb] w (fun v w'=>v= .int .i64 (IntKind.i64.wrap s.names.length)∧Ext w w'):=by
 have hc:zai w (some ⟨tb,1,Option.none⟩)=some (.int .i64 (IntKind.i64.wrap s.names.length)):=by
  show w.cell? _=_
  rw[zaz hT.root];rfl
 refine enter Tryz.func116 Tryz.ntmps116 rfl rfl ?_
 repeat refine c_r ?_
 refine rg0 ?_
 repeat refine c_r ?_
 refine rq ?_;intro gd K hgd hK;simp (disch:=first|omega|assumption|rfl) only[go_sem,zaq,hc];refine hK _ _ ?_;clear hK hgd;clear K gd
 repeat refine c_r ?_
 refine rt0 Tryz.ntmps116 ?_
 exact⟨rfl,Keep.refl _ _⟩
structure Puts(s:TS)(f:Nm)(v:Value)(s':TS):Prop where
 names:∀g,g∈s'.names↔g∈s.names∨g<:+f
 val:∀g,s'.val g=if g=f then v else s.val g
 has:∀g,s'.has g=if g=f then true else s.has g
structure Grown(s:TS)(f:Nm)(k:Nat)(s':TS):Prop where
 names:∀g,g∈s'.names↔g∈s.names∨∃j,j≤k∧g=sfx f j
 val:∀g,s'.val g=s.val g
 has:∀g,s'.has g=s.has g
theorem zib(a:Int):IntKind.i64.wrap (IntKind.i64.wrap a+1)=IntKind.i64.wrap (a+1):=by
 simp only[IntKind.wrap_i64];omega
theorem zhI(f:Nm)(k:Nat):sfx f k<:+f:=List.drop_suffix _ _
theorem zhF{f g:Nm}(h:g<:+f):∃j,j≤f.length∧g=sfx f j:=by
 obtain⟨p,rfl⟩:=h
 refine⟨g.length,by simp,?_⟩
 simp[sfx]
theorem Put_ok{w:World}{tb:Nat}{s:TS}{n:Nm}{nv v:Value}(hT:TAt w tb s)(hs:TOk s)(hr:∀A,Keep (tblk tb s) w A→Row A nv (n.map vs))(hn:LB n)(hlen:n.length≤9000000000000000000)
  (hv:one v=true):
  Fn Tryz.prog 163 #[zaq tb,nv,v] w (fun _ w'=>∃s',TOk s'∧TAt w' tb s'∧Puts s (zah n) v s'∧Keep (tblk tb s) w w'∧(∀b,tblk tb s' b→tblk tb s b∨w.heap.size≤b)):=by
 have hr0:=hr w (Keep.refl _ _)
 obtain⟨a,ca,rfl,hca,hla⟩:=id hr0
 have hrA:∀{A},Keep (tblk tb s) w A→∀j (h:j<(n.map vs).length),zai A (adr a j)=some (n.map vs)[j]:=fun {A} hA=>by
  obtain⟨a',c',e,_,h⟩:=hr A hA
  simp only[Value.slice.injEq,true_and]at e
  obtain⟨rfl,rfl⟩:=e
  exact h
 simp only[List.length_map]at*
 have hdl:=zga s.names (zah n)
 have hfl:=zax n
 rw[zax]at hdl
 refine enter Tryz.func163 Tryz.ntmps163 rfl rfl ?_
 repeat refine c_r ?_
 refine rq ?_;intro gd K hgd hK
 try simp only[go_sem]
 refine Fn.mono (zh2 hT hs hr0 hn (by omega)) ?_
 rintro _ w1 ⟨rfl,hE1⟩
 try simp only[go_sem]
 refine hK _ _ ?_;clear hK hgd;clear K;try clear gd
 have hdin:=zjc hs (zah n)
 have hdout:=fun j=>@zgv _ _ hs (zah n) j
 have hdnb:∀j,j≤dep s.names (zah n)→sfx (zah n) j∈s.names:=fun j hj=>zin hs hj
 generalize hd:dep s.names (zah n)=d at*
 repeat refine c_r ?_
 refine zaj (fun m σ ds A=>ds=[]∧∃k s',k+m=n.length∧σ 6=vi k∧σ 7=zaq (s'.nb (sfx (zah n) k))∧σ 0=zaq tb∧σ 1= .slice a n.length ca∧σ 2=v∧
  TOk s'∧TAt A tb s'∧Grown s (zah n) k s'∧Keep (tblk tb s) w A∧(∀b,tblk tb s' b→tblk tb s b∨w.heap.size≤b)∧sfx (zah n) k∈s'.names∧(∀j,k<j→j≤n.length→sfx (zah n) j∉s'.names)) (n.length - d) ?_ ?_
 ·refine⟨rfl,d,s,by omega,vq0,vq0,vq0,vq0,vq0,hs,hT.ext hE1,⟨fun g=>⟨.inl,?_⟩,fun _=>rfl,fun _=>rfl⟩,hE1.keep,fun b hb=> .inl hb,hdin,fun j h1 h2=>hdout j h1 (by omega)⟩
  rintro(h| ⟨j,hj,rfl⟩)
  ·exact h
  ·exact hdnb j hj
 ·rintro m σ ds A ⟨rfl,k,s',hkm,h6,h7,h0,h1,h2,hs',hTA,hG,hKA,hblk,hin,hout⟩
  repeat refine c_r ?_
  refine rg2 h6 h1 ?_
  repeat refine c_r ?_
  refine wc0 ?_ ?_
  ·intro hlt
   simp only[decide_eq_true_eq]at hlt
   repeat refine c_r ?_
   refine rq ?_;intro gd K hgd hK
   try simp only[go_sem]
   refine Fn.mono (zhk A) ?_
   rintro _ A1 ⟨rfl,rfl⟩
   try simp only[go_sem]
   refine hK _ _ ?_;clear hK hgd;clear K;try clear gd
   have hEA:=(Ext.alloc A (.map #[] 0)).trans (Ext.alloc _ (.cells #[.map (some A.heap.size),(.bool false),.bool false] 297))
   have hnm:MapAt ((A.alloc (.map #[] 0)).alloc (.cells #[.map (some A.heap.size),(.bool false),.bool false] 297)) A.heap.size []:=(ziN A).block (RowKit.Below.heap_alloc _ _ _ (by simp))
   have hnn:=zal (A.alloc (.map #[] 0)) (.cells #[.map (some A.heap.size),(.bool false),.bool false] 297)
   rw[zan]at hnn
   revert hEA hnm hnn
   generalize (A.alloc (.map #[] 0)).alloc (.cells #[.map (some A.heap.size),(.bool false),.bool false] 297)=A1
   intro hEA hnm hnn
   repeat refine c_r ?_
   refine zaG (fun i=>i==14) [(0,true),(1,true),(2,true),(3,true),(4,true),(5,true),(6,true),(7,true),(8,true),(9,true),(10,true),(11,true),(13,true),(12,false),(14,false)] NoS mixed (by kernel_rfl) ?_;intro gd K x hgd hx hxe hK;clear hxe
   have hEx:Ext A x:=hEA.trans hx
   have hTx:=hTA.ext hEx
   have hKx:Keep (tblk tb s) w x:=hKA.trans hEx.keep
   have hmb:zai x (some ⟨s'.nb (sfx (zah n) k),0,Option.none⟩)=some (.map (some (s'.mb (sfx (zah n) k)))):=by
    show x.cell? _=_
    rw[zaz (hTx.node _ hin)];rfl
   have hla':=hrA hKx
   have hsa:a.isSome=true:=zad (hla 0 (by omega))
   have hix:((n.length:Int) - 1 - k).toNat=n.length - 1 - k:=by omega
   simp (disch:=first|omega|assumption|rfl) only[go_sem,h0,h1,h2,h6,h7,zaq,hmb,hix,hla',List.getElem_map]
   refine Fn.mono (zci _ _ (LB.get hn _)) ?_
   rintro _ y ⟨rfl,hy⟩
   refine⟨.inr hy,?_⟩
   have hTy:=hTx.ext hy
   have hlab:zaO n[n.length - 1 - k]::sfx (zah n) k=sfx (zah n) (k+1):=by
    rw[zg3 (by omega)];simp[zah]
   have hnin:zaO n[n.length - 1 - k]::sfx (zah n) k∉s'.names:=by rw[hlab];exact hout _ (by omega) (by omega)
   simp (disch:=first|omega|assumption|rfl) only[go_sem]
   refine zfR (r:=s'.mb (sfx (zah n) k)) (l:=zaY s' (sfx (zah n) k)) (key:=zaO n[n.length - 1 - k]) (v:=zaq (A.heap.size+1)) rfl rfl (vq0) (vq0) (vq0) (hTy.map _ hin) (by rw[zdv,if_neg hnin]) ?_
   intro A2 hm2 hk2 hsz2
   refine⟨.inl rfl,?_⟩
   simp (disch:=first|omega|assumption|rfl) only[go_sem]
   refine hK _ _ ?_;clear hK hgd;clear K;try clear gd
   have hEy:=hEx.trans hy
   have htbm:tb≠s'.mb (sfx (zah n) k):=fun e=>by
    obtain⟨es,clk,h2,_⟩:=hTA.map _ hin
    rw[←e,hTA.root]at h2;cases h2
   have hroot2:A2.heap[tb]? =some (.cells #[zaq (s'.nb []),.int .i64 (IntKind.i64.wrap s'.names.length)] 259 (0,0)):=
    (hk2.block _ (by have:=hTy.lt (.inl rfl);omega) htbm).trans hTy.root
   have hcn:zai A2 (some ⟨tb,1,Option.none⟩)=some (.int .i64 (IntKind.i64.wrap s'.names.length)):=by
    show A2.cell? _=_
    rw[zaz hroot2];rfl
   repeat refine c_r ?_
   refine rg0 ?_
   repeat refine c_r ?_
   refine rq ?_;intro gd K hgd hK
   try simp (disch:=first|omega|assumption|rfl) only[go_sem,h0,zaq,hcn]
   rw[zib]
   refine zbw rfl rfl rfl hroot2 (by simp) (by simp) ?_
   intro A3 hsz3 hb3 hk3
   refine hK _ _ ?_;clear hK hgd;clear K;try clear gd
   have hz3:A.heap.size+2≤A1.heap.size:=by have:=(Array.getElem?_eq_some_iff.1 hnn).1;omega
   have hzx:=hx.size
   have hzy:=hy.size
   have htbA:=hTA.lt (.inl rfl)
   have hmbA:=hTA.lt (.inr ⟨_,hin,.inr rfl⟩)
   have hb23:∀b,b<y.heap.size→b≠tb→b≠s'.mb (sfx (zah n) k)→A3.heap[b]? =y.heap[b]?:=fun b hb h1 h2=>
    (hk3.block b (by omega) h1).trans (hk2.block b hb h2)
   have hTA3:TAt A3 tb (s'.add (sfx (zah n) (k+1)) A.heap.size (.bool false)):=by
    rw[←hlab]
    refine hTA.add hs' hin hnin (Nat.le_refl _) ?_ ?_ ?_ ?_ ?_
    ·rw[hb3];rfl
    ·exact(hb23 _ (by omega) (by omega) (by omega)).trans ((hy.block _ (by omega) (fun h=>h)).trans ((hx.block _ (by omega) (fun h=>h)).trans hnn))
    ·exact hnm.block ((hb23 _ (by omega) (by omega) (by omega)).trans ((hy.block _ (by omega) (fun h=>h)).trans (hx.block _ (by omega) (fun h=>h))))
    ·exact hm2.block (hk3.block _ (by omega) (fun e=>htbm e.symm))
    ·intro b hb h1 h2
     have hbA:=hTA.lt hb
     exact(hb23 b (by omega) h1 h2).trans (hEy.block b hbA (fun h=>h))
   have hKA3:Keep (tblk tb s) w A3:=by
    have hb1:∀b,tblk tb s' b→b<w.heap.size→tblk tb s b:=fun b hb hlt=>(hblk b hb).resolve_right (by omega)
    refine⟨?_,?_,?_,?_,fun b hb hnb=>?_,Nat.le_trans hKA.drawn (Nat.le_trans hEy.drawn (Nat.le_trans hk2.drawn hk3.drawn))⟩
    ·rw[hk3.os,hk2.os,hEy.os,hKA.os]
    ·rw[hk3.tape,hk2.tape,hEy.tape,hKA.tape]
    ·rw[hk3.output,hk2.output,hEy.output,hKA.output]
    ·have:=hKA.size;omega
    ·have hsA:=hKA.size
     refine(hb23 b (by omega) (fun e=>hnb (.inl e)) (fun e=>hnb (hb1 b (.inr ⟨_,hin,.inr e⟩) hb))).trans ((hEy.block b (by omega) (fun h=>h)).trans (hKA.block b hb hnb))
   have hmem:∀f,f∈(s'.add (sfx (zah n) (k+1)) A.heap.size (.bool false)).names↔f∈s'.names∨f=sfx (zah n) (k+1):=fun f=>by simp[TS.add]
   repeat refine c_r ?_
   refine rg1 h6 ?_
   repeat refine c_r ?_
   refine⟨m - 1,by omega,rfl,k+1,s'.add (sfx (zah n) (k+1)) A.heap.size (.bool false),by omega,by simp only[go_sem];rfl,?_,(vq1 h0),(vq1 h1),(vq1 h2),?_,hTA3,?_,hKA3,?_,by rw[hmem];exact .inr rfl,?_⟩
   ·have:(s'.add (sfx (zah n) (k+1)) A.heap.size (.bool false)).nb (sfx (zah n) (k+1))=A.heap.size+1:=by simp[TS.add]
    rw[this];simp only[go_sem]
   ·rw[←hlab]
    exact hs'.add rfl hin hnin (fun f hf=>hTA.lt (.inr ⟨f,hf,.inl rfl⟩)) (fun f hf=>hTA.lt (.inr ⟨f,hf,.inr rfl⟩))
   ·refine⟨fun g=>?_,fun g=>?_,fun g=>?_⟩
    ·rw[hmem,hG.names]
     constructor
     ·rintro((h| ⟨j,hj,rfl⟩)|rfl)
      ·exact .inl h
      ·exact .inr ⟨j,by omega,rfl⟩
      ·exact .inr ⟨k+1,Nat.le_refl _,rfl⟩
     ·rintro(h| ⟨j,hj,rfl⟩)
      ·exact .inl (.inl h)
      ·by_cases e:j=k+1
       ·subst e;exact .inr rfl
       ·exact .inl (.inr ⟨j,by omega,rfl⟩)
    ·simp only[TS.add]
     split
     ·rename_i e;subst e;rw[hlab]at hnin;rw[←hG.val,(hs'.out _ hnin).1]
     ·exact hG.val g
    ·simp only[TS.add]
     split
     ·rename_i e;subst e;rw[hlab]at hnin;rw[←hG.has,(hs'.out _ hnin).2]
     ·exact hG.has g
   ·rintro b (rfl| ⟨g,hg,hgb⟩)
    ·exact .inl (.inl rfl)
    ·rw[hmem]at hg
     have hKs:=hKA.size
     simp only[TS.add]at hgb
     split at hgb
     ·right;omega
     ·rename_i hne
      exact hblk b (.inr ⟨g,hg.resolve_right hne,hgb⟩)
   ·intro j hj1 hj2
    rw[hmem]
    rintro(h|h)
    ·exact hout j (by omega) hj2 h
    ·have:=congrArg List.length h
     rw[zim (by omega),zim (by omega)]at this
     omega
  ·intro hge
   simp only[decide_eq_false_iff_not]at hge
   have hkn:k=n.length:=by omega
   subst hkn
   have hsf:sfx (zah n) n.length=zah n:=by rw[←zax n];exact zfg _
   rw[hsf]at h7 hin
   have hnode:=hTA.node _ hin
   repeat refine c_r ?_
   refine rq ?_;intro gd K hgd hK
   try simp (disch:=first|omega|assumption|rfl) only[go_sem,h7,h2,zaq]
   refine zbw rfl rfl hv hnode (by simp) (by simp) ?_
   intro A3 hsz3 hb3 hk3
   try simp (disch:=first|omega|assumption|rfl) only[go_sem,h7,h2,zaq]
   refine zbw rfl rfl rfl hb3 (by simp) (by simp) ?_
   intro A4 hsz4 hb4 hk4
   refine hK _ _ ?_;clear hK hgd;clear K;try clear gd
   repeat refine c_r ?_
   refine zar (by simp) rfl ⟨s'.set (zah n) v,hs'.set hin hv,?_,?_,?_,?_⟩
   ·refine hTA.set hs' hin (by rw[hb4];rfl) (fun b hb hne=>?_)
    have:=hTA.lt hb
    exact(hk4.block b (by omega) hne).trans (hk3.block b this hne)
   ·refine⟨fun g=>?_,fun g=>?_,fun g=>?_⟩
    ·show g∈s'.names↔_
     rw[hG.names]
     constructor
     ·rintro(h| ⟨j,hj,rfl⟩)
      ·exact .inl h
      ·exact .inr (zhI _ _)
     ·rintro(h|h)
      ·exact .inl h
      ·obtain⟨j,hj,rfl⟩:=zhF h
       exact .inr ⟨j,by omega,rfl⟩
    ·simp only[TS.set]
     split
     ·rfl
     ·exact hG.val g
    ·simp only[TS.set]
     split
     ·rfl
     ·exact hG.has g
   ·have hb1:∀b,tblk tb s' b→b<w.heap.size→tblk tb s b:=fun b hb hlt=>(hblk b hb).resolve_right (by omega)
    have hKs:=hKA.size
    refine⟨by rw[hk4.os,hk3.os,hKA.os],by rw[hk4.tape,hk3.tape,hKA.tape],by rw[hk4.output,hk3.output,hKA.output],by omega,fun b hb hnb=>?_,Nat.le_trans hKA.drawn (Nat.le_trans hk3.drawn hk4.drawn)⟩
    have hne:b≠s'.nb (zah n):=fun e=>hnb (hb1 b (.inr ⟨_,hin,.inl e⟩) hb)
    exact(hk4.block b (by omega) hne).trans ((hk3.block b (by omega) hne).trans (hKA.block b hb hnb))
   ·exact hblk
def encK(k:Lab)(_:World)(args:Array Value):Prop:=args=#[vs k]
def preK(l:List (Lab×Value))(pre:List Lab)(k:Lab):Prop:=k∈l.map (·.1)∧k∉pre∧pre.Nodup∧∀j∈pre,j∈l.map (·.1)
def fullK(l:List (Lab×Value))(xs:List Lab):Prop:=xs.Perm (l.map (·.1))
theorem zbn{α:Type}[DecidableEq α]:∀{l m:List α},l.Nodup→(∀a∈l,a∈m)→l.length≤m.length
 | [],_,_,_=>Nat.zero_le _
 |a::l,m,h,hs=>by
  have h1:=List.nodup_cons.1 h
  have ha:=hs a (List.mem_cons_self ..)
  have:=zbn (l:=l) (m:=m.erase a) h1.2 (fun b hb=>(List.mem_erase_of_ne (fun (e:b=a)=>h1.1 (e▸hb))).2 (hs b (List.mem_cons_of_mem _ hb)))
  rw[List.length_erase_of_mem ha]at this
  have:=List.length_pos_of_mem ha
  simp;omega
theorem keys1_ok{W0:World}{n0:Nat}{C:Nat→Prop}{b m:Nat}{l:List (Lab×Value)}(hb:W0.cell? ⟨b,0,Option.none⟩=some (.map (some m)))(hm:MapAt W0 m l)(hn:(l.map (·.1)).Nodup)
  (hbn:b<n0) (hbC:¬C b) (hmn:m<n0) (hmC:¬C m):
  zgY Tryz.prog 248 #[.pointer (some ⟨b,0,Option.none⟩)] W0 n0 C 1 (preK l) (fullK l) encK:=by
 intro lp J Jx W hW hnW hJ hJx hY h0
 have hmW:MapAt W m l:=hm.block (hW.block _ (by obtain⟨es,clk,h1,_⟩:=hm;exact(Array.getElem?_eq_some_iff.1 h1).1) (fun h=>h))
 have hcell:zai W (some ⟨b,0,Option.none⟩)=some (.map (some m)):=zdh hW hb
 refine enter Tryz.func248 Tryz.ntmps248 rfl rfl ?_
 repeat refine c_r ?_
 refine rq ?_;intro gd K hgd hK
 try simp (disch:=first|omega|assumption|rfl) only[go_sem,hcell]
 refine op_range rfl (vq0) hmW ?_
 intro W1 hit1 hE1 hs1
 try simp only[go_sem]
 refine hK _ _ ?_;clear hK hgd;clear K;try clear gd
 repeat refine c_r ?_
 refine zaj (fun k σ ds v=>ds=[]∧σ 5= .pointer (some ⟨W.heap.size,0,Option.none⟩)∧σ 0= .func (.yield lp) #[] #[]∧∃pre,MapIt v W.heap.size m l pre∧J pre v∧KeepB n0 C W v∧W.heap.size+1≤v.heap.size∧
  pre.Nodup∧(∀j∈pre,j∈l.map (·.1))∧k+pre.length=(l.map (·.1)).length) (l.map (·.1)).length ?_ ?_
 ·refine⟨rfl,vq0,vq0,[],hit1,?_,hE1.toB hnW (fun _ _ h=>h.elim),by omega,by simp,by simp,by simp⟩
  exact hJ _ _ _ h0 (hE1.mono (fun _ _ h=>h.elim))
 ·rintro k σ ds v ⟨rfl,h5,hf0,pre,hit,hj,hKB,hsz,hnd,hsub,hlen⟩
  repeat refine c_r ?_
  refine rq ?_;intro gd K hgd hK
  try simp (disch:=first|omega|assumption|rfl) only[go_sem,h5]
  have hkr:∀x,Keep (fun b=>b=W.heap.size) v x→KeepB n0 C W x:=fun x hx=>hKB.trans (hx.toB (by have:=hKB.size;omega) (fun i hi h=>by omega))
  refine op_next ((vq1 h5)) hit hn ?_ ?_
  ·intro hall
   try simp only[go_sem]
   refine hK _ _ ?_;clear hK hgd;clear K;try clear gd
   repeat refine c_r ?_
   refine wc0 ?_ ?_
   ·intro h;simp at h
   ·intro _
    repeat refine c_r ?_
    refine zar (by simp) rfl (.inl ⟨pre,?_,hj⟩)
    exact(List.perm_ext_iff_of_nodup hnd hn).2 fun a=>⟨hsub a,hall a⟩
  ·intro key u w2 hkv hnk hit2 hk2 hs2
   have hkm:key∈l.map (·.1):=List.mem_map.2 ⟨_,hkv,rfl⟩
   try simp only[go_sem]
   refine hK _ _ ?_;clear hK hgd;clear K;try clear gd
   repeat refine c_r ?_
   refine wc0 ?_ ?_
   ·intro _
    repeat refine c_r ?_
    refine rq ?_;intro gd K hgd hK
    try simp (disch:=first|omega|assumption|rfl) only[go_sem,h5]
    refine op_entry ((vq1 h5)) hit2 (fun u'=>?_)
    try simp only[go_sem]
    refine hK _ _ ?_;clear hK hgd;clear K;try clear gd
    have hj2:J pre w2:=hJ _ _ _ hj (hk2.mono (fun i _ h=>by unfold span;omega))
    repeat refine c_r ?_
    refine rq ?_;intro gd K hgd hK
    try simp (disch:=first|omega|assumption|rfl) only[go_sem,hf0]
    refine Yld.mono (hY pre key w2 _ ⟨hkm,hnk,hnd,hsub⟩ hj2 (by omega) (hkr _ hk2) rfl) ?_
    rintro u z (⟨rfl,hj',hk',ho'⟩| ⟨rfl,hjx⟩)
    ·try simp only[go_sem]
     refine hK _ _ ?_;clear hK hgd;clear K;try clear gd
     repeat refine c_r ?_
     refine wc0 ?_ ?_
     ·intro h;simp at h
     ·intro _
      repeat refine c_r ?_
      have hnd':(pre++ [key]).Nodup:=by
       rw[List.nodup_append]
       exact⟨hnd,by simp,fun a ha b hb=>by simp at hb;subst hb;rintro rfl;exact hnk ha⟩
      have hsub':∀j∈pre++ [key],j∈l.map (·.1):=fun j hj=>by
       rcases List.mem_append.1 hj with h|h
       ·exact hsub j h
       ·rw[List.mem_singleton.1 h];exact hkm
      have hlt:(pre++ [key]).length≤(l.map (·.1)).length:=zbn hnd' hsub'
      refine⟨k - 1,?_,rfl,(vq1 h5),(vq1 hf0),pre++ [key],?_,hj',(hkr _ hk2).trans hk',?_,hnd',hsub',?_⟩
      ·simp at hlt hlen;omega
      ·refine hit2.block ?_ (ho' _ (by unfold span;omega))
       exact hk'.block _ hmn hmC
      ·have:=hk'.size;omega
      ·simp at hlt hlen ⊢;omega
    ·try simp only[go_sem]
     refine hK _ _ ?_;clear hK hgd;clear K;try clear gd
     repeat refine c_r ?_
     refine wc0 ?_ ?_
     ·intro _
      repeat refine c_r ?_
      exact zar (by simp) rfl (.inr ⟨pre,key,⟨hkm,hnk,hnd,hsub⟩,hjx⟩)
     ·intro h;simp at h
   ·intro h;simp at h
theorem Keys_ok{w:World}{m:Nat}{l:List (Lab×Value)}(hm:MapAt w m l)(hn:(l.map (·.1)).Nodup):
  Fn Tryz.prog 233 #[.map (some m)] w (fun v w'=>Ext w w'∧∃cap,v= .func (.func 248) #[] cap∧
   ∀n0 C,w'.heap.size≤n0→(∀b,C b→w'.heap.size≤b)→zgY Tryz.prog 248 cap w' n0 C 1 (preK l) (fullK l) encK):=by
 refine enter Tryz.func233 Tryz.ntmps233 rfl rfl ?_
 repeat refine c_r ?_
 refine rg0 ?_
 repeat refine c_r ?_
 refine rg0 ?_
 repeat refine c_r ?_
 refine rt0 Tryz.ntmps233 ?_
 have hmlt:m<w.heap.size:=by obtain⟨es,clk,h1,_⟩:=hm;exact(Array.getElem?_eq_some_iff.1 h1).1
 refine⟨Ext.alloc _ _,_,rfl,fun n0 C hn0 hC=>?_⟩
 rw[zan]at hn0 hC
 refine keys1_ok ?_ (hm.block (RowKit.Below.heap_alloc _ _ _ hmlt)) hn (by omega) (fun h=>by have:=hC _ h;omega) (by omega) (fun h=>by have:=hC _ h;omega)
 rw[zaz (zal _ _)];rfl
end Go.Proofs.YtopbbjdembnfdaaGreat.T_bool
namespace Go.Proofs.YtopbbjdembnfdaaGreat
open Go
set_option maxRecDepth 10000
theorem zbm{S:Nat→Prop}{w x:World}{base:Nat}{e:TypeId}{size:Nat}{v:Value}{n:Nat}{xs:List Value}(h:w.ownsRow base e size v n xs)(hk:Keep S w x)(hS:∀b,base≤b→¬S b):x.ownsRow base e size v n xs:=by
 obtain⟨h1,h2⟩:=h
 refine⟨h1,?_⟩
 rcases h2 with h2| ⟨g,cap,cur,hv,hb,hg,rest⟩
 ·exact .inl h2
 ·exact .inr ⟨g,cap,cur,hv,hb,(hk.block _ (Array.getElem?_eq_some_iff.1 hg).1 (hS _ hb)).trans hg,rest⟩
theorem zhf{w:World}{base:Nat}{e:TypeId}{size:Nat}{v:Value}{n:Nat}{xs:List Value}(h:w.ownsRow base e size v n xs){b:Nat}(hb:some b=v.ownBlock):base≤b:=by
 rcases h.2 with ⟨rfl,_⟩| ⟨g,cap,cur,rfl,hg,_⟩
 ·cases hb
 ·cases hb;exact hg
def encT(k:Lab)(_:World)(args:Array Value):Prop:=args=#[vs k]
theorem zgs{w:World}{g:FuncId}{cap:Array Value}{own:Nat}{Pre:List Lab→Lab→Prop}{Full:List Lab→Prop}(hc:zaa Tryz.prog g=true)
  (hit:∀n0 C,w.heap.size≤n0→(∀b,C b→w.heap.size≤b)→zgY Tryz.prog g cap w n0 C own Pre Full encT) (hlen:∀pre x,Pre pre x→pre.length<1000000000000):
  Fn Tryz.prog 253 #[.slice Option.none 0 0,.func (.func g) #[] cap] w (fun v w'=>Ext w w'∧∃xs,Full xs∧w'.ownsRow w.heap.size 9 1 v xs.length (xs.map vs)):=by
 refine enter Tryz.func253 Tryz.ntmps253 rfl rfl ?_
 repeat refine c_r ?_
 refine rg0 ?_
 repeat refine c_r ?_
 refine rg0 ?_
 repeat refine c_r ?_
 have hbox:=zal w (.cells #[.slice Option.none 0 0] 22 (0,0))
 have hE0:=Ext.alloc w (.cells #[.slice Option.none 0 0] 22 (0,0))
 have hs0:=zan w (.cells #[.slice Option.none 0 0] 22 (0,0))
 revert hbox hE0 hs0
 generalize w.alloc (.cells #[.slice Option.none 0 0] 22 (0,0))=w1
 intro hbox hE0 hs0
 refine zhx (g:=g) (cap:=cap) (vq0) hc (hit w1.heap.size (fun b=>b=w.heap.size) hE0.size (fun b hb=>by omega)) hE0 (Nat.le_refl _) (fun b hb=>by omega)
  (fun x A args h=>by rw[h];rfl)
  (fun pre A=>Ext w A∧∃v,A.heap[w.heap.size]? =some (.cells #[v] 22 (0,0))∧A.ownsRow (w1.heap.size+2+own) 9 1 v pre.length (pre.map vs))
  (fun _ _ _=>False) ?_ (fun _ _ _ _ h _=>h.elim) ?_ ?_ ?_ (fun _ _ _ _ _ _ h _=>h.elim)
 ·rintro pre A B ⟨h1,v,h2,h3⟩ hk
  exact⟨Keep.to_ext h1 rfl (fun b hb=>by unfold span at hb;omega) hk,v,(hk.block _ (Array.getElem?_eq_some_iff.1 h2).1 (by unfold span;omega)).trans h2,zbm h3 hk (fun b hb=>by unfold span;omega)⟩
 ·exact⟨hE0,_,hbox,rfl,.inl ⟨rfl,rfl⟩⟩
 ·rintro lp pre x A args hpx hszA ⟨hEA,v,hbx,hown⟩ rfl
  repeat (first|refine c_r ?_|refine rg0 ?_)
  refine⟨rfl,KeepB.refl _ _ _,fun A2 hA2=>?_⟩
  have hEA2:Ext w A2:=Keep.to_ext hEA rfl (fun b hb=>by unfold two at hb;omega) hA2
  have hb2:=(hA2.block _ (Array.getElem?_eq_some_iff.1 hbx).1 (by unfold two;omega)).trans hbx
  have hown2:=zbm hown hA2 (fun b hb=>by unfold two;omega)
  have hs2:=hA2.size
  have hcell:zai A2 (some ⟨w.heap.size,0,Option.none⟩)=some v:=by
   show A2.cell? _=_
   rw[zaz hb2];rfl
  have hpl:=hlen _ _ hpx
  have hvs:∃a n c,v= .slice a n c:=by
   rcases hown2.2 with ⟨rfl,_⟩| ⟨g,cap,cur,rfl,_⟩
   ·exact⟨_,_,_,rfl⟩
   ·exact⟨_,_,_,rfl⟩
  obtain⟨sa,sn,sc,rfl⟩:=hvs
  repeat refine c_r ?_
  refine rq ?_;intro gd K hgd hK
  try simp (disch:=first|omega|assumption|rfl) only[go_sem,hcell]
  have hbs:bsC Tryz.prog 22 1 [(0,vs x)]=some (9,#[vs x]):=zfu (z:=vs []) rfl rfl rfl rfl rfl
  unfold bsL bsK
  rw[hbs]
  simp only[]
  have hbn:=zal A2 (.cells #[vs x] 9 (0,0))
  have hE3:=Ext.alloc A2 (.cells #[vs x] 9 (0,0))
  have hs3:=zan A2 (.cells #[vs x] 9 (0,0))
  revert hbn hE3 hs3
  generalize A2.alloc (.cells #[vs x] 9 (0,0))=A3
  intro hbn hE3 hs3
  try simp only[go_sem]
  refine zcm (P:=Tryz.prog) (e:=9) (size:=1) (bytes:=16) (m:=1) (news:=[vs x]) rfl rfl rfl rfl rfl rfl (by decide) (vr0) (vr0) (zbm hown2 hE3 (fun _ _ h=>h)) ?_ ?_ ?_ ?_ (by omega) ?_
  ·refine⟨_,_,rfl,rfl,fun j hj=>?_⟩
   have:j=0:=by simpa using hj
   subst this
   rw[zaQ]
   show A3.cell? _=_
   rw[zaz hbn];rfl
  ·intro q hq
   rw[List.mem_singleton.1 hq];rfl
  ·simp[maxLen];omega
  ·omega
  intro v' A4 hown4 hk4 _
  have hge:∀b,some b=(Value.slice sa sn sc).ownBlock→w1.heap.size+2+own≤b:=fun b hb=>zhf hown2 hb
  have hb4:=(hk4.block _ (by have:=(Array.getElem?_eq_some_iff.1 hb2).1;omega) (fun h=>by have:=hge _ h;omega)).trans ((hE3.block _ (Array.getElem?_eq_some_iff.1 hb2).1 (fun h=>h)).trans hb2)
  have hov:one v'=true:=by
   rcases hown4.2 with ⟨rfl,_⟩| ⟨g,cap,cur,rfl,_⟩<;>rfl
  try simp only[go_sem]
  refine zbw rfl rfl hov hb4 (by simp) (by simp) ?_
  intro A5 hs5 hb5 hk5
  refine hK _ _ ?_;clear hK hgd;clear K;try clear gd
  repeat refine c_r ?_
  have hs4:=hk4.size
  refine⟨⟨?_,v',hb5,?_⟩,((hE3.toB (by omega) (fun _ _ h=>h.elim)).trans (hk4.toB (by omega) (fun b hb h=>by have:=hge _ h;omega))).trans (hk5.toB (by omega) (fun b _ h=>h))⟩
  ·exact Keep.to_ext (Keep.to_ext (hEA2.trans hE3) rfl (fun b hb=>by have:=hge _ hb;omega) hk4) rfl (fun b hb=>by omega) hk5
  ·have:=zbm hown4 hk5 (fun b hb=>by omega)
   simpa using this
 ·rintro xs w4 hfull hsz4 ⟨hE4,v,hb4,hown4⟩ hD
  have hcell:zai w4 (some ⟨w.heap.size,0,Option.none⟩)=some v:=by
   show w4.cell? _=_
   rw[zaz hb4];rfl
  repeat refine c_r ?_
  refine rg1 hcell ?_
  repeat refine c_r ?_
  refine zc7 (by simp) rfl Tryz.ntmps253 (by simp only[go_sem];rfl) hD ?_
  intro w5 hk5 _
  have h5:=zbm hown4 hk5 (fun b hb=>by omega)
  refine⟨Keep.to_ext hE4 rfl (fun b hb=>by omega) hk5,xs,hfull,h5.1,?_⟩
  rcases h5.2 with h| ⟨g,c,cur,h1,h2,h3⟩
  ·exact .inl h
  ·exact .inr ⟨g,c,cur,h1,by omega,h3⟩
theorem zia{w:World}{g:FuncId}{cap:Array Value}{own:Nat}{Pre:List Lab→Lab→Prop}{Full:List Lab→Prop}(hc:zaa Tryz.prog g=true)
  (hit:∀n0 C,w.heap.size≤n0→(∀b,C b→w.heap.size≤b)→zgY Tryz.prog g cap w n0 C own Pre Full encT) (hlen:∀pre x,Pre pre x→pre.length<1000000000000):
  Fn Tryz.prog 246 #[.func (.func g) #[] cap] w (fun v w'=>Ext w w'∧∃xs,Full xs∧w'.ownsRow w.heap.size 9 1 v xs.length (xs.map vs)):=by
 refine enter Tryz.func246 Tryz.ntmps246 rfl rfl ?_
 repeat refine c_r ?_
 refine rg0 ?_
 repeat refine c_r ?_
 refine rq ?_;intro gd K hgd hK
 try simp only[go_sem]
 refine Fn.mono (zgs hc hit hlen) ?_
 rintro v w1 ⟨hE,xs,hf,ho⟩
 try simp only[go_sem]
 refine hK _ _ ?_;clear hK hgd;clear K;try clear gd
 repeat refine c_r ?_
 refine rt0 Tryz.ntmps246 ?_
 exact⟨hE,xs,hf,ho⟩
end Go.Proofs.YtopbbjdembnfdaaGreat
namespace Go.Proofs
open Go.Shelf
def Tryz.sortL_ren:Go.Shelf.Ren:=⟨fun|6=>247|15=>255|14=>254|28=>267|29=>268|20=>259|21=>260|22=>261|23=>262|24=>263|25=>264|26=>265|27=>266|46=>269|47=>270|48=>271|49=>272|50=>273|57=>274|n=>n,fun|22=>22|24=>9|25=>202|3=>3|39=>340|0=>0|53=>108|55=>353|4=>4|46=>346|45=>345|50=>187|5=>5|9=>9|66=>354|70=>358|76=>360|77=>168|n=>n,fun|n=>n⟩
theorem Tryz.sortL:Go.Proofs.SlLaysF.n6 Tryz.prog Tryz.sortL_ren:={
 mixed:=by kernel_rfl
 f6:=⟨Tryz.f247.name,by decide,Tryz.func247.trans (congrArg some (by kernel_rfl))⟩
 f14:=⟨Tryz.f254.name,by decide,Tryz.func254.trans (congrArg some (by kernel_rfl))⟩
 f15:=Tryz.func255.trans (congrArg some (by kernel_rfl))
 f20:=⟨Tryz.f259.name,by decide,Tryz.func259.trans (congrArg some (by kernel_rfl))⟩
 f21:=⟨Tryz.f260.name,by decide,Tryz.func260.trans (congrArg some (by kernel_rfl))⟩
 f22:=⟨Tryz.f261.name,by decide,Tryz.func261.trans (congrArg some (by kernel_rfl))⟩
 f23:=⟨Tryz.f262.name,by decide,Tryz.func262.trans (congrArg some (by kernel_rfl))⟩
 f24:=⟨Tryz.f263.name,by decide,Tryz.func263.trans (congrArg some (by kernel_rfl))⟩
 f25:=⟨Tryz.f264.name,by decide,Tryz.func264.trans (congrArg some (by kernel_rfl))⟩
 f26:=⟨Tryz.f265.name,by decide,Tryz.func265.trans (congrArg some (by kernel_rfl))⟩
 f27:=⟨Tryz.f266.name,by decide,Tryz.func266.trans (congrArg some (by kernel_rfl))⟩
 f28:=Tryz.func267.trans (congrArg some (by kernel_rfl))
 f29:=Tryz.func268.trans (congrArg some (by kernel_rfl))
 f46:=⟨Tryz.f269.name,by decide,Tryz.func269.trans (congrArg some (by kernel_rfl))⟩
 f47:=Tryz.func270.trans (congrArg some (by kernel_rfl))
 f48:=Tryz.func271.trans (congrArg some (by kernel_rfl))
 f49:=⟨Tryz.f272.name,by decide,Tryz.func272.trans (congrArg some (by kernel_rfl))⟩
 f50:=⟨Tryz.f273.name,by decide,Tryz.func273.trans (congrArg some (by kernel_rfl))⟩
 f57:=⟨Tryz.f274.name,by decide,Tryz.func274.trans (congrArg some (by kernel_rfl))⟩
 t0:=Tryz.underlying0
 a0:=Tryz.isAgg0
 z0:=Tryz.sizeOf0
 v0:=Tryz.zeroValue0
 t3:=Tryz.underlying3
 a3:=Tryz.isAgg3
 z3:=Tryz.sizeOf3
 v3:=Tryz.zeroValue3
 t4:=Tryz.underlying4
 a4:=Tryz.isAgg4
 z4:=Tryz.sizeOf4
 v4:=Tryz.zeroValue4
 t5:=Tryz.underlying5
 a5:=Tryz.isAgg5
 z5:=Tryz.sizeOf5
 v5:=Tryz.zeroValue5
 t9:=Tryz.underlying9
 a9:=Tryz.isAgg9
 z9:=Tryz.sizeOf9
 v9:=Tryz.zeroValue9
 t22:=Tryz.underlying22
 a22:=Tryz.isAgg22
 z22:=Tryz.sizeOf22
 v22:=Tryz.zeroValue22
 a24:=Tryz.isAgg9
 z24:=Tryz.sizeOf9
 t25:=Tryz.underlying202
 a25:=Tryz.isAgg202
 z25:=Tryz.sizeOf202
 v25:=Tryz.zeroValue202
 t39:=Tryz.underlying340
 a39:=Tryz.isAgg340
 z39:=Tryz.sizeOf340
 v39:=Tryz.zeroValue340
 t45:=Tryz.underlying345
 a45:=Tryz.isAgg345
 z45:=Tryz.sizeOf345
 v45:=Tryz.zeroValue345
 t46:=Tryz.underlying346
 a46:=Tryz.isAgg346
 z46:=Tryz.sizeOf346
 v46:=Tryz.zeroValue346
 t50:=Tryz.underlying187
 a50:=Tryz.isAgg187
 z50:=Tryz.sizeOf187
 v50:=Tryz.zeroValue187
 t53:=Tryz.underlying108
 a53:=Tryz.isAgg108
 z53:=Tryz.sizeOf108
 v53:=Tryz.zeroValue108
 t55:=Tryz.underlying353
 a55:=Tryz.isAgg353
 z55:=Tryz.sizeOf353
 v55:=Tryz.zeroValue353
 t66:=Tryz.underlying354
 a66:=Tryz.isAgg354
 z66:=Tryz.sizeOf354
 v66:=Tryz.zeroValue354
 t70:=Tryz.underlying358
 a70:=Tryz.isAgg358
 z70:=Tryz.sizeOf358
 v70:=Tryz.zeroValue358
 t76:=Tryz.underlying360
 a76:=Tryz.isAgg360
 z76:=Tryz.sizeOf360
 v76:=Tryz.zeroValue360
 t77:=Tryz.underlying168
 a77:=Tryz.isAgg168
 z77:=Tryz.sizeOf168
 v77:=Tryz.zeroValue168}
end Go.Proofs
namespace Go.Proofs.YtopbbjdembnfdaaGreat
open Go
set_option maxRecDepth 10000
theorem zgF{w w':World}(h:Ext w w'):w'=Go.Sort.grow (w.drewN (w'.drawn - w.drawn)) (w'.heap.extract w.heap.size w'.heap.size):=by
 have h1:=h.drawn
 have h2:=h.size
 cases w;cases w'
 obtain⟨e1,e2,e3,_,hb,_⟩:=h
 simp only at e1 e2 e3 hb h1 h2
 subst e1 e2 e3
 simp only[Go.Sort.grow,World.drewN,World.mk.injEq,true_and,and_true]
 refine⟨?_,by omega⟩
 apply Array.ext_getElem?
 intro i
 rw[Array.getElem?_append]
 split
 ·rename_i hi;exact hb i hi (fun h=>h)
 ·rename_i hi
  rw[Array.getElem?_extract]
  split
  ·congr 1;omega
  ·rw[Array.getElem?_eq_none (by omega)]
structure FLab where
 val:Lab
 fold:zaO val=val
 len:val.length≤9000000000000000000
instance:Inhabited FLab:=⟨⟨[],rfl,by decide⟩⟩
def encF(x:FLab):Value:=vs x.val
def cmpF(x y:FLab):Int:=cmpL x.val y.val
theorem FLab.eq{x y:FLab}(h:x.val=y.val):x=y:=by cases x;cases y;cases h;rfl
theorem ltF_t{x y:FLab}:Go.Proofs.ltOf cmpF x y=true↔cmpL x.val y.val<0:=by unfold Go.Proofs.ltOf;exact decide_eq_true_iff
theorem zhP{x y:FLab}:Go.Proofs.ltOf cmpF x y=false↔¬cmpL x.val y.val<0:=by unfold Go.Proofs.ltOf;exact decide_eq_false_iff_not
theorem swoF:Go.Sort.SWO (Go.Proofs.ltOf cmpF):=by
 refine⟨fun x=>?_,fun x y z h1 h2=>?_,fun x y z h1 h2=>?_⟩
 ·rw[zhP,zcr];omega
 ·rw[ltF_t]at*
  exact zcc h1 (by omega)
 ·rw[zhP]at*
  have b1:=zbb x.val y.val
  have b2:=zbb y.val z.val
  have b3:=zbb x.val z.val
  have:=zcI (a:=z.val) (b:=y.val) (c:=x.val) (by omega) (by omega)
  omega
theorem sortWorld_keep{α:Type}[Inhabited α]{enc:α→Value}{w:World}{blk off n:Nat}{d:Array α}{os:Array Obj}:Keep (fun b=>b=blk) w (sortWorld enc w blk off n d os):=by
 refine⟨rfl,rfl,rfl,?_,fun b hb hne=>?_,?_⟩
 ·show w.heap.size≤((w.heap.modify blk _)++os).size
  simp
 ·show((w.heap.modify blk _)++os)[b]? =_
  rw[Array.getElem?_append_left (by simpa using hb),Array.getElem?_modify,if_neg (Ne.symm hne)]
 ·show w.drawn≤w.drawn+n
  omega
theorem zd9{α:Type}[Inhabited α]{enc:α→Value}{w:World}{blk off n:Nat}{d:Array α}{os:Array Obj}{cur:Array Value}{e:TypeId}{fr:Nat×Nat}(h:w.heap[blk]? =some (.cells cur e fr)):
  (sortWorld enc w blk off n d os).heap[blk]? =some (.cells (Go.Sort.putCells enc off d cur) e fr):=by
 show((w.heap.modify blk _)++os)[blk]? =_
 have hlt:=(Array.getElem?_eq_some_iff.1 h).1
 rw[Array.getElem?_append_left (by simpa using hlt),Array.getElem?_modify,if_pos rfl,h]
 rfl
theorem zgV{w:World}{B:Nat}{v:Value}{xs:List Lab}(hown:w.ownsRow B 9 1 v xs.length (xs.map vs))(hfold:∀x∈xs,zaO x=x)(hlab:∀x∈xs,x.length≤9000000000000000000)(hlen:xs.length≤1000000000000):
  Fn Tryz.prog 247 #[v,.func (.func 119) #[] #[]] w (fun _ w'=>w'.ownsRow B 9 1 v xs.length ((zcO xs).map vs)∧Keep (fun b=>some b=v.ownBlock) w w'):=by
 obtain⟨hl,hcase⟩:=hown
 rcases hcase with ⟨rfl,h0⟩| ⟨g,cap,cur,rfl,hB,hg,hn,hcap,hcs,htake⟩
 ·refine Fn.of_calls (Calls.mono (AnyF.slices_SortFunc_none {Tryz.sortL with} Option.none 0 _ w) ?_)
  rintro _ _ ⟨rfl,rfl⟩
  have:xs=[]:=List.length_eq_zero_iff.1 h0
  subst this
  exact⟨_,rfl,⟨by simp[zcO],.inl ⟨rfl,rfl⟩⟩,Keep.refl _ _⟩
 ·obtain⟨ds,hds⟩:∃ds:List FLab,ds.map (·.val)=xs:=by
   refine⟨xs.pmap (fun x (h:zaO x=x∧x.length≤9000000000000000000)=>FLab.mk x h.1 h.2) (fun x hx=>⟨hfold x hx,hlab x hx⟩),?_⟩
   rw[List.map_pmap];simp
  have hdl:ds.length=xs.length:=by rw[←hds];simp
  have hto:∀x y:FLab,Go.Proofs.ltOf cmpF x y=false→Go.Proofs.ltOf cmpF y x=false→x=y:=fun x y h1 h2=>by
   rw[zhP]at h1 h2
   have:=zbb x.val y.val
   exact FLab.eq (zbo (by omega))
  have hcell:∀j (hj:j<ds.length),cur[j]? =some (encF ds[j]):=fun j hj=>by
   have h1:(xs.map vs)[j]? =some (vs (xs[j]'(by omega))):=by rw[List.getElem?_map,List.getElem?_eq_getElem (by omega)];rfl
   rw[←htake,List.getElem?_take,if_pos (by omega)]at h1
   have h2:xs[j]'(by omega)=ds[j].val:=by simp[←hds]
   rw[h2]at h1
   simpa [encF] using h1
  have key:=Any.slices_SortFunc_total Tryz.sortL encF (fun x=>rfl) cmpF swoF 119 #[] g 0 cap ds.toArray w
   (fun args w=>zbU rfl)
   (fun m os dk hdk x y=>by
    refine Calls.mono (Fn.calls (zeO _ x.val y.val x.len y.len)) ?_
    rintro _ w' ⟨_,rfl,rfl,hE⟩
    rw[x.fold,y.fold]
    exact⟨rfl,_,_,zgF hE⟩)
   (fun j hj=>by
    have hj':j<ds.length:=by simpa using hj
    rw[zaz hg,zen hg,Nat.zero_add,hcell j hj',getElem!_pos _ j hj]
    simp)
   (Array.getElem?_eq_some_iff.1 hg).1 (by simp;omega) hto
  rw[show ds.toArray.size=xs.length from by simpa using hdl]at key
  refine Fn.of_calls (Calls.mono key ?_)
  rintro _ _ ⟨rfl,n,os,rfl⟩
  refine⟨_,rfl,?_,sortWorld_keep.mono (fun b _ hb=>by rw[hb];rfl)⟩
  have hsort:(ds.mergeSort fun x y=>!Go.Proofs.ltOf cmpF y x).map (·.val)=zcO xs:=by
   refine zfG ?_ (zbT _) ?_
   ·rw[List.pairwise_map]
    have:=List.pairwise_mergeSort (le:=fun x y:FLab=>!Go.Proofs.ltOf cmpF y x) (fun a b c h1 h2=>by
     rw[Bool.not_eq_true']at*
     exact swoF.ntrans c b a h2 h1) (fun a b=>by
     rw[Bool.or_eq_true,Bool.not_eq_true',Bool.not_eq_true',zhP,zhP]
     have:=zbb a.val b.val
     omega) ds
    refine this.imp (fun {a b} h=>?_)
    rw[Bool.not_eq_true',zhP]at h
    simp only[leL,decide_eq_true_eq]
    have:=zbb a.val b.val
    omega
   ·have h1:=(List.mergeSort_perm ds (fun x y=>!Go.Proofs.ltOf cmpF y x)).map (·.val)
    rw[hds]at h1
    exact h1.trans (zby xs).symm
  obtain⟨es,hes⟩:∃es,(ds.mergeSort fun x y=>!Go.Proofs.ltOf cmpF y x)=es:=⟨_,rfl⟩
  have hesl:es.length=xs.length:=by rw[←hes,List.length_mergeSort,hdl]
  show World.ownsRow (sortWorld encF w g 0 n (ds.mergeSort fun x y=>!Go.Proofs.ltOf cmpF y x).toArray os) B _ _ _ _ _
  rw[hes]at hsort ⊢
  rw[←hsort]
  refine⟨by simp[hesl],.inr ⟨g,cap,_,rfl,hB,zd9 hg,hn,hcap,by simpa [Go.Sort.putCells] using hcs,?_⟩⟩
  apply List.ext_getElem?
  intro j
  rw[List.getElem?_take]
  split
  ·rename_i hj
   simp only[Nat.mul_one]at hj
   rw[Array.getElem?_toList]
   unfold Go.Sort.putCells
   rw[Array.getElem?_mapIdx]
   have hj2:j<cur.size:=by rw[hcs];omega
   rw[Array.getElem?_eq_getElem hj2]
   simp only[Option.map_some,Nat.zero_le,true_and,Nat.zero_add,Nat.sub_zero]
   have hj3:j<es.toArray.size:=by simp[hesl];exact hj
   rw[if_pos hj3,getElem!_pos _ j hj3]
   simp[encF,hesl,hj]
  ·rename_i hj
   rw[List.getElem?_eq_none (by simp[hesl];omega)]
theorem zfz{w:World}{g:FuncId}{cap:Array Value}{own:Nat}{Pre:List Lab→Lab→Prop}{Full:List Lab→Prop}(hc:zaa Tryz.prog g=true)
  (hit:∀n0 C,w.heap.size≤n0→(∀b,C b→w.heap.size≤b)→zgY Tryz.prog g cap w n0 C own Pre Full encT) (hlen:∀pre x,Pre pre x→pre.length<1000000000000)
  (hfull:∀xs,Full xs→xs.length≤1000000000000∧∀x∈xs,zaO x=x∧x.length≤9000000000000000000):
  Fn Tryz.prog 232 #[.func (.func g) #[] cap,.func (.func 119) #[] #[]] w (fun v w'=>Ext w w'∧∃xs,Full xs∧RowB w.heap.size w' v ((zcO xs).map vs)):=by
 refine enter Tryz.func232 Tryz.ntmps232 rfl rfl ?_
 repeat refine c_r ?_
 refine rg0 ?_
 repeat refine c_r ?_
 refine rq ?_;intro gd K hgd hK
 try simp only[go_sem]
 refine Fn.mono (zia hc hit hlen) ?_
 rintro v w1 ⟨hE,xs,hf,ho⟩
 have hvs:∃a n c,v= .slice a n c:=by
  rcases ho.2 with ⟨rfl,_⟩| ⟨g,cap,cur,rfl,_⟩
  ·exact⟨_,_,_,rfl⟩
  ·exact⟨_,_,_,rfl⟩
 obtain⟨sa,sn,sc,rfl⟩:=hvs
 try simp only[go_sem]
 refine hK _ _ ?_;clear hK hgd;clear K;try clear gd
 repeat refine c_r ?_
 refine rq ?_;intro gd K hgd hK
 try simp only[go_sem]
 refine Fn.mono (zgV ho (fun x hx=>((hfull xs hf).2 x hx).1) (fun x hx=>((hfull xs hf).2 x hx).2) (hfull xs hf).1) ?_
 rintro u w2 ⟨ho2,hk2⟩
 try simp only[go_sem]
 refine hK _ _ ?_;clear hK hgd;clear K;try clear gd
 repeat refine c_r ?_
 refine rg0 ?_
 repeat refine c_r ?_
 refine rt0 Tryz.ntmps232 ?_
 exact⟨Keep.to_ext hE rfl (fun b hb=>zhf ho hb) hk2,xs,hf,RowB.of_owns ho2⟩
--??end
end Go.Proofs.YtopbbjdembnfdaaGreat
namespace Go.Proofs.YtopbbjdembnfdaaGreat.T_bool
open Go Go.Proofs.YtopbbjdembnfdaaGreat
set_option maxRecDepth 10000
structure Small(s:TS):Prop where
 fold:∀g∈s.names,zah g=g
 lb:∀g∈s.names,LB g
 many:s.names.length≤1000000000
theorem zf2{names:List Nm}(h:names.Nodup)(f:Nm):(zbh names f).Nodup:=by
 unfold zbh
 rw[List.nodup_iff_pairwise_ne]at h ⊢
 rw[List.pairwise_filterMap]
 refine h.imp (fun {a b} hab x hx y hy e=>?_)
 subst e
 apply hab
 cases a with
 |nil=>cases hx
 |cons p t=>
  cases b with
  |nil=>cases hy
  |cons q t'=>
   simp only at hx hy
   split at hx
   ·split at hy
    ·cases hx;cases hy;rename_i h1 h2;rw[h1,h2]
    ·cases hy
   ·cases hx
theorem zbI(s:TS)(f:Nm):(zaY s f).map (·.1)=zbh s.names f:=by
 unfold zaY;rw[List.map_map];simp[Function.comp_def]
theorem zel{w:World}{tb:Nat}{s:TS}{f:Nm}(hT:TAt w tb s)(hs:TOk s)(hS:Small s)(hf:f∈s.names):
  Fn Tryz.prog 205 #[zaq (s.nb f)] w (fun v w'=>RowB w.heap.size w' v ((zcO (zbh s.names f)).map vs)∧Ext w w'):=by
 have hc:zai w (some ⟨s.nb f,0,Option.none⟩)=some (.map (some (s.mb f))):=by
  show w.cell? _=_
  rw[zaz (hT.node _ hf)];rfl
 have hnd:=zf2 hs.nd f
 have hkl:(zbh s.names f).length≤s.names.length:=by unfold zbh;exact List.length_filterMap_le _ _
 have hmany:=hS.many
 refine enter Tryz.func205 Tryz.ntmps205 rfl rfl ?_
 repeat refine c_r ?_
 refine rg0 ?_
 repeat refine c_r ?_
 refine rq ?_;intro gd K hgd hK
 try simp (disch:=first|omega|assumption|rfl) only[go_sem,zaq,hc]
 refine Fn.mono (Keys_ok (hT.map f hf) (by rw[zbI];exact hnd)) ?_
 rintro _ w1 ⟨hE1,cap,rfl,hit⟩
 try simp only[go_sem]
 refine Fn.mono (zfz (own:=1) (by rfl) (fun n0 C h1 h2=>hit n0 C h1 h2) ?_ ?_) ?_
 ·rintro pre x ⟨h1,h2,h3,h4⟩
  rw[zbI]at h4
  have:=zbn h3 h4
  omega
 ·intro xs hp
  unfold fullK at hp
  rw[zbI]at hp
  refine⟨by rw[hp.length_eq];omega,fun x hx=>?_⟩
  have hx':=zaU.1 (hp.mem_iff.1 hx)
  refine⟨?_,hS.lb _ hx' _ (List.mem_cons_self ..)⟩
  have:=hS.fold _ hx'
  simp only[zah,List.map_cons,List.cons.injEq]at this
  exact this.1
 rintro v w2 ⟨hE2,xs,hp,hrow⟩
 try simp only[go_sem]
 refine hK _ _ ?_;clear hK hgd;clear K;try clear gd
 repeat refine c_r ?_
 refine rt0 Tryz.ntmps205 ?_
 unfold fullK at hp
 rw[zbI]at hp
 refine⟨?_,hE1.trans hE2⟩
 rw[←zgt hp];exact hrow.mono hE1.size
theorem all_ok{W00 W:World}{n0:Nat}{C:Nat→Prop}{tb B0:Nat}{s:TS}{lp:Nat}{full:List Nm}{J:List Nm→(Nat→Prop)→World→Prop}{Jx:List Nm→World→Prop}
  (hT:TAt W00 tb s) (hs:TOk s) (hS:Small s) (hdeep:∀g∈s.names,g.length≤100000000000) (hE:Ext W00 W) (hC:∀b,C b→W00.heap.size≤b∧b<W.heap.size) (hn0:W00.heap.size≤n0) (hnW:n0≤W.heap.size) (hB0:B0≤W.heap.size)
  (hJ:∀pre U A B,J pre U A→Ext A B→J pre U B)
  (hY:∀pre U x suf A args,full=pre++x::suf→J pre U A→W.heap.size≤A.heap.size→KeepB n0 C W A→encN B0 x U A args→Yld Tryz.prog lp args A (fun v B=>
   (v= .bool true∧∃U',J (pre++ [x]) U' B∧(∀b,U' b→U b∨(A.heap.size≤b∧b<B.heap.size))∧KeepR n0 W.heap.size (fun b=>C b∨U b) A B)∨(v= .bool false∧Jx (pre++ [x]) B))):
  ∀(fuel:Nat) (f:Nm) (A:World) (U:Nat→Prop) (pre suf:List Nm) (nv:Value),f∈s.names→(∀g∈s.names,g.length<f.length+fuel)→full=pre++allN s.names fuel f++suf→J pre U A→
   (∀b,U b→W.heap.size≤b∧b<A.heap.size)→W.heap.size≤A.heap.size→KeepB n0 C W A→RowZ W.heap.size U A nv (f.map vs)→
   Fn Tryz.prog 165 #[zaq (s.nb f),nv,.func (.yield lp) #[] #[]] A (fun v B=>
    (v= .bool true∧∃U',J (pre++allN s.names fuel f) U' B∧(∀b,U' b→U b∨(A.heap.size≤b∧b<B.heap.size))∧KeepR n0 W.heap.size (fun b=>C b∨U b) A B)∨(v= .bool false∧∃p x q,full=p++x::q∧Jx (p++ [x]) B)):=by
 have fact:∀X,KeepB n0 C W X→TAt X tb s:=fun X hX=>hT.ext (KeepB.to_ext hE hX hn0 (fun b hb=>(hC b hb).1))
 have hCW:∀b,C b→b<W.heap.size:=fun b hb=>(hC b hb).2
 intro fuel
 induction fuel with
 |zero=>
  intro f A U pre suf nv hf hlen
  have:=hlen f hf
  omega
 |succ fuel ih=>
  intro f A U pre suf nv hf hlen hfull hj hU hWA hKB hrow
  have hhead:full=pre++f::(((zcO (zbh s.names f)).map fun l=>allN s.names fuel (l::f)).flatten++suf):=by rw[hfull];simp[allN]
  have hnvs:∃na nn nc,nv= .slice na nn nc:=by obtain⟨a,c,h,_⟩:=hrow.1;exact⟨_,_,_,h⟩
  obtain⟨na,nn,nc,rfl⟩:=hnvs
  refine enter Tryz.func165 Tryz.ntmps165 rfl rfl ?_
  repeat refine c_r ?_
  refine rg0 ?_
  repeat refine c_r ?_
  refine rq ?_;intro gd K hgd hK
  try simp only[go_sem]
  refine Yld.mono (hY pre U f _ A _ hhead hj hWA hKB ⟨_,rfl,hrow.low hB0⟩) ?_
  rintro v B (⟨rfl,U1,hj1,hU1,hk1⟩| ⟨rfl,hjx⟩)
  ·try simp only[go_sem]
   refine hK _ _ ?_;clear hK hgd;clear K;try clear gd
   have hs1:=hk1.size
   have hU1':∀b,U1 b→W.heap.size≤b∧b<B.heap.size:=fun b hb=>by
    rcases hU1 b hb with h|h
    ·have:=hU b h;omega
    ·omega
   have hKB1:=hk1.toB hKB (by omega) (fun b hb=>by have:=(hU b hb).1;omega)
   have hrow1:=hrow.keep hk1 hCW hU1
   repeat refine c_r ?_
   refine wc0 ?_ ?_
   ·intro h;simp at h
   ·intro _
    repeat refine c_r ?_
    refine rq ?_;intro gd K hgd hK
    try simp only[go_sem]
    refine Fn.mono (zel (fact B hKB1) hs hS hf) ?_
    rintro lv B2 ⟨hlv,hE2⟩
    have hlz:=RowZ.of_base (n1:=W.heap.size) hlv (by omega) (fun b hb=>(hU1' b hb).2)
    have hlen2:(zcO (zbh s.names f)).length≤1000000000:=by
     rw[(zby _).length_eq]
     exact Nat.le_trans (List.length_filterMap_le _ _) hS.many
    generalize hks:zcO (zbh s.names f)=ks at*
    obtain⟨la,lc,rfl,hlc,hll⟩:=id hlz.1
    rw[List.length_map]at*
    try simp only[go_sem]
    refine hK _ _ ?_;clear hK hgd;clear K;try clear gd
    repeat refine c_r ?_
    refine zaj (fun m σ ds v=>ds=[]∧∃i U',i+m=ks.length∧σ 16=vi i∧σ 15=vi ks.length∧σ 14= .slice la ks.length lc∧σ 0=zaq (s.nb f)∧σ 1= .slice na nn nc∧σ 2= .func (.yield lp) #[] #[]∧
     J (pre++f::((ks.take i).map fun l=>allN s.names fuel (l::f)).flatten) U' v∧(∀b,U' b→U b∨(A.heap.size≤b∧b<v.heap.size))∧KeepR n0 W.heap.size (fun b=>C b∨U b) A v∧
     RowZ W.heap.size U' v (.slice na nn nc) (f.map vs)∧RowZ W.heap.size U' v (.slice la ks.length lc) (ks.map vs)) ks.length ?_ ?_
    ·refine⟨rfl,0,U1,by omega,by simp only[go_sem];rfl,vq0,vq0,vq0,vq0,vq0,?_,?_,?_,hrow1.ext hE2,hlz⟩
     ·simpa using hJ _ _ _ _ hj1 hE2
     ·intro b hb
      have:=hE2.size
      rcases hU1 b hb with h|h
      ·exact .inl h
      ·exact .inr ⟨h.1,by omega⟩
     ·exact hk1.next hU1 (KeepR.of_ext hE2)
    ·rintro m σ ds v ⟨rfl,i,U',him,h16,h15,h14,h0,h1,h2,hji,hUi,hki,hni,hli⟩
     have hKBv:=hki.toB hKB (by omega) (fun b hb=>by have:=(hU b hb).1;omega)
     have hsv:=hki.size
     have hUv:∀b,U' b→W.heap.size≤b∧b<v.heap.size:=fun b hb=>by
      rcases hUi b hb with h|h
      ·have:=hU b h;omega
      ·omega
     repeat refine c_r ?_
     refine rg2 h16 h15 ?_
     repeat refine c_r ?_
     refine wc0 ?_ ?_
     ·intro hlt
      simp only[decide_eq_true_eq]at hlt
      have hi:i<ks.length:=by omega
      obtain⟨la',lc',hle,_,hll'⟩:=id hli.1
      simp only[List.length_map]at hle hll'
      cases hle
      have hsa:la.isSome=true:=zad (hll' i hi)
      have hkid:ks[i]::f∈s.names:=zaU.1 ((zby _).mem_iff.1 (by rw[hks];exact List.getElem_mem hi))
      repeat refine c_r ?_
      refine rq ?_;intro gd K hgd hK;simp (disch:=first|omega|assumption|rfl) only[go_sem,h16,h14,hll',List.getElem_map];refine hK _ _ ?_;clear hK hgd;clear K gd
      repeat refine c_r ?_
      refine zaG (fun i=>i==10||i==11) [(0,true),(1,true),(2,true),(3,true),(4,true),(5,true),(6,true),(7,true),(9,true),(8,false),(10,false),(11,false)] NoS mixed (by kernel_rfl) ?_;intro gd K x hgd hx hxe hK;clear hxe
      have hTx:=(fact v hKBv).ext hx
      have hmb:zai x (some ⟨s.nb f,0,Option.none⟩)=some (.map (some (s.mb f))):=by
       show x.cell? _=_
       rw[zaz (hTx.node _ hf)];rfl
      have hlk:=(hTx.map _ hf).lk (P:=Tryz.prog) (t:=295) (kt:=9) (et:=257) (z:= .pointer Option.none) rfl rfl rfl ks[i]
      rw[zdv,if_pos hkid,Option.getD_some]at hlk
      unfold zaq at h0
      simp (disch:=first|omega|assumption|rfl) only[go_sem,h0,h1,h2,hmb,hlk]
      refine⟨fun _ _ h=>h,?_⟩
      refine Fn.mono (Child_ok x _ _ f (hni.1.ext hx) (by have:=hdeep f hf;omega)) ?_
      rintro cv y ⟨hcv,hy⟩
      refine⟨.inr hy,?_⟩
      simp (disch:=first|omega|assumption|rfl) only[go_sem,h0,h1,h2]
      have hxs:=hx.size
      have hys:=hy.size
      have hEy:=hx.trans hy
      have hki2:=hki.next hUi (KeepR.of_ext hEy)
      have hsplit:((ks.take (i+1)).map fun l=>allN s.names fuel (l::f)).flatten=((ks.take i).map fun l=>allN s.names fuel (l::f)).flatten++allN s.names fuel (ks[i]::f):=by
       rw[zao hi,List.map_append,List.flatten_append]
       simp only[List.map_cons,List.map_nil,List.flatten_cons,List.flatten_nil,List.append_nil]
      have hall:(ks.map fun l=>allN s.names fuel (l::f)).flatten=((ks.take i).map fun l=>allN s.names fuel (l::f)).flatten++allN s.names fuel (ks[i]::f)++((ks.drop (i+1)).map fun l=>allN s.names fuel (l::f)).flatten:=by
       conv=>lhs;rw[zbS hi]
       rw[List.map_append,List.map_cons,List.flatten_append,List.flatten_cons,List.append_assoc]
      have hfull2:full=(pre++f::((ks.take i).map fun l=>allN s.names fuel (l::f)).flatten)++allN s.names fuel (ks[i]::f)++(((ks.drop (i+1)).map fun l=>allN s.names fuel (l::f)).flatten++suf):=by
       rw[hhead,hall];simp
      refine Fn.mono (ih (ks[i]::f) y U' _ _ cv hkid (fun g hg=>by have:=hlen g hg;simp;omega) hfull2 (hJ _ _ _ _ hji hEy) (fun b hb=>by have:=hUv b hb;omega) (by omega) (hki2.toB hKB (by omega) (fun b hb=>by have:=(hU b hb).1;omega))
       (RowZ.of_base hcv (by omega) (fun b hb=>by have:=(hUv b hb).2;omega))) ?_
      rintro r D hres
      refine⟨.inl rfl,?_⟩
      rcases hres with ⟨rfl,U2,hj2,hU2,hk2⟩| ⟨rfl,hbad⟩
      ·simp (disch:=first|omega|assumption|rfl) only[go_sem]
       refine⟨.inl rfl,?_⟩
       refine hK _ _ ?_;clear hK hgd;clear K;try clear gd
       have hDs:=hk2.size
       have hUD:∀b,U2 b→U' b∨(v.heap.size≤b∧b<D.heap.size):=fun b hb=>by
        rcases hU2 b hb with h|h
        ·exact .inl h
        ·exact .inr (by omega)
       have hU2':∀b,U2 b→U b∨(A.heap.size≤b∧b<D.heap.size):=fun b hb=>by
        rcases hUD b hb with h|h
        ·rcases hUi b h with h'|h'
         ·exact .inl h'
         ·exact .inr (by omega)
        ·exact .inr (by omega)
       have hkv:KeepR n0 W.heap.size (fun b=>C b∨U' b) v D:=(KeepR.of_ext hEy).next (U':=U') (fun b hb=> .inl hb) hk2
       repeat refine c_r ?_
       refine wc0 ?_ ?_
       ·intro h;simp at h
       ·intro _
        repeat refine c_r ?_
        refine rg1 h16 ?_
        repeat refine c_r ?_
        refine⟨m - 1,by omega,rfl,i+1,U2,by omega,by simp only[go_sem];rfl,(vq1 h15),(vq1 h14),(vq1 h0),(vq1 h1),(vq1 h2),?_,hU2',hki.next hUi hkv,hni.keep hkv hCW hUD,hli.keep hkv hCW hUD⟩
        rw[hsplit,←List.cons_append,←List.append_assoc];exact hj2
      ·simp (disch:=first|omega|assumption|rfl) only[go_sem]
       refine⟨.inl rfl,?_⟩
       refine hK _ _ ?_;clear hK hgd;clear K;try clear gd
       repeat refine c_r ?_
       refine wc0 ?_ ?_
       ·intro _
        repeat refine c_r ?_
        refine rg0 ?_
        repeat refine c_r ?_
        refine rt0 Tryz.ntmps165 ?_
        exact .inr ⟨rfl,hbad⟩
       ·intro h;simp at h
     ·intro hge
      simp only[decide_eq_false_iff_not]at hge
      repeat refine c_r ?_
      refine rg0 ?_
      repeat refine c_r ?_
      refine rt0 Tryz.ntmps165 ?_
      rw[List.take_of_length_le (by omega)]at hji
      refine .inl ⟨rfl,U',?_,hUi,hki⟩
      rw[allN,hks];exact hji
  ·try simp only[go_sem]
   refine hK _ _ ?_;clear hK hgd;clear K;try clear gd
   repeat refine c_r ?_
   refine wc0 ?_ ?_
   ·intro _
    repeat refine c_r ?_
    refine rg0 ?_
    repeat refine c_r ?_
    refine rt0 Tryz.ntmps165 ?_
    exact .inr ⟨rfl,_,_,_,hhead,hjx⟩
   ·intro h;simp at h
theorem bsC_nil{P:Program}{t e:TypeId}{z:Value}(hu:tyU P t=some (.slice e))(hz:tyZ P e=some z)(hs:z.cells.size=tyS P e):bsC P t 0 []=some (e,#[]):=by
 simp[bsC,hu,hz,hs,Instr.fill]
theorem ziP{W00 W0:World}{n0:Nat}{C:Nat→Prop}{b1 tb:Nat}{s:TS}{fuel:Nat}(hT:TAt W00 tb s)(hs:TOk s)(hS:Small s)(hdeep:∀g∈s.names,g.length≤100000000000)(hfuel:∀g∈s.names,g.length<fuel)
  (hE:Ext W00 W0) (hC:∀b,C b→W00.heap.size≤b∧b<W0.heap.size) (hn0:W00.heap.size≤n0) (h1:W0.cell? ⟨b1,0,Option.none⟩=some (zaq tb)):
  IterU Tryz.prog 164 #[zaq b1] W0 n0 C 0 (fun pre x=>∃suf,allN s.names fuel []=pre++x::suf) (fun l=>l=allN s.names fuel []) encN:=by
 intro lp J Jx W hW hnW hJ hJx hY h0
 have hEW:=hE.trans hW
 have hc1:zai W (some ⟨b1,0,Option.none⟩)=some (zaq tb):=zdh hW h1
 have hroot:zai W (some ⟨tb,0,Option.none⟩)=some (zaq (s.nb [])):=by
  show W.cell? _=_
  rw[zaz (hT.ext hEW).root];rfl
 unfold zaq at hc1 hroot
 have hJ':∀pre U A B,J pre U A→Ext A B→J pre U B:=fun pre U A B hj hk=>hJ pre U A B hj (hk.mono (fun _ _ h=>h.elim))
 refine enter Tryz.func164 Tryz.ntmps164 rfl rfl ?_
 repeat refine c_r ?_
 refine rq ?_;intro gd K hgd hK
 try simp (disch:=first|omega|assumption|rfl) only[go_sem,zaq,hc1,hroot]
 have hbs:bsC Tryz.prog 23 0 []=some (9,#[]):=bsC_nil (z:=vs []) rfl rfl rfl
 unfold bsL bsK
 rw[hbs]
 simp only[]
 have hbn:=zal W (.cells #[] 9 (0,0))
 have hEn:=Ext.alloc W (.cells #[] 9 (0,0))
 have hsn:=zan W (.cells #[] 9 (0,0))
 revert hbn hEn hsn
 generalize W.alloc (.cells #[] 9 (0,0))=W1
 intro hbn hEn hsn
 try simp only[go_sem]
 refine Fn.mono (all_ok (J:=J) (Jx:=Jx) (full:=allN s.names fuel []) (B0:=W.heap.size) hT hs hS hdeep hEW (fun b hb=>⟨(hC b hb).1,by have:=(hC b hb).2;have:=hW.size;omega⟩) hn0 hnW (Nat.le_refl _) hJ'
  (fun pre U x suf A args e hj hsz hkb hen=>hY pre U x A args ⟨suf,e⟩ hj (by omega) hkb hen) fuel [] W1 NoS [] [] _ hs.nil (fun g hg=>by have:=hfuel g hg;simpa using this) (by simp) (hJ' _ _ _ _ h0 hEn) (fun _ h=>h.elim) (by omega)
  (hEn.toB hnW (fun _ _ h=>h.elim)) ⟨⟨some ⟨W.heap.size,0,Option.none⟩,0,rfl,Nat.le_refl _,fun j h=>by simp at h⟩,fun a n c hv=>by cases hv;exact⟨Nat.le_refl _,by show W.heap.size<_;omega,fun h=>h⟩⟩) ?_
 intro v B hres
 try simp only[go_sem]
 refine hK _ _ ?_;clear hK hgd;clear K;try clear gd
 repeat refine c_r ?_
 refine zar (by simp) rfl ?_
 rcases hres with ⟨_,U',hj,_⟩| ⟨_,p,x,q,e,hjx⟩
 ·exact .inl ⟨_,U',rfl,by simpa using hj⟩
 ·exact .inr ⟨p,x,⟨q,e⟩,hjx⟩
def NRows(B:Nat)(U:Nat→Prop)(A:World)(vals:List Value)(ns:List Nm):Prop:=vals.length=ns.length∧∀i (h:i<vals.length) (h':i<ns.length),RowZ B U A vals[i] (ns[i].map vs)
theorem NRows.keep{B:Nat}{U U' X:Nat→Prop}{A D:World}{vals:List Value}{ns:List Nm}(h:NRows B U A vals ns)(hk:Keep X A D)(hX:∀b,X b→B≤b→b<A.heap.size→U b)(hU:∀b,U' b→U b∨A.heap.size≤b):NRows B U' D vals ns:=by
 refine⟨h.1,fun i h1 h2=>?_⟩
 obtain⟨hr,hz⟩:=h.2 i h1 h2
 refine⟨hr.blocks (fun a n c hv=>?_),fun a n c hv=>?_⟩
 ·obtain⟨k1,k2,k3⟩:=hz a n c hv
  exact hk.block _ k2 (fun hx=>k3 (hX _ hx k1 k2))
 ·obtain⟨k1,k2,k3⟩:=hz a n c hv
  have:=hk.size
  refine⟨k1,by omega,fun hu=>?_⟩
  rcases hU _ hu with h'|h'
  ·exact k3 h'
  ·omega
theorem zjw{w:World}{tb:Nat}{s:TS}{fuel:Nat}(hT:TAt w tb s)(hs:TOk s)(hS:Small s)(hdeep:∀g∈s.names,g.length≤100000000000)(hfuel:∀g∈s.names,g.length<fuel)(hlen:(allN s.names fuel []).length≤1000000000):
  Fn Tryz.prog 114 #[zaq tb] w (fun v w'=>Ext w w'∧∀S:Nat→Prop,(∀b,S b→b<w.heap.size)→NamesZ S w' v (allN s.names fuel [])):=by
 refine enter Tryz.func114 Tryz.ntmps114 rfl rfl ?_
 repeat refine c_r ?_
 refine rg0 ?_
 repeat refine c_r ?_
 refine rg0 ?_
 repeat refine c_r ?_
 refine rg0 ?_
 repeat refine c_r ?_
 refine rg0 ?_
 repeat refine c_r ?_
 have hb1:=zal w (.cells #[zaq tb] 195 (0,0))
 have hE1:=(Ext.alloc w (.cells #[zaq tb] 195 (0,0))).trans (Ext.alloc _ (.cells #[.slice Option.none 0 0] 55 (0,0)))
 have hb1':=(RowKit.Below.heap_alloc _ (.cells #[.slice Option.none 0 0] 55 (0,0)) _ (by simp)).trans hb1
 have hb3:=zal (w.alloc (.cells #[zaq tb] 195 (0,0))) (.cells #[.slice Option.none 0 0] 55 (0,0))
 have hs1:((w.alloc (.cells #[zaq tb] 195 (0,0))).alloc (.cells #[.slice Option.none 0 0] 55 (0,0))).heap.size=w.heap.size+2:=by simp
 rw[zan]at hb3
 rw[zan]
 unfold zaq at hb1' hE1 hb3 hs1
 revert hb1' hE1 hb3 hs1
 generalize (w.alloc (.cells #[.pointer (some ⟨tb,0,Option.none⟩)] 195 (0,0))).alloc (.cells #[.slice Option.none 0 0] 55 (0,0))=w1
 intro hE1 hb1' hb3 hs1
 refine zhw (own:=0) (n0:=w1.heap.size) (C:=fun b=>b=w.heap.size+1) (vq0) (by rfl) (ziP (b1:=w.heap.size) hT hs hS hdeep hfuel hE1 (fun b hb=>by omega) hE1.size (by rw[zaz hb1'];rfl)) (Keep.refl _ _) (Nat.le_refl _) (fun b hb=>by omega)
  (fun x U A args h=>by obtain⟨nv,rfl,_⟩:=h;rfl)
  (fun pre U A=>Ext w A∧∃v vals,A.heap[w.heap.size+1]? =some (.cells #[v] 55 (0,0))∧A.ownsRow (w1.heap.size+2) 23 1 v pre.length vals∧NRows (w1.heap.size+2) U A vals pre∧(∀b,some b=v.ownBlock→U b))
  (fun _ _ _=>False) ?_ (fun _ _ _ _ h _=>h.elim) ?_ ?_ ?_ (fun _ _ _ _ _ _ h _=>h.elim)
 ·rintro pre U A B ⟨h1,v,vals,h2,h3,h4,h5⟩ hU hk
  refine⟨Keep.to_ext h1 rfl (fun b hb=>by unfold span at hb;omega) hk,v,vals,(hk.block _ (Array.getElem?_eq_some_iff.1 h2).1 (by unfold span;omega)).trans h2,zbm h3 hk (fun b hb=>by unfold span;omega),h4.keep hk (fun b hb h1 _=>by unfold span at hb;omega) (fun b hb=> .inl hb),h5⟩
 ·exact⟨hE1,_,[],hb3,⟨rfl,.inl ⟨rfl,rfl⟩⟩,⟨rfl,fun i h=>by simp at h⟩,fun b hb=>by cases hb⟩
 ·rintro lp pre U x A args hpx hszA ⟨hEA,v,vals,hbx,hown,hrows,hUv⟩ hU ⟨nv,rfl,hnv⟩
  have hnvs:∃xa xn xc,nv= .slice xa xn xc:=by obtain⟨a,c,h,_⟩:=hnv.1;exact⟨_,_,_,h⟩
  obtain⟨xa,xn,xc,rfl⟩:=hnvs
  repeat (first|refine c_r ?_|refine rg0 ?_)
  refine⟨rfl,Keep.refl _ _,fun A2 hA2=>?_⟩
  have hEA2:Ext w A2:=Keep.to_ext hEA rfl (fun b hb=>by unfold two at hb;omega) hA2
  have hb2:=(hA2.block _ (Array.getElem?_eq_some_iff.1 hbx).1 (by unfold two;omega)).trans hbx
  have hown2:=zbm hown hA2 (fun b hb=>by unfold two;omega)
  have hrows2:NRows (w1.heap.size+2) U A2 vals pre:=hrows.keep hA2 (fun b hb h1 _=>by unfold two at hb;omega) (fun b hb=> .inl hb)
  have hs2:=hA2.size
  have hcell:zai A2 (some ⟨w.heap.size+1,0,Option.none⟩)=some v:=by
   show A2.cell? _=_
   rw[zaz hb2];rfl
  have hpl:pre.length≤1000000000:=by obtain⟨q,e⟩:=hpx;have:=congrArg List.length e;simp at this;omega
  have hvs:∃a n c,v= .slice a n c:=by
   rcases hown2.2 with ⟨rfl,_⟩| ⟨g,cap,cur,rfl,_⟩
   ·exact⟨_,_,_,rfl⟩
   ·exact⟨_,_,_,rfl⟩
  obtain⟨sa,sn,sc,rfl⟩:=hvs
  repeat refine c_r ?_
  refine rq ?_;intro gd K hgd hK
  try simp (disch:=first|omega|assumption|rfl) only[go_sem,hcell]
  have hbs:bsC Tryz.prog 55 1 [(0,Value.slice xa xn xc)]=some (23,#[Value.slice xa xn xc]):=zfu (z:= .slice Option.none 0 0) rfl rfl rfl rfl rfl
  unfold bsL bsK
  rw[hbs]
  simp only[]
  have hbn:=zal A2 (.cells #[Value.slice xa xn xc] 23 (0,0))
  have hE3:=Ext.alloc A2 (.cells #[Value.slice xa xn xc] 23 (0,0))
  have hs3:=zan A2 (.cells #[Value.slice xa xn xc] 23 (0,0))
  revert hbn hE3 hs3
  generalize A2.alloc (.cells #[Value.slice xa xn xc] 23 (0,0))=A3
  intro hbn hE3 hs3
  try simp only[go_sem]
  refine zcm (P:=Tryz.prog) (e:=23) (size:=1) (bytes:=24) (m:=1) (news:=[Value.slice xa xn xc]) rfl rfl rfl rfl rfl rfl (by decide) (vr0) (vr0) (zbm hown2 hE3 (fun _ _ h=>h)) ?_ ?_ ?_ ?_ (by omega) ?_
  ·refine⟨_,_,rfl,rfl,fun j hj=>?_⟩
   have:j=0:=by simpa using hj
   subst this
   rw[zaQ]
   show A3.cell? _=_
   rw[zaz hbn];rfl
  ·intro q hq
   rw[List.mem_singleton.1 hq];rfl
  ·simp[maxLen];omega
  ·omega
  intro v' A4 hown4 hk4 ⟨_,hwhere⟩
  have hge:∀b,some b=(Value.slice sa sn sc).ownBlock→w1.heap.size+2≤b:=fun b hb=>zhf hown2 hb
  have hb4:=(hk4.block _ (by have:=(Array.getElem?_eq_some_iff.1 hb2).1;omega) (fun h=>by have:=hge _ h;omega)).trans ((hE3.block _ (Array.getElem?_eq_some_iff.1 hb2).1 (fun h=>h)).trans hb2)
  have hov:one v'=true:=by
   rcases hown4.2 with ⟨rfl,_⟩| ⟨g,cap,cur,rfl,_⟩<;>rfl
  try simp only[go_sem]
  refine zbw rfl rfl hov hb4 (by simp) (by simp) ?_
  intro A5 hs5 hb5 hk5
  refine hK _ _ ?_;clear hK hgd;clear K;try clear gd
  repeat refine c_r ?_
  have hs4:=hk4.size
  have hrows4:NRows (w1.heap.size+2) (fun b=>U b∨some b=v'.ownBlock) A5 (vals++ [Value.slice xa xn xc]) (pre++ [x]):=by
   have hA4:Keep (fun b=>b=w.heap.size+1∨some b=(Value.slice sa sn sc).ownBlock) A2 A5:=((hE3.keep).trans (hk4.mono (fun b _ hb=> .inr hb))).trans (hk5.mono (fun b _ hb=> .inl hb))
   have hnv2:RowZ (w1.heap.size+2) U A2 (.slice xa xn xc) (x.map vs):=by
    refine⟨hnv.1.blocks (fun a n c hv=>?_),fun a n c hv=>?_⟩
    ·obtain⟨k1,k2,k3⟩:=hnv.2 a n c hv
     exact hA2.block _ k2 (by unfold two;omega)
    ·obtain⟨k1,k2,k3⟩:=hnv.2 a n c hv
     exact⟨k1,by omega,k3⟩
   have hall:NRows (w1.heap.size+2) U A2 (vals++ [Value.slice xa xn xc]) (pre++ [x]):=by
    refine⟨by simp[hrows2.1],fun i h1 h2=>?_⟩
    by_cases hi:i<vals.length
    ·have hi':i<pre.length:=by rw[←hrows2.1];exact hi
     rw[List.getElem_append_left hi,List.getElem_append_left hi']
     exact hrows2.2 i hi hi'
    ·have e1:i=vals.length:=by simp at h1;omega
     have e2:i=pre.length:=by rw[e1,hrows2.1]
     have g1:(vals++ [Value.slice xa xn xc])[i]= .slice xa xn xc:=by subst e1;simp
     have g2:(pre++ [x])[i]=x:=by subst e2;simp
     rw[g1,g2];exact hnv2
   refine hall.keep hA4 (fun b hb h1 _=>?_) (fun b hb=>?_)
   ·rcases hb with hb|hb
    ·omega
    ·exact hUv b hb
   ·rcases hb with hb|hb
    ·exact .inl hb
    ·rcases hwhere b hb with h|h
     ·exact .inl (hUv b h)
     ·exact .inr (by omega)
  refine⟨fun b=>U b∨some b=v'.ownBlock,⟨?_,v',_,hb5,?_,hrows4,fun b hb=> .inr hb⟩,?_,?_⟩
  ·exact Keep.to_ext (Keep.to_ext (hEA2.trans hE3) rfl (fun b hb=>by have:=hge _ hb;omega) hk4) rfl (fun b hb=>by omega) hk5
  ·have:=zbm hown4 hk5 (fun b hb=>by omega)
   simpa using this
  ·intro b hb
   rcases hb with hb|hb
   ·exact .inl hb
   ·rcases hwhere b hb with h|h
    ·exact .inl (hUv b h)
    ·refine .inr ⟨by omega,?_⟩
     rcases hown4.2 with ⟨rfl,_⟩| ⟨g,cap,cur,rfl,_,hg,_⟩
     ·cases hb
     ·cases hb
      have:=(Array.getElem?_eq_some_iff.1 hg).1
      show g<_
      omega
  ·exact((hE3.keep).trans (hk4.mono (fun b _ hb=> .inr (hUv b hb)))).trans (hk5.mono (fun b _ hb=> .inl hb))
 ·rintro xs U w4 rfl hsz4 hU ⟨hE4,v,vals,hb4,hown4,hrows,hUv⟩ hD
  have hcell:zai w4 (some ⟨w.heap.size+1,0,Option.none⟩)=some v:=by
   show w4.cell? _=_
   rw[zaz hb4];rfl
  repeat refine c_r ?_
  refine rq ?_;intro gd K hgd hK
  try simp (disch:=first|omega|assumption|rfl) only[go_sem,hcell]
  refine Fn.mono (ClipN_ok (Row.of_owns hown4)) ?_
  rintro u w5 ⟨⟨hu,hE5⟩,huv⟩
  have hv4:∀a n c,v= .slice (some a) n c→w1.heap.size+2≤a.block∧a.block<w4.heap.size:=by
   have hge:∀b,some b=v.ownBlock→w1.heap.size+2≤b:=fun b hb=>zhf hown4 hb
   intro a n c hv
   rcases hown4.2 with ⟨h,_⟩| ⟨g,cap,cur,h,_,hg,_⟩
   ·rw[h]at hv;cases hv
   ·rw[h]at hv hge;cases hv
    exact⟨hge _ rfl,(Array.getElem?_eq_some_iff.1 hg).1⟩
  try simp only[go_sem]
  refine hK _ _ ?_;clear hK hgd;clear K;try clear gd
  repeat refine c_r ?_
  refine zc7 (by simp) rfl Tryz.ntmps114 (by simp only[go_sem];rfl) ((hE5.block _ (Array.getElem?_eq_some_iff.1 hD).1 (fun h=>h)).trans hD) ?_
  intro w6 hk6 _
  have hD5:=(hE5.block _ (Array.getElem?_eq_some_iff.1 hD).1 (fun h=>h)).trans hD
  have hs5:=hE5.size
  have hs6':=hk6.size
  refine⟨Keep.to_ext (hE4.trans hE5) rfl (fun b hb=>by omega) hk6,fun S hS=>⟨vals,⟨hu.shut hD5 hk6,fun a n c h=>?_⟩,hrows.1,fun i h1 h2=>⟨((hrows.2 i h1 h2).1.ext hE5).shut hD5 hk6,fun a n c h=>?_⟩⟩⟩
  ·obtain⟨n',c',h'⟩:=huv _ _ _ h
   obtain⟨k1,k2⟩:=hv4 _ _ _ h'
   exact⟨Nat.zero_le _,by omega,fun h=>by have:=hS _ h;omega⟩
  ·obtain⟨k1,k2,k3⟩:=(hrows.2 i h1 h2).2 _ _ _ h
   exact⟨Nat.zero_le _,by omega,fun h=>by have:=hS _ h;omega⟩
structure TI(w0 w:World)(tb:Nat)(s:TS)(ps:List (Nm×Value)):Prop where
 lies:TAt w tb s
 ok:TOk s
 hist:Hist (.bool false) s ps
 new:∀b,tblk tb s b→w0.heap.size≤b
 ext:Ext w0 w
theorem TI.on{w0 w x:World}{tb:Nat}{s:TS}{ps:List (Nm×Value)}(h:TI w0 w tb s ps)(hE:Ext w x):TI w0 x tb s ps:=
 ⟨h.lies.ext hE,h.ok,h.hist,h.new,h.ext.trans hE⟩
theorem TI.lt{w0 w:World}{tb:Nat}{s:TS}{ps:List (Nm×Value)}(h:TI w0 w tb s ps):∀b,tblk tb s b→b<w.heap.size:=fun _ hb=>h.lies.lt hb
theorem New_ti(w0 w:World)(hE:Ext w0 w):Fn Tryz.prog 161 #[] w (fun v w'=>Ext w w'∧∃tb s,v=zaq tb∧TI w0 w' tb s []∧∀b,tblk tb s b→w.heap.size≤b):=by
 refine Fn.mono (New_ok w) ?_
 rintro _ w' ⟨rfl,hE',hok,hat⟩
 refine⟨hE',_,_,rfl,⟨hat,hok,⟨fun g=>?_,fun g=>rfl,fun g=>rfl⟩,fun b hb=>?_,hE.trans hE'⟩,fun b hb=>?_⟩
 ·simp[ts0]
 ·have:=hE.size
  rcases hb with rfl| ⟨g,_,rfl|rfl⟩<;>(try simp only[ts0])<;>omega
 ·rcases hb with rfl| ⟨g,_,rfl|rfl⟩<;>(try simp only[ts0])<;>omega
def Still(tb:Nat)(s:TS)(w:World)(nv:Value)(l:List Value):Prop:=∀A,Keep (tblk tb s) w A→Row A nv l
theorem TI.still{w0 w:World}{tb:Nat}{s:TS}{ps:List (Nm×Value)}(h:TI w0 w tb s ps){nv:Value}{l:List Value}(hr:Row w0 nv l):Still tb s w nv l:=fun _ hA=>hr.ext (Keep.to_ext h.ext rfl h.new hA)
theorem Still.of_row{tb:Nat}{s:TS}{w:World}{nv:Value}{l:List Value}(h:RowZ 0 (tblk tb s) w nv l):Still tb s w nv l:=fun _ hA=>(h.turn hA (fun _ h=> .inl h)).1
theorem Put_ti{w0 w:World}{tb:Nat}{s:TS}{ps:List (Nm×Value)}{n:Nm}{nv v:Value}(h:TI w0 w tb s ps)(hr:Still tb s w nv (n.map vs))(hn:LB n)(hlen:n.length≤9000000000000000000)(hv:one v=true):
  Fn Tryz.prog 163 #[zaq tb,nv,v] w (fun _ w'=>∃s',TI w0 w' tb s' (ps++ [(n,v)])∧Keep (tblk tb s) w w'∧(∀b,tblk tb s' b→tblk tb s b∨w.heap.size≤b)):=by
 refine Fn.mono (Put_ok h.lies h.ok hr hn hlen hv) ?_
 rintro _ w' ⟨s',hok,hat,hput,hk,hb⟩
 refine⟨s',⟨hat,hok,⟨fun g=>?_,fun g=>?_,fun g=>?_⟩,fun b hb'=>?_,Keep.to_ext h.ext rfl h.new hk⟩,hk,hb⟩
 ·rw[hput.names,h.hist.names]
  constructor
  ·rintro((rfl| ⟨p,hp,hs⟩)|hs)
   ·exact .inl rfl
   ·exact .inr ⟨p,List.mem_append_left _ hp,hs⟩
   ·exact .inr ⟨(n,v),by simp,hs⟩
  ·rintro(rfl| ⟨p,hp,hs⟩)
   ·exact .inl (.inl rfl)
   ·rcases List.mem_append.1 hp with hp|hp
    ·exact .inl (.inr ⟨p,hp,hs⟩)
    ·rw[List.mem_singleton.1 hp]at hs;exact .inr hs
 ·rw[hput.val,zeZ]
  by_cases e:zah n=g
  ·rw[if_pos e.symm,if_pos e];rfl
  ·rw[if_neg (fun x=>e x.symm),if_neg e];exact h.hist.val g
 ·rw[hput.has,zeZ]
  by_cases e:zah n=g
  ·rw[if_pos e.symm,if_pos e];rfl
  ·rw[if_neg (fun x=>e x.symm),if_neg e];exact h.hist.has g
 ·rcases hb b hb' with h'|h'
  ·exact h.new b h'
  ·have:=h.ext.size;omega
theorem TI.other{w0 w w':World}{tb:Nat}{s:TS}{ps:List (Nm×Value)}{S:Nat→Prop}(h:TI w0 w tb s ps)(hk:Keep S w w')(hS:∀b,tblk tb s b→¬S b)(hE:Ext w0 w'):TI w0 w' tb s ps:=
 ⟨h.lies.keep (fun b hb=>hk.block b (h.lt b hb) (hS b hb)),h.ok,h.hist,h.new,hE⟩
theorem Names_tiZ{w0 w:World}{tb:Nat}{s:TS}{ps:List (Nm×Value)}(h:TI w0 w tb s ps){k:Nat}(hk:zil k ps)(hk1:k≤1000)(hl:s.names.length≤900000000):
  Fn Tryz.prog 114 #[zaq tb] w (fun v w'=>Ext w w'∧∃L,(∀S:Nat→Prop,(∀b,S b→b<w.heap.size)→NamesZ S w' v L)∧Rise L∧(∀g,g∈L↔g∈s.names)∧L.length=s.names.length):=by
 have hd:=h.hist.deep hk
 obtain⟨h1,h2,h3⟩:=zjl h.ok.tail h.ok.nd (k:=k+1) h.ok.nil (fun g hg=>by have:=(hd g hg).1;omega)
 refine Fn.mono (zjw (fuel:=k+1) h.lies h.ok ⟨fun g hg=>(hd g hg).2.2,fun g hg=>(hd g hg).2.1,by omega⟩ (fun g hg=>by have:=(hd g hg).1;omega) (fun g hg=>by have:=(hd g hg).1;omega) (by omega)) ?_
 rintro v w' ⟨hE,hN⟩
 exact⟨hE,_,hN,h1,h2,h3⟩
end Go.Proofs.YtopbbjdembnfdaaGreat.T_bool
namespace Go.Proofs.YtopbbjdembnfdaaGreat
open Go
set_option maxRecDepth 10000
def putB(ps:List Nm):List (Nm×Value):=ps.map fun p=>(p,.bool true)
theorem putB_app{ps:List Nm}{n:Nm}:putB ps++ [(n,.bool true)]=putB (ps++ [n]):=by simp[putB]
theorem putB_k{ps:List Nm}(h:∀p∈ps,NmK p):zil 255 (putB ps):=fun p hp=>by
 unfold putB at hp
 obtain⟨q,hq,rfl⟩:=List.mem_map.1 hp
 exact⟨(h q hq).LB,(h q hq).len⟩
theorem tb_mem{w0 w:World}{tb:Nat}{s:TS}{ps:List Nm}(h:T_bool.TI w0 w tb s (putB ps))(g:Nm):g∈s.names↔inS ps g:=by
 rw[h.hist.names]
 unfold putB inS
 constructor
 ·rintro(h| ⟨p,hp,hs⟩)
  ·exact .inl h
  ·obtain⟨q,hq,rfl⟩:=List.mem_map.1 hp
   exact .inr ⟨q,hq,hs⟩
 ·rintro(h| ⟨p,hp,hs⟩)
  ·exact .inl h
  ·exact .inr ⟨_,List.mem_map_of_mem hp,hs⟩
theorem tb_len{w0 w:World}{tb:Nat}{s:TS}{ps:List Nm}(h:T_bool.TI w0 w tb s (putB ps)):s.names.length=(canN ps).length:=canN_len h.ok.nd (tb_mem h)
theorem zju{w0 w:World}{tb:Nat}{s:TS}{ps:List Nm}{n:Nm}{nv:Value}(h:T_bool.TI w0 w tb s (putB ps))(hr:T_bool.Still tb s w nv (n.map vs))(hn:NmK n):
  Fn Tryz.prog 163 #[zaq tb,nv,.bool true] w (fun _ w'=>∃s',T_bool.TI w0 w' tb s' (putB (ps++ [n]))∧Keep (tblk tb s) w w'∧∀b,tblk tb s' b→tblk tb s b∨w.heap.size≤b):=by
 have hl:=hn.len
 refine Fn.mono (T_bool.Put_ti h hr hn.LB (by omega) rfl) ?_
 rintro _ w' ⟨s',h1,h2,h3⟩
 rw[putB_app]at h1
 exact⟨s',h1,h2,h3⟩
theorem zc4{w0 w:World}{tb:Nat}{s:TS}{ps:List Nm}(h:T_bool.TI w0 w tb s (putB ps))(hl:(canN ps).length≤1000000000000):
  Fn Tryz.prog 116 #[zaq tb] w (fun v w'=>v=vi (canN ps).length∧Ext w w'):=by
 refine Fn.mono (T_bool.Len_ok h.lies) ?_
 rintro _ w' ⟨rfl,hE⟩
 rw[tb_len h]
 refine⟨?_,hE⟩
 rw[show IntKind.i64.wrap ((canN ps).length:Int)=((canN ps).length:Int) from wrap_i64 (by omega) (by omega)]
theorem zeN{w0 w:World}{tb:Nat}{s:TS}{ps:List Nm}(h:T_bool.TI w0 w tb s (putB ps))(hk:∀p∈ps,NmK p)(hl:(canN ps).length≤900000000):
  Fn Tryz.prog 114 #[zaq tb] w (fun v w'=>Ext w w'∧∀S:Nat→Prop,(∀b,S b→b<w.heap.size)→NamesZ S w' v (canN ps)):=by
 refine Fn.mono (T_bool.Names_tiZ h (putB_k hk) (by decide) (by rw[tb_len h];exact hl)) ?_
 rintro v w' ⟨hE,L,h1,h2,h3,h4⟩
 have:=canN_eq h2 fun g=>(h3 g).trans (tb_mem h g)
 subst this
 exact⟨hE,h1⟩
theorem zcq{α β:Type}{f:α→List β}{l:List α}{i:Nat}(h:i<l.length):(l.drop i).flatMap f=f l[i]++(l.drop (i+1)).flatMap f:=by
 rw[List.drop_eq_getElem_cons h,List.flatMap_cons]
def encB(w0:World)(_:Nat)(x:Nm)(_:Nat→Prop)(_:World)(args:Array Value):Prop:=∃v,args=#[v]∧Row w0 v (x.map vs)
theorem names_ok(w:World){a b c d:Value}:
  Fn Tryz.prog 162 #[.agg #[a,b,c,d]] w (fun v w'=>v= .func (.func 203) #[] #[.pointer (some ⟨w.heap.size,0,Option.none⟩)]∧Ext w w'∧w'.heap.size=w.heap.size+1∧
   w'.heap[w.heap.size]? =some (.cells #[a,b,c,d] 65 (0,0))):=by
 refine enter Tryz.func162 Tryz.ntmps162 rfl rfl ?_
 repeat refine c_r ?_
 refine rg0 ?_
 repeat refine c_r ?_
 refine zaS ?_
 intro w1 hE1 hs1 hA
 refine rg0 ?_
 repeat refine c_r ?_
 refine rt0 Tryz.ntmps162 ?_
 exact⟨rfl,hE1,hs1,hA⟩
structure NI(w0 W0 W:World)(C:Nat→Prop)(J:List Nm→(Nat→Prop)→World→Prop)(pre:List Nm)(U:Nat→Prop)(v:World):Prop where
 j:J pre U v
 u:∀b,U b→W.heap.size≤b∧b<v.heap.size
 kb:KeepB W0.heap.size C W v
 e:Ext w0 v
 s:W.heap.size≤v.heap.size
set_option maxHeartbeats 4000000 in
theorem namesIt{w0 W0:World}{C:Nat→Prop}{bn:Nat}{cs:List Value}{N:NetL}(hE0:Ext w0 W0)(hb:W0.heap[bn]? =some (.cells cs.toArray 65 (0,0)))
  (hC:∀b,C b→w0.heap.size≤b∧b<W0.heap.size) (hN:NetAt w0 cs N) (hG:zbg N):
  IterU Tryz.prog 203 #[.pointer (some ⟨bn,0,Option.none⟩)] W0 W0.heap.size C 0 (fun pre x=>∃suf,zbu N=pre++x::suf) (fun xs=>xs=zbu N) (encB w0):=by
 intro lp J Jx W hW hnW hJ hJx hY h0
 obtain⟨hv,rv,rfl,hh,hr⟩:=hN.ex
 obtain⟨ah,ch,rfl,hch,hgh⟩:=hh.open
 have hEW:=hE0.trans hW
 have hl6:=hG.h1.2
 have pn:zai W (some ⟨bn,0,Option.none⟩)=some (.slice ah N.hosts.length ch):=zae (Ext.at hW hb) rfl
 have hnotC:∀{b},W.heap.size≤b→¬C b:=fun {b} h hc=>by have:=(hC b hc).2;omega
 have up:∀{pre:List Nm} {U:Nat→Prop} {v x:World},NI w0 W0 W C J pre U v→Ext v x→NI w0 W0 W C J pre U x:=fun {pre U v x} h hE=>by
  have h1:=hE.size
  have h2:=h.s
  exact⟨hJ _ _ _ _ h.j (hE.mono (fun _ _ h=>h.elim)),fun b hb=>by have:=h.u b hb;omega,h.kb.trans (ext_toB hE (by omega)),h.e.trans hE,by omega⟩
 have yl:∀{pre:List Nm} {U:Nat→Prop} {v:World} {x:Nm} {nv:Value} {suf:List Nm},NI w0 W0 W C J pre U v→zbu N=pre++x::suf→Row w0 nv (x.map vs)→Yld Tryz.prog lp #[nv] v (fun r B=>
   (r= .bool true∧∃U',NI w0 W0 W C J (pre++ [x]) U' B∧(∀b,U' b→U b∨(v.heap.size≤b∧b<B.heap.size))∧KeepR W0.heap.size W.heap.size (fun b=>C b∨U b) v B)∨(r= .bool false∧Jx (pre++ [x]) B)):=fun {pre U v x nv suf} h he hr=>by
  have h2:=h.s
  refine Yld.mono (hY pre U x v _ ⟨suf,he⟩ h.j (by omega) h.kb ⟨nv,rfl,hr⟩) ?_
  rintro r B (⟨rfl,U',hj',hU',hk⟩| ⟨rfl,hjx⟩)
  ·have h3:=hk.size
   have h4:=hk.toB h.kb (by omega) (fun b hb=>by have:=(h.u b hb).1;omega)
   exact .inl ⟨rfl,U',⟨hj',fun b hb=>by
    rcases hU' b hb with h'|h'
    ·have:=h.u b h';omega
    ·omega,h4,zi0 hEW h4 (by have:=hE0.size;omega) (fun b hb=>(hC b hb).1),by omega⟩,hU',hk⟩
  ·exact .inr ⟨rfl,hjx⟩
 have own:∀{U:Nat→Prop} {v B:World} {b:Nat} {o:Obj},KeepR W0.heap.size W.heap.size (fun b=>C b∨U b) v B→v.heap[b]? =some o→W.heap.size≤b→¬U b→B.heap[b]? =some o:=fun {U v B b o} hk h h1 h2=>
  (hk.block b (Array.getElem?_eq_some_iff.1 h).1 (.inr h1) (fun hc=>hc.elim (hnotC h1) h2)).trans h
 refine enter Tryz.func203 Tryz.ntmps203 rfl rfl ?_
 repeat refine c_r ?_
 refine rg2 pn Nat.add_zero ?_
 repeat refine c_r ?_
 refine zaj (fun m σ ds v=>ds=[]∧∃(i:Nat) (pre:List Nm) (U:Nat→Prop),i+m=N.hosts.length∧σ 14=vi i∧σ 13=vi N.hosts.length∧σ 12= .slice ah N.hosts.length ch∧σ 0= .func (.yield lp) #[] #[]∧NI w0 W0 W C J pre U v∧zbu N=pre++(N.hosts.drop i).flatMap zf4) N.hosts.length ?_ ?_
 ·exact⟨rfl,0,[],NoS,by omega,vr0,vq0,vq0,vq0,⟨h0,fun b h=>h.elim,KeepB.refl _ _ _,hEW,Nat.le_refl _⟩,rfl⟩
 rintro m σ ds v ⟨rfl,i,pre,U,him,s14,s13,s12,s0,hI,hbe⟩
 repeat refine c_r ?_
 refine rg2 s14 s13 ?_
 repeat refine c_r ?_
 refine wc0 ?_ ?_
 ·intro hlt
  simp only[decide_eq_true_eq]at hlt
  have hi:i<N.hosts.length:=by omega
  have hi0:(0:Int)≤(i:Int):=by omega
  have hi1':(i:Int)+1=((i+1:Nat):Int):=by push_cast;rfl
  obtain⟨hcs,hce,hH⟩:=hgh i hi
  have hmem:=List.getElem_mem hi
  rw[zcq hi]at hbe
  obtain⟨h,hhe⟩:∃x,N.hosts[i]=x:=⟨_,rfl⟩
  rw[hhe]at hH hmem hbe
  obtain⟨nv,b1,b2,b3,b4,zv,rfl,_,hnv,hz⟩:=hH.ex
  obtain⟨az,cz,rfl,hcz,hgz⟩:=hz.open
  have hzl:=hG.zl h hmem
  obtain⟨xa,rfl⟩:=Option.isSome_iff_exists.1 (zam hce)
  obtain⟨xi,hxi⟩:∃xi,adr (some xa) (i*6)=some xi:=⟨_,rfl⟩
  rw[hxi]at hce
  have d:=zag hI.e hce
  have n1:=hnv.isOne
  repeat refine c_r ?_
  refine rq ?_;intro gd K hgd hK
  try simp (disch:=first|omega|assumption|rfl) only[go_sem,s14,s12,hi0,hlt,hxi,d]
  refine zbv (P:=Tryz.prog) (l:=[nv,zaf b1,zaf b2,zaf b3,zaf b4,.slice az h.zones.length cz]) rfl (fun q hq=>by simp at hq;rcases hq with rfl|rfl|rfl|rfl|rfl|rfl<;>first|exact n1|rfl) rfl rfl ?_
  intro v1 hE1 hs1 hB4
  try simp only[go_sem]
  refine hK _ _ ?_;clear hK hgd;clear K;try clear gd
  have hI1:=up hI hE1
  have hvs:=hI.s
  obtain⟨c4,hc4⟩:∃b,v.heap.size=b:=⟨_,rfl⟩
  rw[hc4]at hB4 hs1 ⊢
  have q0:zai v1 (some ⟨c4,0,Option.none⟩)=some nv:=zae hB4 rfl
  have hbe1:zbu N=pre++h.name::(h.zones.flatMap zfd++(N.hosts.drop (i+1)).flatMap zf4):=hbe
  repeat refine c_r ?_
  refine rq ?_;intro gd K hgd hK
  try simp (disch:=first|omega|assumption|rfl) only[go_sem,q0,Nat.add_zero,s0]
  refine Yld.mono (yl hI1 hbe1 hnv) ?_
  rintro r B (⟨rfl,U1,hI2,hU1,hk1⟩| ⟨rfl,hjx⟩)
  ·try simp only[go_sem]
   refine hK _ _ ?_;clear hK hgd;clear K;try clear gd
   have hB42:=own hk1 hB4 (by omega) (fun hu=>by have:=hI.u _ hu;omega)
   have q5:zai B (some ⟨c4,5,Option.none⟩)=some (.slice az h.zones.length cz):=zae hB42 rfl
   obtain⟨R1,hR1⟩:∃R,(N.hosts.drop (i+1)).flatMap zf4=R:=⟨_,rfl⟩
   have hbe2:zbu N=(pre++ [h.name])++(h.zones.flatMap zfd++R1):=by rw[hbe1,hR1];simp
   clear hbe hbe1
   repeat refine c_r ?_
   refine wf trivial ?_
   repeat refine c_r ?_
   refine rg2 q5 Nat.zero_add ?_
   repeat refine c_r ?_
   refine zaj (fun m σ ds v=>ds=[]∧∃(k:Nat) (pre:List Nm) (U:Nat→Prop),k+m=h.zones.length∧σ 26=vi k∧σ 25=vi h.zones.length∧σ 24= .slice az h.zones.length cz∧σ 14=vi i∧σ 13=vi N.hosts.length∧σ 12= .slice (some xa) N.hosts.length ch∧σ 0= .func (.yield lp) #[] #[]∧NI w0 W0 W C J pre U v∧zbu N=pre++((h.zones.drop k).flatMap zfd++R1)) h.zones.length ?_ ?_
   ·exact⟨rfl,0,_,U1,by omega,vr0,vq0,vq0,(vq1 s14),(vq1 s13),(vq1 s12),(vq1 s0),hI2,hbe2⟩
   clear hI hI1 hI2 d hce q0 q5 hB4 hB42 hk1 hU1 s14 s13 s12 s0 hbe2
   rintro m2 σ2 ds2 v2 ⟨rfl,k,pre2,U2,hkm,s26,s25,s24,s14,s13,s12,s0,hI,hbe⟩
   repeat refine c_r ?_
   refine rg2 s26 s25 ?_
   repeat refine c_r ?_
   refine wc0 ?_ ?_
   ·intro hlt2
    simp only[decide_eq_true_eq]at hlt2
    have hk:k<h.zones.length:=by omega
    have hk0:(0:Int)≤(k:Int):=by omega
    have hk1':(k:Int)+1=((k+1:Nat):Int):=by push_cast;rfl
    obtain⟨zcs,hze,hZ⟩:=hgz k hk
    have hzmem:=List.getElem_mem hk
    rw[zcq hk,List.append_assoc]at hbe
    obtain⟨z,hzz⟩:∃x,h.zones[k]=x:=⟨_,rfl⟩
    rw[hzz]at hZ hzmem hbe
    obtain⟨ov,lv,rfl,hov,hlv⟩:=hZ.ex
    obtain⟨al,cl,rfl,hcl,hgl⟩:=hlv.open
    have hrl:=(hG.z.z h hmem z hzmem).gd.len
    obtain⟨xz,rfl⟩:=Option.isSome_iff_exists.1 (zam hze)
    obtain⟨xk,hxk⟩:∃xi,adr (some xz) (k*2)=some xi:=⟨_,rfl⟩
    rw[hxk]at hze
    have d:=zag hI.e hze
    have o1:=hov.isOne
    repeat refine c_r ?_
    refine rq ?_;intro gd K hgd hK
    try simp (disch:=first|omega|assumption|rfl) only[go_sem,s26,s24,hk0,hlt2,hxk,d]
    refine zbv (P:=Tryz.prog) (l:=[ov,.slice al z.recs.length cl]) rfl (zd2 o1 rfl) rfl rfl ?_
    intro v3 hE3 hs3 hB6
    try simp only[go_sem]
    refine hK _ _ ?_;clear hK hgd;clear K;try clear gd
    have hI1:=up hI hE3
    have hvs2:=hI.s
    obtain⟨c6,hc6⟩:∃b,v2.heap.size=b:=⟨_,rfl⟩
    rw[hc6]at hB6 hs3 ⊢
    have q0:zai v3 (some ⟨c6,0,Option.none⟩)=some ov:=zae hB6 rfl
    obtain⟨R2,hR2⟩:∃R,(h.zones.drop (k+1)).flatMap zfd++R1=R:=⟨_,rfl⟩
    have hbe1:zbu N=pre2++z.o::(z.recs.flatMap recN++R2):=by rw[hbe,hR2];rfl
    repeat refine c_r ?_
    refine rq ?_;intro gd K hgd hK
    try simp (disch:=first|omega|assumption|rfl) only[go_sem,q0,Nat.add_zero,s0]
    refine Yld.mono (yl hI1 hbe1 hov) ?_
    rintro r B2 (⟨rfl,U3,hI2,hU3,hk3⟩| ⟨rfl,hjx⟩)
    ·try simp only[go_sem]
     refine hK _ _ ?_;clear hK hgd;clear K;try clear gd
     have hB62:=own hk3 hB6 (by omega) (fun hu=>by have:=hI.u _ hu;omega)
     have q1:zai B2 (some ⟨c6,1,Option.none⟩)=some (.slice al z.recs.length cl):=zae hB62 rfl
     have hbe2:zbu N=(pre2++ [z.o])++(z.recs.flatMap recN++R2):=by rw[hbe1];simp
     clear hbe hbe1
     repeat refine c_r ?_
     refine wf trivial ?_
     repeat refine c_r ?_
     refine rg2 q1 Nat.zero_add ?_
     repeat refine c_r ?_
     refine zaj (fun m σ ds v=>ds=[]∧∃(j:Nat) (pre:List Nm) (U:Nat→Prop),j+m=z.recs.length∧σ 38=vi j∧σ 37=vi z.recs.length∧σ 36= .slice al z.recs.length cl∧σ 26=vi k∧σ 25=vi h.zones.length∧σ 24= .slice (some xz) h.zones.length cz∧σ 14=vi i∧σ 13=vi N.hosts.length∧σ 12= .slice (some xa) N.hosts.length ch∧σ 0= .func (.yield lp) #[] #[]∧NI w0 W0 W C J pre U v∧zbu N=pre++((z.recs.drop j).flatMap recN++R2)) z.recs.length ?_ ?_
     ·exact⟨rfl,0,_,U3,by omega,vr0,vq0,vq0,(vq1 s26),(vq1 s25),(vq1 s24),(vq1 s14),(vq1 s13),(vq1 s12),(vq1 s0),hI2,hbe2⟩
     clear hI hI1 hI2 d hze q0 q1 hB6 hB62 hk3 hU3 s26 s25 s24 s14 s13 s12 s0 hbe2
     rintro m3 σ3 ds3 v4 ⟨rfl,j,pre3,U4,hjm,s38,s37,s36,s26,s25,s24,s14,s13,s12,s0,hI,hbe⟩
     repeat refine c_r ?_
     refine rg2 s38 s37 ?_
     repeat refine c_r ?_
     refine wc0 ?_ ?_
     ·intro hlt3
      simp only[decide_eq_true_eq]at hlt3
      have hj:j<z.recs.length:=by omega
      have hj0:(0:Int)≤(j:Int):=by omega
      have hj1':(j:Int)+1=((j+1:Nat):Int):=by push_cast;rfl
      obtain⟨rcs,hre,hR⟩:=hgl j hj
      have hrmem:=List.getElem_mem hj
      rw[zcq hj,List.append_assoc]at hbe
      obtain⟨r,hrr⟩:∃x,z.recs[j]=x:=⟨_,rfl⟩
      rw[hrr]at hR hrmem hbe
      have hrone:=hR.ones
      obtain⟨ow,ds,rfl,how,hD⟩:=hR.ex
      obtain⟨nm,nu,tx,rw',rfl,⟨vals,hvr,hvl,hvn⟩,_,_,_⟩:=hD.ex
      have hrn:=zhb hG hmem hzmem hrmem
      obtain⟨xr,rfl⟩:=Option.isSome_iff_exists.1 (zam hre)
      obtain⟨xj,hxj⟩:∃xi,adr (some xr) (j*7)=some xi:=⟨_,rfl⟩
      rw[hxj]at hre
      have d:=zag hI.e hre
      have w1o:=how.isOne
      repeat refine c_r ?_
      refine rq ?_;intro gd K hgd hK
      try simp (disch:=first|omega|assumption|rfl) only[go_sem,s38,s36,hj0,hlt3,hxj,d]
      refine zbv (P:=Tryz.prog) rfl hrone rfl rfl ?_
      intro v5 hE5 hs5 hB8
      try simp only[go_sem]
      refine hK _ _ ?_;clear hK hgd;clear K;try clear gd
      have hI1:=up hI hE5
      have hvs4:=hI.s
      obtain⟨c8,hc8⟩:∃b,v4.heap.size=b:=⟨_,rfl⟩
      rw[hc8]at hB8 hs5 ⊢
      have q0:zai v5 (some ⟨c8,0,Option.none⟩)=some ow:=zae hB8 rfl
      have q3:zai v5 (some ⟨c8,3,Option.none⟩)=some nm:=zae hB8 rfl
      obtain⟨R3,hR3⟩:∃R,(z.recs.drop (j+1)).flatMap recN++R2=R:=⟨_,rfl⟩
      have hbe1:zbu N=pre3++(recN r++R3):=by rw[hbe,hR3]
      obtain⟨an,cn,hnm,hcn,hgn⟩:=id hvr
      have hvl8:vals.length≤8:=by have:=hrn;unfold recN at this;rw[List.length_cons]at this;omega
      repeat refine c_r ?_
      refine rq ?_;intro gd K hgd hK
      try simp (disch:=first|omega|assumption|rfl) only[go_sem,q0,q3,Nat.add_zero,Nat.zero_add]
      refine zjh (z:= .slice Option.none 0 0) rfl rfl rfl rfl (by obtain⟨a,c,rfl,_⟩:=how;rfl) ?_
      intro v6 hE6 hs6 hO6
      have q36:=zab hE6 q3
      try simp (disch:=first|omega|assumption|rfl) only[go_sem,q36,Nat.add_zero,Nat.zero_add]
      refine zfT hO6 (hvr.ext ((hI.e.trans hE5).trans hE6)) (by rfl) (by rfl) (by rfl) (by rfl) (by rfl) (by rfl) (by rfl) (by rfl) (fun q hq=>?_) (by simp;omega) (by decide) (by omega) ?_
      ·obtain⟨i9,hi9,rfl⟩:=List.mem_iff_getElem.1 hq
       exact(hvn i9 hi9 (by omega)).isOne
      intro sv v7 hO7 hE7 hk7 hb7
      obtain⟨a8,c8',hsv,hc8',hg8⟩:=id hO7.row
      try simp (disch:=first|omega|assumption|rfl) only[go_sem,hsv]
      refine hK _ _ ?_;clear hK hgd;clear K;try clear gd
      have hv57:Ext v5 v7:=Keep.to_ext hE6 rfl (fun b hb=>by have:=hO6.ge hb;omega) hk7
      have hI3:=up hI1 hv57
      have hz7:=hv57.size
      have hsz:RowZ W.heap.size U4 v7 sv ([ow]++vals):=⟨hO7.row,fun a n c hv=>by
       obtain⟨k1,k2⟩:=hO7.blk a n c hv
       exact⟨by omega,k2,fun hu=>by have:=hI.u _ hu;omega⟩⟩
      have hvl9:([ow]++vals).length=(recN r).length:=by unfold recN;simp[hvl]
      have hrow9:∀q (h:q<([ow]++vals).length) (h':q<(recN r).length),Row w0 ([ow]++vals)[q] ((recN r)[q].map vs):=fun q h h'=>by
       cases q with
       |zero=>exact how
       |succ q=>exact hvn q (by simpa using h) (by simpa [recN] using h')
      obtain⟨Vs,hVs⟩:∃V,[ow]++vals=V:=⟨_,rfl⟩
      rw[hVs]at hsz hvl9 hsv hc8' hg8
      simp only[hVs]at hrow9
      obtain⟨L,hL⟩:∃L,recN r=L:=⟨_,rfl⟩
      rw[hL]at hvl9 hbe1 hrn
      simp only[hL]at hrow9
      rw[hvl9]at hsv
      rw[hsv]at hsz
      have hl9:(ow::vals).length=L.length:=by rw[←hvl9,←hVs];rfl
      clear hg8 hO7 hO6 hB8 q0 q3 d
      repeat refine c_r ?_
      refine zaj (fun m σ ds v=>ds=[]∧∃(q:Nat) (pre:List Nm) (U:Nat→Prop),q+m=L.length∧σ 50=vi q∧σ 49=vi L.length∧σ 48= .slice a8 L.length c8'∧σ 38=vi j∧σ 37=vi z.recs.length∧σ 36= .slice (some xr) z.recs.length cl∧σ 26=vi k∧σ 25=vi h.zones.length∧σ 24= .slice (some xz) h.zones.length cz∧σ 14=vi i∧σ 13=vi N.hosts.length∧σ 12= .slice (some xa) N.hosts.length ch∧σ 0= .func (.yield lp) #[] #[]∧NI w0 W0 W C J pre U v∧RowZ W.heap.size U v (.slice a8 L.length c8') Vs∧zbu N=pre++(L.drop q++R3)) L.length ?_ ?_
      ·exact⟨rfl,0,_,U4,by omega,vr0,(vq1 hl9),(vq1 hl9),(vq1 s38),(vq1 s37),(vq1 s36),(vq1 s26),(vq1 s25),(vq1 s24),(vq1 s14),(vq1 s13),(vq1 s12),(vq1 s0),hI3,hsz,hbe1⟩
      clear hI hI1 hI3 hsz hbe hbe1 s38 s37 s36 s26 s25 s24 s14 s13 s12 s0
      rintro m4 σ4 ds4 v8 ⟨rfl,q,pre4,U5,hqm,s50,s49,s48,s38,s37,s36,s26,s25,s24,s14,s13,s12,s0,hI,hsz,hbe⟩
      repeat refine c_r ?_
      refine rg2 s50 s49 ?_
      repeat refine c_r ?_
      refine wc0 ?_ ?_
      ·intro hlt4
       simp only[decide_eq_true_eq]at hlt4
       have hq:q<L.length:=by omega
       have hq0:(0:Int)≤(q:Int):=by omega
       have hq1':(q:Int)+1=((q+1:Nat):Int):=by push_cast;rfl
       obtain⟨a9,c9,e9,_,hg9⟩:=id hsz.1
       have ea:a8=a9:=by injection e9
       subst ea
       have hcell:=hg9 q (by omega)
       obtain⟨xs9,rfl⟩:=Option.isSome_iff_exists.1 (zad hcell)
       have hrq:=hrow9 q (by omega) hq
       obtain⟨yv,hyv⟩:∃y,Vs[q]'(by omega)=y:=⟨_,rfl⟩
       obtain⟨y,hye⟩:∃y,L[q]=y:=⟨_,rfl⟩
       rw[hyv,hye]at hrq
       rw[hyv]at hcell
       have hbe1:zbu N=pre4++y::(L.drop (q+1)++R3):=by rw[hbe,List.drop_eq_getElem_cons hq,hye];rfl
       repeat refine c_r ?_
       refine rg5 s50 s48 hq0 hlt4 hcell ?_
       repeat refine c_r ?_
       refine rq ?_;intro gd K hgd hK
       try simp (disch:=first|omega|assumption|rfl) only[go_sem,s0]
       refine Yld.mono (yl hI hbe1 hrq) ?_
       rintro rr B4 (⟨rfl,U6,hI2,hU6,hk6⟩| ⟨rfl,hjx⟩)
       ·try simp only[go_sem]
        refine hK _ _ ?_;clear hK hgd;clear K;try clear gd
        have hsz2:=hsz.keep hk6 (fun b hb=>by have:=(hC b hb).2;omega) hU6
        repeat refine c_r ?_
        refine wf trivial ?_
        repeat refine c_r ?_
        refine rg2 s50 hq1' ?_
        repeat refine c_r ?_
        exact⟨m4 - 1,by omega,rfl,q+1,_,U6,by omega,vq0,(vq1 s49),(vq1 s48),(vq1 s38),(vq1 s37),(vq1 s36),(vq1 s26),(vq1 s25),(vq1 s24),(vq1 s14),(vq1 s13),(vq1 s12),(vq1 s0),hI2,hsz2,by rw[hbe1];simp⟩
       ·try simp only[go_sem]
        refine hK _ _ ?_;clear hK hgd;clear K;try clear gd
        repeat refine c_r ?_
        refine wt trivial ?_
        repeat refine c_r ?_
        exact zar (by simp) rfl (.inr ⟨_,_,⟨_,hbe1⟩,hjx⟩)
      ·intro hge4
       simp only[decide_eq_false_iff_not]at hge4
       rw[List.drop_of_length_le (by omega),List.nil_append,←hR3]at hbe
       repeat refine c_r ?_
       refine rg2 s38 hj1' ?_
       repeat refine c_r ?_
       exact⟨m3 - 1,by omega,rfl,j+1,_,U5,by omega,vq0,(vq1 s37),(vq1 s36),(vq1 s26),(vq1 s25),(vq1 s24),(vq1 s14),(vq1 s13),(vq1 s12),(vq1 s0),hI,hbe⟩
     ·intro hge3
      simp only[decide_eq_false_iff_not]at hge3
      rw[List.drop_of_length_le (by omega),List.flatMap_nil,List.nil_append,←hR2]at hbe
      repeat refine c_r ?_
      refine rg2 s26 hk1' ?_
      repeat refine c_r ?_
      exact⟨m2 - 1,by omega,rfl,k+1,_,U4,by omega,vq0,(vq1 s25),(vq1 s24),(vq1 s14),(vq1 s13),(vq1 s12),(vq1 s0),hI,hbe⟩
    ·try simp only[go_sem]
     refine hK _ _ ?_;clear hK hgd;clear K;try clear gd
     repeat refine c_r ?_
     refine wt trivial ?_
     repeat refine c_r ?_
     exact zar (by simp) rfl (.inr ⟨_,_,⟨_,hbe1⟩,hjx⟩)
   ·intro hge2
    simp only[decide_eq_false_iff_not]at hge2
    rw[List.drop_of_length_le (by omega),List.flatMap_nil,List.nil_append,←hR1]at hbe
    repeat refine c_r ?_
    refine rg2 s14 hi1' ?_
    repeat refine c_r ?_
    exact⟨m - 1,by omega,rfl,i+1,_,U2,by omega,vq0,(vq1 s13),(vq1 s12),(vq1 s0),hI,hbe⟩
  ·try simp only[go_sem]
   refine hK _ _ ?_;clear hK hgd;clear K;try clear gd
   repeat refine c_r ?_
   refine wt trivial ?_
   repeat refine c_r ?_
   exact zar (by simp) rfl (.inr ⟨_,_,⟨_,hbe1⟩,hjx⟩)
 ·intro hge
  simp only[decide_eq_false_iff_not]at hge
  rw[List.drop_of_length_le (by omega),List.flatMap_nil,List.append_nil]at hbe
  repeat refine c_r ?_
  refine zar (by simp) rfl (.inl ⟨_,U,rfl,?_⟩)
  rw[hbe]
  exact hI.j
end Go.Proofs.YtopbbjdembnfdaaGreat
