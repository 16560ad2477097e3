/-
  Texts of a proof, joined: K20, K21, SO2, D4, D6, D7, Y0, K18, E0, D8, E1, K22, E2, E3, Y1, E4, E5, B4, K23, B0, L9, R4, GA, GB, GC, GD, K27, KC, KN, K32, GE, GF, HC, K25.
  Conditions: none.
-/
import Derived.Test.YtanmnkbccfcagaaGreatDoorQDW02
import Derived.Test.YtanmnkbccfcagaaGreatDoorQDW01
import Derived.Lib.Builder
import Derived.Lib.AppendStr
import Derived.Lib.UnsafeStr
import Derived.Test.YtanmnkbccfcagaaGreatDoorProg
import Derived.Shelf.LaysM
import Derived.Ground.MpProg
import Derived.Shelf.Strings.Cut
import Derived.Shelf.Strings.SlTrimAscii
import Derived.Shelf.Pu.ErrVarParseUint
import Derived.Shelf.Strings.Prefix
import Derived.Shelf.Small.Wraps
import Derived.Shelf.Strings.Split
import Derived.Shelf.Strconv.Itoa4
import Derived.Shelf.Bits.Mul64
import Derived.Lib.IndexMore
import Derived.Lib.ItoaNum
import Derived.ProofKit
import Derived.OpenShut
import Derived.SizedLaws
import Derived.Deep.Slices
import Derived.Lib.LaidTab
import Derived.Lib.ConvBytes
import Derived.Lib.BufferWrite
import Derived.Deep.WholeRow
import Derived.WalkKit
import Derived.Lib.MakeNoZero
set_option linter.unusedVariables false
set_option linter.unusedSimpArgs false
set_option linter.defProp false
set_option linter.unnecessarySimpa false
set_option maxHeartbeats 8000000
namespace Go.Proofs.YtanmnkbccfcagaaGreatDoor
open Go
theorem zdZ{w:World}{a:Addr}{v:Value}(h:w.cell? a=some v):a.block<w.heap.size:=by
 apply Classical.byContradiction
 intro hn
 unfold World.cell? at h
 rw[Array.getElem?_eq_none (by omega)]at h
 cases h
section
variable {P : Program} {w : World} {K : Value → World → Prop} {α : Type} {k : Nat} {C : List Value → α → Prop}
theorem zdi{b n:Nat}{cur:Array Value}{e:TypeId}{fr:Nat×Nat}(h:w.heap[b]? =some (.cells cur e fr))(hn:n=cur.size):zaB w (some ⟨b,0,Option.none⟩) n=some cur.toList:=by
 rw[zao h (by omega),List.drop_zero,List.take_of_length_le (by simp[hn])]
end
section
variable {α : Type} {k B : Nat} {C : List Value → α → Prop} {w x : World} {v : Value} {xs : List α} {e : TypeId}
theorem zbF(a:Addr)(i:Nat):(a.add i).block=a.block:=by unfold Addr.add;split<;>rfl
theorem zbt{a:Addr}(h:x.heap[a.block]? =w.heap[a.block]?):x.cell? a=w.cell? a:=by unfold World.cell?;rw[h]
theorem zdj{a:Addr}(h:x.heap[a.block]? =w.heap[a.block]?):∀(k i:Nat),za4 x a i k=za4 w a i k
 |0,_=>rfl
 |k+1,i=>by
  have e1:x.cell? (a.add i)=w.cell? (a.add i):=zbt (by rw[zbF];exact h)
  have e2:=zdj h k (i+1)
  unfold za4
  rw[e1,e2]
theorem zeY{p:Option Addr}(h:∀a,p=some a→x.heap[a.block]? =w.heap[a.block]?)(k:Nat):zaB x p k=zaB w p k:=by
 cases p with
 |none=>rfl
 |some a=>exact zdj (h a rfl) k 0
theorem Rows.blocks(h:Rows k C w v xs)(hb:∀a n c,v= .slice (some a) n c→x.heap[a.block]? =w.heap[a.block]?):Rows k C x v xs:=by
 obtain⟨L,⟨a,c,rfl,hc,hl⟩,h2,h3⟩:=h
 refine⟨L,⟨a,c,rfl,hc,fun j hj=>?_⟩,h2,h3⟩
 rw[←hl j hj]
 refine zeY (fun p hp=>?_) k
 cases a with
 |none=>cases hp
 |some a=>
  have:p.block=a.block:=by
   simp only[adr,Option.map_some,Option.some.injEq]at hp
   rw[←hp,zbF]
  rw[this];exact hb a _ _ rfl
def BlkB(B:Nat)(w:World)(v:Value):Prop:=∀a n c,v= .slice (some a) n c→B≤a.block∧a.block<w.heap.size
theorem BlkB.ext(h:BlkB B w v)(hs:w.heap.size≤x.heap.size):BlkB B x v:=fun a n c hv=>⟨(h a n c hv).1,Nat.lt_of_lt_of_le (h a n c hv).2 hs⟩
theorem BlkB.mono{B':Nat}(h:BlkB B w v)(hB:B'≤B):BlkB B' w v:=fun a n c hv=>⟨Nat.le_trans hB (h a n c hv).1,(h a n c hv).2⟩
theorem BlkB.nil{n c:Nat}:BlkB B w (.slice Option.none n c):=fun a n c hv=>by cases hv
theorem Rows.keep(h:Rows k C w v xs){S:Nat→Prop}(hk:Keep S w x)(hB:BlkB B w v)(hS:∀b,B≤b→b<w.heap.size→¬S b):Rows k C x v xs:=
 h.blocks fun a n c hv=>hk.block _ (hB a n c hv).2 (hS _ (hB a n c hv).1 (hB a n c hv).2)
theorem za3{b o n:Nat}(h:b<n):offS (zbX n) (some ⟨b,o,Option.none⟩):=fun a ha hb=>by
 cases ha
 unfold zbX at hb
 exact absurd (show n≤b from hb) (by omega)
theorem za9{w x:World}(h:x=w.drew):Ext w x:=h▸Keep.drew NoS w
/-! ### a variable of several cells -/
variable {P : Program} {K : Value → World → Prop}
theorem zaY{t:TypeId}{b:Nat}{cur:Array Value}{l:List Value}(hb:w.heap[b]? =some (.cells cur e (0,0)))(hl:l.length=cur.size)(h1:∀v∈l,one v=true)(hs:tyS P t=l.length)(hi:(P.info? t).isSome=true)
  (hK:∀w',w'.heap.size=w.heap.size→w'.heap[b]? =some (.cells l.toArray e (0,0))→Keep (fun i=>i=b) w w'→K undef w'):stK P t (.pointer (some ⟨b,0,Option.none⟩)) (.agg l.toArray) w K:=by
 obtain⟨w',k1,k2,k3,cur',k4,k5⟩:=zd9 (o:=0) l 0 w [] cur.toList [] cur hb (by simp) rfl (by simp[hl]) h1
 refine⟨by simp[Value.cells,hs],hi,w',by simpa [Value.cells] using k1,hK w' k2 ?_ k3⟩
 rw[k4]
 have:cur'=l.toArray:=by
  apply Array.ext'
  simpa using k5
 rw[this]
theorem zcc{t:TypeId}{b j:Nat}{u:Value}{l:List Value}(hb:w.heap[b]? =some (.cells l.toArray e (0,0)))(hj:j<l.length)(h1:one u=true)(hs:tyS P t=1)(hi:(P.info? t).isSome=true)
  (hK:∀w',w'.heap.size=w.heap.size→w'.heap[b]? =some (.cells (l.set j u).toArray e (0,0))→Keep (fun i=>i=b) w w'→K undef w'):stK P t (.pointer (some ⟨b,j,Option.none⟩)) u w K:=by
 refine zay hs hi h1 hb (by simpa using hj) (by simp) ?_
 intro w' h1 h2 h3
 refine hK w' h1 ?_ h3
 rw[h2];simp
theorem zaK{b j:Nat}{u:Value}{l:List Value}(hb:w.heap[b]? =some (.cells l.toArray e (0,0)))(hj:l[j]? =some u):zag w (some ⟨b,j,Option.none⟩)=some u:=by
 show w.cell? _=_
 rw[zbd hb];simpa using hj
theorem zam{b n:Nat}{l:List Value}(hb:w.heap[b]? =some (.cells l.toArray e (0,0)))(hn:n=l.length):zaB w (some ⟨b,0,Option.none⟩) n=some l:=by
 have:=zdi (n:=n) hb (by simp[hn])
 simpa using this
end
section
variable {α : Type} {lt older : α → α → Prop}
end
set_option maxRecDepth 10000
theorem zcV(a b:Int):sgn (a - b)=cmpI a b:=by unfold sgn cmpI;(repeat' split)<;>omega
theorem zaR{a b:Int}:cmpI a b=0↔a=b:=by unfold cmpI;(repeat' split)<;>omega
theorem zdU{α:Type}{cf:α→α→Int}{a b:List α}{i:Nat}(ha:i≤a.length)(hb:i≤b.length)(h:¬(i<a.length∧i<b.length)):lexC cf (a.drop i) (b.drop i)=cmpI a.length b.length:=by
 rw[zbw (by
  rcases Nat.lt_or_ge i a.length with h1|h1
  ·exact .inr (List.drop_eq_nil_of_le (by omega))
  ·exact .inl (List.drop_eq_nil_of_le h1))]
 rw[List.length_drop,List.length_drop]
 unfold cmpI
 (repeat' split)<;>omega
theorem zhe(w:World)(a b:Int):Fn Tryz.prog 92 #[vi a,vi b] w (fun v w'=>v=vi (cmpI a b)∧Ext w w'):=by
 refine enter Tryz.func92 Tryz.ntmps92 rfl rfl ?_
 repeat (first|refine c_r ?_|refine rg0 ?_)
 refine wc0 ?_ ?_
 ·intro ht
  simp only[decide_eq_true_eq]at ht
  repeat (first|refine c_r ?_|refine rg0 ?_)
  refine rt0 Tryz.ntmps92 ?_
  exact⟨by rw[cmpI,if_pos ht],Keep.refl _ _⟩
 ·intro hf
  simp only[decide_eq_false_iff_not]at hf
  repeat (first|refine c_r ?_|refine rg0 ?_)
  refine wc0 ?_ ?_
  ·intro ht
   simp only[decide_eq_true_eq]at ht
   repeat (first|refine c_r ?_|refine rg0 ?_)
   refine rt0 Tryz.ntmps92 ?_
   exact⟨by rw[cmpI,if_neg hf,if_pos ht],Keep.refl _ _⟩
  ·intro hf2
   simp only[decide_eq_false_iff_not]at hf2
   repeat (first|refine c_r ?_|refine rg0 ?_)
   refine rt0 Tryz.ntmps92 ?_
   exact⟨by rw[cmpI,if_neg hf,if_neg hf2],Keep.refl _ _⟩
theorem zdt(w:World)(ca cb:List Value)(a b:DatL)(ha:DatAt w ca a)(hb:DatAt w cb b)(hoa:zcS a)(hob:zcS b):
  Fn Tryz.prog 35 #[.agg ca.toArray,.agg cb.toArray] w (fun v w'=>v=vi (cmpD a b)∧Ext w w'):=by
 obtain⟨nm,nu,tx,rw',rfl,a1,a2,a3,a4⟩:=ha.ex
 obtain⟨nm2,nu2,tx2,rw2,rfl,b1,b2,b3,b4⟩:=hb.ex
 obtain⟨vn,⟨sn,cn,rfl,hcn,hgn⟩,hvn,hrn⟩:=a1
 obtain⟨vn2,⟨sn2,cn2,rfl,hcn2,hgn2⟩,hvn2,hrn2⟩:=b1
 obtain⟨su,cu,rfl,hcu,hgu⟩:=a2
 obtain⟨su2,cu2,rfl,hcu2,hgu2⟩:=b2
 obtain⟨st,ct,rfl,hct,hgt⟩:=a3
 obtain⟨st2,ct2,rfl,hct2,hgt2⟩:=b3
 obtain⟨sr,cr,rfl,hcr,hgr⟩:=a4
 obtain⟨sr2,cr2,rfl,hcr2,hgr2⟩:=b4
 have hnn:=hoa.nn
 have hnn2:=hob.nn
 have hnu:=hoa.nu
 have hnu2:=hob.nu
 have hnt:=hoa.nt
 have hnt2:=hob.nt
 rw[hvn]at hcn ⊢
 rw[hvn2]at hcn2 ⊢
 simp only[List.length_map]at hcu hgu hcu2 hgu2 hct hgt hct2 hgt2 hcr hgr hcr2 hgr2 ⊢
 refine enter Tryz.func35 Tryz.ntmps35 rfl rfl ?_
 repeat refine c_r ?_
 refine rg0 ?_
 repeat refine c_r ?_
 obtain⟨OA,hOA⟩:∃OA:Obj,(.cells #[vi a.ty,.slice sn a.names.length cn,.slice su a.nums.length cu,.slice st a.texts.length ct,.slice sr a.raw.length cr] 67 (0,0))=OA:=⟨_,rfl⟩
 obtain⟨OB,hOB⟩:∃OB:Obj,(.cells #[vi b.ty,.slice sn2 b.names.length cn2,.slice su2 b.nums.length cu2,.slice st2 b.texts.length ct2,.slice sr2 b.raw.length cr2] 67 (0,0))=OB:=⟨_,rfl⟩
 simp only[hOA,hOB]
 have hal:=zbJ w OA OB
 rw[show (w.alloc OA).heap.size=w.heap.size+1 from zaq _ _]
 revert hal
 generalize (w.alloc OA).alloc OB=w1
 rintro⟨hE1,hs1,hA,hB⟩
 subst hOA hOB
 have rd:∀x,Ext w1 x→zag x (some ⟨w.heap.size,0,Option.none⟩)=some (vi a.ty)∧zag x (some ⟨w.heap.size,1,Option.none⟩)=some (.slice sn a.names.length cn)∧zag x (some ⟨w.heap.size,2,Option.none⟩)=some (.slice su a.nums.length cu)∧zag x (some ⟨w.heap.size,3,Option.none⟩)=some (.slice st a.texts.length ct)∧zag x (some ⟨w.heap.size,4,Option.none⟩)=some (.slice sr a.raw.length cr):=
  fun x hx=>⟨zaa hx (zab hA rfl),zaa hx (zab hA rfl),zaa hx (zab hA rfl),zaa hx (zab hA rfl),zaa hx (zab hA rfl)⟩
 have rd2:∀x,Ext w1 x→zag x (some ⟨w.heap.size+1,0,Option.none⟩)=some (vi b.ty)∧zag x (some ⟨w.heap.size+1,1,Option.none⟩)=some (.slice sn2 b.names.length cn2)∧zag x (some ⟨w.heap.size+1,2,Option.none⟩)=some (.slice su2 b.nums.length cu2)∧zag x (some ⟨w.heap.size+1,3,Option.none⟩)=some (.slice st2 b.texts.length ct2)∧zag x (some ⟨w.heap.size+1,4,Option.none⟩)=some (.slice sr2 b.raw.length cr2):=
  fun x hx=>⟨zaa hx (zab hB rfl),zaa hx (zab hB rfl),zaa hx (zab hB rfl),zaa hx (zab hB rfl),zaa hx (zab hB rfl)⟩
 clear hA hB
 obtain⟨p0,p1,p2,p3,p4⟩:=rd w1 (Keep.refl _ _)
 obtain⟨q0,q1,q2,q3,q4⟩:=rd2 w1 (Keep.refl _ _)
 refine rq ?_;intro gd K hgd hK
 try simp (disch:=first|omega|assumption|rfl) only[go_sem,p0,q0,Nat.add_zero]
 refine hK _ _ ?_;clear hK hgd;clear K;try clear gd
 repeat refine c_r ?_
 refine wc0 ?_ ?_
 ·intro hne
  simp only[Bool.not_eq_true',decide_eq_false_iff_not]at hne
  repeat refine c_r ?_
  refine rq ?_;intro gd K hgd hK
  try simp (disch:=first|omega|assumption|rfl) only[go_sem,p0,q0,Nat.add_zero]
  refine Fn.mono (zhe _ _ _) ?_
  rintro _ w2 ⟨rfl,hE2⟩
  try simp only[go_sem]
  refine hK _ _ ?_;clear hK hgd;clear K;try clear gd
  repeat refine c_r ?_
  refine rt0 Tryz.ntmps35 ?_
  exact⟨by simp only[cmpD,orI];rw[if_neg (fun h=>hne (zaR.1 h))],hE1.trans hE2⟩
 intro heq
 simp only[Bool.not_eq_false',decide_eq_true_eq]at heq
 have hz0:=zaR.2 heq
 repeat refine c_r ?_
 refine rg0 ?_
 repeat refine c_r ?_
 refine zaF (fun m σ ds v=>ds=[]∧∃i:Nat,i+m=a.names.length∧i≤b.names.length∧σ 5=vi i∧σ 2= .pointer (some ⟨w.heap.size,0,Option.none⟩)∧σ 3= .pointer (some ⟨w.heap.size+1,0,Option.none⟩)∧Ext w1 v∧lexC zcn a.names b.names=lexC zcn (a.names.drop i) (b.names.drop i)) a.names.length ?_ ?_
 ·exact⟨rfl,0,by omega,by omega,vr0,vq0,vq0,Keep.refl _ _,rfl⟩
 rintro m σ ds v ⟨rfl,i,him,hib,h5,h2,h3,hEv,hinv⟩
 obtain⟨p0,p1,p2,p3,p4⟩:=rd v hEv
 obtain⟨q0,q1,q2,q3,q4⟩:=rd2 v hEv
 repeat refine c_r ?_
 refine zat (Q:=fun e σ' ds' v'=>e= .normal∧ds'=[]∧v'=v∧σ' 5=vi i∧σ' 2= .pointer (some ⟨w.heap.size,0,Option.none⟩)∧σ' 3= .pointer (some ⟨w.heap.size+1,0,Option.none⟩)∧σ' 31= .bool (decide (i<a.names.length∧i<b.names.length))) ?_ ?_
 ·refine rq ?_;intro gd K hgd hK
  have hg5:∀n σ b,zau gd n σ (some (5,b))=zan (ev n σ (.tmp 25)) b:=(fun n σ b=>by rw[zad,show gd 5=some 25 from(by rw[hgd];rfl)];rfl)
  by_cases c1:(i:Int)<(a.names.length:Int)
  ·try simp (disch:=first|omega|assumption|rfl) only[go_sem,h5,h2,h3,p1,p2,p3,q1,q2,q3,Nat.zero_add,decide_eq_true c1,↓hg5]
   refine hK _ _ ?_;clear hK hgd;clear K;try clear gd
   refine⟨rfl,rfl,rfl,(vq1 h5),(vq1 h2),(vq1 h3),?_⟩
   rw[show decide (i<a.names.length∧i<b.names.length)=decide ((i:Int)<(b.names.length:Int)) from decide_eq_decide.2 ⟨fun h=>by omega,fun h=>⟨by omega,by omega⟩⟩]
   simp only[go_sem]
  ·try simp (disch:=first|omega|assumption|rfl) only[go_sem,h5,h2,h3,p1,p2,p3,q1,q2,q3,Nat.zero_add,decide_eq_false c1,↓hg5]
   refine hK _ _ ?_;clear hK hgd;clear K;try clear gd
   refine⟨rfl,rfl,rfl,(vq1 h5),(vq1 h2),(vq1 h3),?_⟩
   rw[show decide (i<a.names.length∧i<b.names.length)=false from decide_eq_false (fun h=>c1 (by omega))]
   simp only[go_sem]
 clear h5 h2 h3
 rintro _ σ1 _ v1 ⟨rfl,rfl,hv1,h5,h2,h3,hsc⟩
 rw[hv1]
 clear hv1 v1
 repeat refine c_r ?_
 refine zbz (t:=decide (i<a.names.length∧i<b.names.length)) ((vq1 hsc)) ?_ ?_
 ·intro hlt
  simp only[decide_eq_true_eq]at hlt
  have hi0:(0:Int)≤(i:Int):=by omega
  have hia:(i:Int)<(a.names.length:Int):=by omega
  have hib2:(i:Int)<(b.names.length:Int):=by omega
  have hi1':(i:Int)+1=((i+1:Nat):Int):=by push_cast;rfl
  have hstep:=zbq (cf:=zcn) hlt.1 hlt.2
  repeat refine c_r ?_
  have d1:=hgn i (by omega)
  have d2:=hgn2 i (by omega)
  obtain⟨xa,rfl⟩:=Option.isSome_iff_exists.1 (zae d1)
  obtain⟨xb,rfl⟩:=Option.isSome_iff_exists.1 (zae d2)
  refine zaS (fun _=>false) [(0,true),(1,true),(2,true),(3,true),(4,true),(5,true),(6,true),(7,true),(8,true),(9,true),(10,false),(11,true)] NoS mixed (by kernel_rfl) ?_;intro gd K x hgd hx hxe hK;clear hxe
  obtain⟨p0',p1',p2',p3',p4'⟩:=rd x (hEv.trans hx)
  obtain⟨q0',q1',q2',q3',q4'⟩:=rd2 x (hEv.trans hx)
  have d1':=zaa ((hE1.trans hEv).trans hx) d1
  have d2':=zaa ((hE1.trans hEv).trans hx) d2
  simp (disch:=first|omega|assumption|rfl) only[go_sem,h5,h2,h3,p1',p3',q1',q3',Nat.zero_add,hi0,hia,hib2,d1',d2']
  refine Fn.mono (ze4 _ _ _ _ _ ((hrn i (by omega) hlt.1).ext ((hE1.trans hEv).trans hx)) ((hrn2 i (by omega) hlt.2).ext ((hE1.trans hEv).trans hx)) (hoa.names _ (List.getElem_mem hlt.1)).1 (hob.names _ (List.getElem_mem hlt.2)).1 (by have:=(hoa.names _ (List.getElem_mem hlt.1)).2;omega) (by have:=(hob.names _ (List.getElem_mem hlt.2)).2;omega)) ?_
  rintro _ x1 ⟨rfl,hx1⟩
  refine⟨.inr hx1,?_⟩
  simp (disch:=first|omega|assumption|rfl) only[go_sem]
  refine hK _ _ ?_;clear hK hgd;clear K;try clear gd
  repeat refine c_r ?_
  refine rg0 ?_
  repeat refine c_r ?_
  refine wc0 ?_ ?_
  ·intro hne
   simp only[Bool.not_eq_true',decide_eq_false_iff_not]at hne
   repeat (first|refine c_r ?_|refine rg0 ?_)
   refine rt0 Tryz.ntmps35 ?_
   refine⟨?_,((hE1.trans hEv).trans hx).trans hx1⟩
   have hc:zcn a.names[i] b.names[i]≠0:=hne
   simp only[cmpD,orI]
   rw[if_pos hz0,hinv,hstep,if_neg hc,if_neg hc]
   rfl
  ·intro heq
   simp only[Bool.not_eq_false',decide_eq_true_eq]at heq
   have hc:zcn a.names[i] b.names[i]=0:=heq
   repeat refine c_r ?_
   refine rg2 h5 hi1' ?_
   repeat refine c_r ?_
   exact⟨m - 1,by omega,rfl,i+1,by omega,by omega,vq0,(vq1 h2),(vq1 h3),(hEv.trans hx).trans hx1,by rw[hinv,hstep,if_pos hc]⟩
 intro hge
 simp only[decide_eq_false_iff_not]at hge
 have hend:=zdU (cf:=zcn) (by omega:i≤a.names.length) hib hge
 repeat refine c_r ?_
 refine rq ?_;intro gd K hgd hK
 try simp (disch:=first|omega|assumption|rfl) only[go_sem,h2,h3,p1,p2,p3,q1,q2,q3,Nat.zero_add]
 refine hK _ _ ?_;clear hK hgd;clear K;try clear gd
 repeat refine c_r ?_
 refine wc0 ?_ ?_
 ·intro hne
  simp only[Bool.not_eq_true',decide_eq_false_iff_not]at hne
  have hne2:¬((a.names.length:Int)=(b.names.length:Int)):=fun h=>hne (by omega)
  repeat refine c_r ?_
  refine rq ?_;intro gd K hgd hK
  try simp (disch:=first|omega|assumption|rfl) only[go_sem,h2,h3,p1,p2,p3,q1,q2,q3,Nat.zero_add]
  refine Fn.mono (zbW _ _) ?_
  rintro _ x1 ⟨rfl,hx1⟩
  try simp only[go_sem]
  refine hK _ _ ?_;clear hK hgd;clear K;try clear gd
  repeat refine c_r ?_
  refine rt0 Tryz.ntmps35 ?_
  refine⟨?_,(hE1.trans hEv).trans hx1⟩
  have hc:lexC zcn a.names b.names≠0:=by rw[hinv,hend];exact fun h=>hne2 (zaR.1 h)
  rw[zcV]
  simp only[cmpD,orI]
  rw[if_pos hz0,if_neg hc,hinv,hend]
 intro heql
 simp only[Bool.not_eq_false',decide_eq_true_eq]at heql
 have heql2:(a.names.length:Int)=(b.names.length:Int):=by omega
 have hz1:lexC zcn a.names b.names=0:=by rw[hinv,hend];exact zaR.2 heql2
 have g2:=h2
 have g3:=h3
 have hEL0:=hEv
 clear hsc hinv hend hge him hib
 repeat refine c_r ?_
 refine rg0 ?_
 repeat refine c_r ?_
 refine zaF (fun m σ ds v=>ds=[]∧∃i:Nat,i+m=a.nums.length∧i≤b.nums.length∧σ 7=vi i∧σ 2= .pointer (some ⟨w.heap.size,0,Option.none⟩)∧σ 3= .pointer (some ⟨w.heap.size+1,0,Option.none⟩)∧Ext w1 v∧lexC cmpI a.nums b.nums=lexC cmpI (a.nums.drop i) (b.nums.drop i)) a.nums.length ?_ ?_
 ·exact⟨rfl,0,by omega,by omega,vr0,(vq1 g2),(vq1 g3),hEL0,rfl⟩
 rintro m σ ds v ⟨rfl,i,him,hib,h5,h2,h3,hEv,hinv⟩
 obtain⟨p0,p1,p2,p3,p4⟩:=rd v hEv
 obtain⟨q0,q1,q2,q3,q4⟩:=rd2 v hEv
 repeat refine c_r ?_
 refine zat (Q:=fun e σ' ds' v'=>e= .normal∧ds'=[]∧v'=v∧σ' 7=vi i∧σ' 2= .pointer (some ⟨w.heap.size,0,Option.none⟩)∧σ' 3= .pointer (some ⟨w.heap.size+1,0,Option.none⟩)∧σ' 74= .bool (decide (i<a.nums.length∧i<b.nums.length))) ?_ ?_
 ·refine rq ?_;intro gd K hgd hK
  have hg5:∀n σ b,zau gd n σ (some (5,b))=zan (ev n σ (.tmp 68)) b:=(fun n σ b=>by rw[zad,show gd 5=some 68 from(by rw[hgd];rfl)];rfl)
  by_cases c1:(i:Int)<(a.nums.length:Int)
  ·try simp (disch:=first|omega|assumption|rfl) only[go_sem,h5,h2,h3,p1,p2,p3,q1,q2,q3,Nat.zero_add,decide_eq_true c1,↓hg5]
   refine hK _ _ ?_;clear hK hgd;clear K;try clear gd
   refine⟨rfl,rfl,rfl,(vq1 h5),(vq1 h2),(vq1 h3),?_⟩
   rw[show decide (i<a.nums.length∧i<b.nums.length)=decide ((i:Int)<(b.nums.length:Int)) from decide_eq_decide.2 ⟨fun h=>by omega,fun h=>⟨by omega,by omega⟩⟩]
   simp only[go_sem]
  ·try simp (disch:=first|omega|assumption|rfl) only[go_sem,h5,h2,h3,p1,p2,p3,q1,q2,q3,Nat.zero_add,decide_eq_false c1,↓hg5]
   refine hK _ _ ?_;clear hK hgd;clear K;try clear gd
   refine⟨rfl,rfl,rfl,(vq1 h5),(vq1 h2),(vq1 h3),?_⟩
   rw[show decide (i<a.nums.length∧i<b.nums.length)=false from decide_eq_false (fun h=>c1 (by omega))]
   simp only[go_sem]
 clear h5 h2 h3
 rintro _ σ1 _ v1 ⟨rfl,rfl,hv1,h5,h2,h3,hsc⟩
 rw[hv1]
 clear hv1 v1
 repeat refine c_r ?_
 refine zbz (t:=decide (i<a.nums.length∧i<b.nums.length)) ((vq1 hsc)) ?_ ?_
 ·intro hlt
  simp only[decide_eq_true_eq]at hlt
  have hi0:(0:Int)≤(i:Int):=by omega
  have hia:(i:Int)<(a.nums.length:Int):=by omega
  have hib2:(i:Int)<(b.nums.length:Int):=by omega
  have hi1':(i:Int)+1=((i+1:Nat):Int):=by push_cast;rfl
  have hstep:=zbq (cf:=cmpI) hlt.1 hlt.2
  repeat refine c_r ?_
  have d1:=hgu i (by simpa using hlt.1)
  have d2:=hgu2 i (by simpa using hlt.2)
  rw[List.getElem_map]at d1 d2
  obtain⟨xa,rfl⟩:=Option.isSome_iff_exists.1 (zae d1)
  obtain⟨xb,rfl⟩:=Option.isSome_iff_exists.1 (zae d2)
  have hva:=hoa.nv _ (List.getElem_mem hlt.1)
  have hvb:=hob.nv _ (List.getElem_mem hlt.2)
  have ec1:IntKind.i64.wrap a.nums[i]=a.nums[i]:=ze9 (by omega) (by omega)
  have ec2:IntKind.i64.wrap b.nums[i]=b.nums[i]:=ze9 (by omega) (by omega)
  refine zaS (fun _=>false) [(0,true),(1,true),(2,true),(3,true),(4,true),(5,true),(6,true),(7,true),(8,true),(9,true),(10,true)] NoS mixed (by kernel_rfl) ?_;intro gd K x hgd hx hxe hK;clear hxe
  obtain⟨p0',p1',p2',p3',p4'⟩:=rd x (hEv.trans hx)
  obtain⟨q0',q1',q2',q3',q4'⟩:=rd2 x (hEv.trans hx)
  have d1':=zaa ((hE1.trans hEv).trans hx) d1
  have d2':=zaa ((hE1.trans hEv).trans hx) d2
  simp (disch:=first|omega|assumption|rfl) only[go_sem,h5,h2,h3,p2',q2',Nat.zero_add,hi0,hia,hib2,d1',d2']
  refine hK _ _ ?_;clear hK hgd;clear K;try clear gd
  repeat refine c_r ?_
  refine wc0 ?_ ?_
  ·intro hne
   simp only[Bool.not_eq_true',decide_eq_false_iff_not]at hne
   have hEx:=hEv.trans hx
   clear p0' p1' p2' p3' p4' q0' q1' q2' q3' q4'
   generalize x=y at*
   repeat refine c_r ?_
   refine zaS (fun _=>false) [(0,true),(1,true),(2,true),(3,true),(4,true),(5,true),(6,true),(7,true),(8,true),(9,true),(10,true),(11,true),(12,true),(13,false),(14,true)] NoS mixed (by kernel_rfl) ?_;intro gd K x hgd hx hxe hK;clear hxe
   obtain⟨p0',p1',p2',p3',p4'⟩:=rd x (hEx.trans hx)
   obtain⟨q0',q1',q2',q3',q4'⟩:=rd2 x (hEx.trans hx)
   have d1':=zaa ((hE1.trans hEx).trans hx) d1
   have d2':=zaa ((hE1.trans hEx).trans hx) d2
   simp (disch:=first|omega|assumption|rfl) only[go_sem,h5,h2,h3,p2',q2',Nat.zero_add,hi0,hia,hib2,d1',d2',ec1,ec2]
   refine Fn.mono (zbW _ _) ?_
   rintro _ x1 ⟨rfl,hx1⟩
   refine⟨.inr hx1,?_⟩
   simp (disch:=first|omega|assumption|rfl) only[go_sem]
   refine hK _ _ ?_;clear hK hgd;clear K;try clear gd
   repeat refine c_r ?_
   refine rt0 Tryz.ntmps35 ?_
   refine⟨?_,((hE1.trans hEx).trans hx).trans hx1⟩
   have hc:cmpI a.nums[i] b.nums[i]≠0:=fun h=>hne (zaR.1 h)
   rw[zcV]
   simp only[cmpD,orI]
   rw[if_pos hz0,if_pos hz1,hinv,hstep,if_neg hc,if_neg hc]
  ·intro heq
   simp only[Bool.not_eq_false',decide_eq_true_eq]at heq
   have hc:cmpI a.nums[i] b.nums[i]=0:=zaR.2 heq
   repeat refine c_r ?_
   refine rg2 h5 hi1' ?_
   repeat refine c_r ?_
   exact⟨m - 1,by omega,rfl,i+1,by omega,by omega,vq0,(vq1 h2),(vq1 h3),hEv.trans hx,by rw[hinv,hstep,if_pos hc]⟩
 intro hge
 simp only[decide_eq_false_iff_not]at hge
 have hend:=zdU (cf:=cmpI) (by omega:i≤a.nums.length) hib hge
 repeat refine c_r ?_
 refine rq ?_;intro gd K hgd hK
 try simp (disch:=first|omega|assumption|rfl) only[go_sem,h2,h3,p1,p2,p3,q1,q2,q3,Nat.zero_add]
 refine hK _ _ ?_;clear hK hgd;clear K;try clear gd
 repeat refine c_r ?_
 refine wc0 ?_ ?_
 ·intro hne
  simp only[Bool.not_eq_true',decide_eq_false_iff_not]at hne
  have hne2:¬((a.nums.length:Int)=(b.nums.length:Int)):=fun h=>hne (by omega)
  repeat refine c_r ?_
  refine rq ?_;intro gd K hgd hK
  try simp (disch:=first|omega|assumption|rfl) only[go_sem,h2,h3,p1,p2,p3,q1,q2,q3,Nat.zero_add]
  refine Fn.mono (zbW _ _) ?_
  rintro _ x1 ⟨rfl,hx1⟩
  try simp only[go_sem]
  refine hK _ _ ?_;clear hK hgd;clear K;try clear gd
  repeat refine c_r ?_
  refine rt0 Tryz.ntmps35 ?_
  refine⟨?_,(hE1.trans hEv).trans hx1⟩
  have hc:lexC cmpI a.nums b.nums≠0:=by rw[hinv,hend];exact fun h=>hne2 (zaR.1 h)
  rw[zcV]
  simp only[cmpD,orI]
  rw[if_pos hz0,if_pos hz1,if_neg hc,hinv,hend]
 intro heql
 simp only[Bool.not_eq_false',decide_eq_true_eq]at heql
 have heql2:(a.nums.length:Int)=(b.nums.length:Int):=by omega
 have hz2:lexC cmpI a.nums b.nums=0:=by rw[hinv,hend];exact zaR.2 heql2
 have g2:=h2
 have g3:=h3
 have hEL1:=hEv
 clear hsc hinv hend hge him hib
 repeat refine c_r ?_
 refine rg0 ?_
 repeat refine c_r ?_
 refine zaF (fun m σ ds v=>ds=[]∧∃i:Nat,i+m=a.texts.length∧i≤b.texts.length∧σ 8=vi i∧σ 2= .pointer (some ⟨w.heap.size,0,Option.none⟩)∧σ 3= .pointer (some ⟨w.heap.size+1,0,Option.none⟩)∧Ext w1 v∧lexC cmpL a.texts b.texts=lexC cmpL (a.texts.drop i) (b.texts.drop i)) a.texts.length ?_ ?_
 ·exact⟨rfl,0,by omega,by omega,vr0,(vq1 g2),(vq1 g3),hEL1,rfl⟩
 rintro m σ ds v ⟨rfl,i,him,hib,h5,h2,h3,hEv,hinv⟩
 obtain⟨p0,p1,p2,p3,p4⟩:=rd v hEv
 obtain⟨q0,q1,q2,q3,q4⟩:=rd2 v hEv
 repeat refine c_r ?_
 refine zat (Q:=fun e σ' ds' v'=>e= .normal∧ds'=[]∧v'=v∧σ' 8=vi i∧σ' 2= .pointer (some ⟨w.heap.size,0,Option.none⟩)∧σ' 3= .pointer (some ⟨w.heap.size+1,0,Option.none⟩)∧σ' 128= .bool (decide (i<a.texts.length∧i<b.texts.length))) ?_ ?_
 ·refine rq ?_;intro gd K hgd hK
  have hg5:∀n σ b,zau gd n σ (some (5,b))=zan (ev n σ (.tmp 122)) b:=(fun n σ b=>by rw[zad,show gd 5=some 122 from(by rw[hgd];rfl)];rfl)
  by_cases c1:(i:Int)<(a.texts.length:Int)
  ·try simp (disch:=first|omega|assumption|rfl) only[go_sem,h5,h2,h3,p1,p2,p3,q1,q2,q3,Nat.zero_add,decide_eq_true c1,↓hg5]
   refine hK _ _ ?_;clear hK hgd;clear K;try clear gd
   refine⟨rfl,rfl,rfl,(vq1 h5),(vq1 h2),(vq1 h3),?_⟩
   rw[show decide (i<a.texts.length∧i<b.texts.length)=decide ((i:Int)<(b.texts.length:Int)) from decide_eq_decide.2 ⟨fun h=>by omega,fun h=>⟨by omega,by omega⟩⟩]
   simp only[go_sem]
  ·try simp (disch:=first|omega|assumption|rfl) only[go_sem,h5,h2,h3,p1,p2,p3,q1,q2,q3,Nat.zero_add,decide_eq_false c1,↓hg5]
   refine hK _ _ ?_;clear hK hgd;clear K;try clear gd
   refine⟨rfl,rfl,rfl,(vq1 h5),(vq1 h2),(vq1 h3),?_⟩
   rw[show decide (i<a.texts.length∧i<b.texts.length)=false from decide_eq_false (fun h=>c1 (by omega))]
   simp only[go_sem]
 clear h5 h2 h3
 rintro _ σ1 _ v1 ⟨rfl,rfl,hv1,h5,h2,h3,hsc⟩
 rw[hv1]
 clear hv1 v1
 repeat refine c_r ?_
 refine zbz (t:=decide (i<a.texts.length∧i<b.texts.length)) ((vq1 hsc)) ?_ ?_
 ·intro hlt
  simp only[decide_eq_true_eq]at hlt
  have hi0:(0:Int)≤(i:Int):=by omega
  have hia:(i:Int)<(a.texts.length:Int):=by omega
  have hib2:(i:Int)<(b.texts.length:Int):=by omega
  have hi1':(i:Int)+1=((i+1:Nat):Int):=by push_cast;rfl
  have hstep:=zbq (cf:=cmpL) hlt.1 hlt.2
  repeat refine c_r ?_
  have d1:=hgt i (by simpa using hlt.1)
  have d2:=hgt2 i (by simpa using hlt.2)
  rw[List.getElem_map]at d1 d2
  obtain⟨xa,rfl⟩:=Option.isSome_iff_exists.1 (zae d1)
  obtain⟨xb,rfl⟩:=Option.isSome_iff_exists.1 (zae d2)
  refine zaS (fun _=>false) [(0,true),(1,true),(2,true),(3,true),(4,true),(5,true),(6,true),(7,true),(8,true),(9,true),(10,false),(11,true)] NoS mixed (by kernel_rfl) ?_;intro gd K x hgd hx hxe hK;clear hxe
  obtain⟨p0',p1',p2',p3',p4'⟩:=rd x (hEv.trans hx)
  obtain⟨q0',q1',q2',q3',q4'⟩:=rd2 x (hEv.trans hx)
  have d1':=zaa ((hE1.trans hEv).trans hx) d1
  have d2':=zaa ((hE1.trans hEv).trans hx) d2
  simp (disch:=first|omega|assumption|rfl) only[go_sem,h5,h2,h3,p1',p3',q1',q3',Nat.zero_add,hi0,hia,hib2,d1',d2']
  refine Fn.mono (zds _ _ _) ?_
  rintro _ x1 ⟨rfl,hx1⟩
  refine⟨.inr hx1,?_⟩
  simp (disch:=first|omega|assumption|rfl) only[go_sem]
  refine hK _ _ ?_;clear hK hgd;clear K;try clear gd
  repeat refine c_r ?_
  refine rg0 ?_
  repeat refine c_r ?_
  refine wc0 ?_ ?_
  ·intro hne
   simp only[Bool.not_eq_true',decide_eq_false_iff_not]at hne
   repeat (first|refine c_r ?_|refine rg0 ?_)
   refine rt0 Tryz.ntmps35 ?_
   refine⟨?_,((hE1.trans hEv).trans hx).trans hx1⟩
   have hc:cmpL a.texts[i] b.texts[i]≠0:=hne
   simp only[cmpD,orI]
   rw[if_pos hz0,if_pos hz1,if_pos hz2,hinv,hstep,if_neg hc,if_neg hc]
  ·intro heq
   simp only[Bool.not_eq_false',decide_eq_true_eq]at heq
   have hc:cmpL a.texts[i] b.texts[i]=0:=heq
   repeat refine c_r ?_
   refine rg2 h5 hi1' ?_
   repeat refine c_r ?_
   exact⟨m - 1,by omega,rfl,i+1,by omega,by omega,vq0,(vq1 h2),(vq1 h3),(hEv.trans hx).trans hx1,by rw[hinv,hstep,if_pos hc]⟩
 intro hge
 simp only[decide_eq_false_iff_not]at hge
 have hend:=zdU (cf:=cmpL) (by omega:i≤a.texts.length) hib hge
 repeat refine c_r ?_
 refine rq ?_;intro gd K hgd hK
 try simp (disch:=first|omega|assumption|rfl) only[go_sem,h2,h3,p1,p2,p3,q1,q2,q3,Nat.zero_add]
 refine hK _ _ ?_;clear hK hgd;clear K;try clear gd
 repeat refine c_r ?_
 refine wc0 ?_ ?_
 ·intro hne
  simp only[Bool.not_eq_true',decide_eq_false_iff_not]at hne
  have hne2:¬((a.texts.length:Int)=(b.texts.length:Int)):=fun h=>hne (by omega)
  repeat refine c_r ?_
  refine rq ?_;intro gd K hgd hK
  try simp (disch:=first|omega|assumption|rfl) only[go_sem,h2,h3,p1,p2,p3,q1,q2,q3,Nat.zero_add]
  refine Fn.mono (zbW _ _) ?_
  rintro _ x1 ⟨rfl,hx1⟩
  try simp only[go_sem]
  refine hK _ _ ?_;clear hK hgd;clear K;try clear gd
  repeat refine c_r ?_
  refine rt0 Tryz.ntmps35 ?_
  refine⟨?_,(hE1.trans hEv).trans hx1⟩
  have hc:lexC cmpL a.texts b.texts≠0:=by rw[hinv,hend];exact fun h=>hne2 (zaR.1 h)
  rw[zcV]
  simp only[cmpD,orI]
  rw[if_pos hz0,if_pos hz1,if_pos hz2,if_neg hc,hinv,hend]
 intro heql
 simp only[Bool.not_eq_false',decide_eq_true_eq]at heql
 have heql2:(a.texts.length:Int)=(b.texts.length:Int):=by omega
 have hz3:lexC cmpL a.texts b.texts=0:=by rw[hinv,hend];exact zaR.2 heql2
 have g2:=h2
 have g3:=h3
 have hEL2:=hEv
 repeat refine c_r ?_
 refine rq ?_;intro gd K hgd hK
 try simp (disch:=first|omega|assumption|rfl) only[go_sem,h2,h3,p4,q4,Nat.zero_add]
 refine zbn (l:=a.raw) rfl rfl rfl (vq0) (fun j hj=>?_) ?_
 ·have:=zaa (hE1.trans hEv) (hgr j (by simpa using hj))
  rw[List.getElem_map]at this;exact this
 try simp (disch:=first|omega|assumption|rfl) only[go_sem,h2,h3,p4,q4,Nat.zero_add]
 refine zbn (l:=b.raw) rfl rfl rfl (vq0) (fun j hj=>?_) ?_
 ·have:=zaa (hE1.trans hEv) (hgr2 j (by simpa using hj))
  rw[List.getElem_map]at this;exact this
 try simp only[go_sem]
 refine Fn.mono (zds _ _ _) ?_
 rintro _ x1 ⟨rfl,hx1⟩
 try simp only[go_sem]
 refine hK _ _ ?_;clear hK hgd;clear K;try clear gd
 repeat refine c_r ?_
 refine rt0 Tryz.ntmps35 ?_
 refine⟨?_,(hE1.trans hEv).trans hx1⟩
 simp only[cmpD,orI]
 rw[if_pos hz0,if_pos hz1,if_pos hz2,if_pos hz3]
 by_cases hr:cmpL a.raw b.raw=0
 ·rw[if_pos hr,hr]
 ·rw[if_neg hr]
theorem zd4(w:World)(ca cb:List Value)(a b:DatL)(ha:DatAt w ca a)(hb:DatAt w cb b)(hoa:zcS a)(hob:zcS b):
  Fn Tryz.prog 37 #[.agg ca.toArray,.agg cb.toArray] w (fun v w'=>v= .bool (decide (cmpD a b=0))∧Ext w w'):=by
 have ha':=ha
 have hb':=hb
 obtain⟨nm,nu,tx,rw',rfl,_⟩:=ha.ex
 obtain⟨nm2,nu2,tx2,rw2,rfl,_⟩:=hb.ex
 refine enter Tryz.func37 Tryz.ntmps37 rfl rfl ?_
 repeat refine c_r ?_
 refine rg0 ?_
 repeat refine c_r ?_
 rw[zaq]
 refine zcr ?_
 intro w1 hE1 hs1 hA hB
 have p:=zdi (n:=5) hA rfl
 have q:=zdi (n:=5) hB rfl
 refine rq ?_;intro gd K hgd hK
 try simp (disch:=first|omega|assumption|rfl) only[go_sem,p,q]
 refine Fn.mono (zby _ _ _ a b (ha'.ext hE1) (hb'.ext hE1) hoa hob) ?_
 rintro _ w2 ⟨rfl,hE2⟩
 try simp only[go_sem]
 refine hK _ _ ?_;clear hK hgd;clear K;try clear gd
 repeat refine c_r ?_
 refine rt0 Tryz.ntmps37 ?_
 exact⟨rfl,hE1.trans hE2⟩
section
variable {α : Type} {cf : α → α → Int} {jn : α → α → α}
end
theorem W_alloc3{P:Program}{w:World}{f:Option Nat}{n:Nat}{c:Code}{Q:Post}{σ:Sto}{ds:List Deferred}{A B C:Obj}(h:∀w1,Ext w w1→w1.heap.size=w.heap.size+3→w1.heap[w.heap.size]? =some A→w1.heap[w.heap.size+1]? =some B→w1.heap[w.heap.size+1+1]? =some C→W P f n c Q σ ds w1):W P f n c Q σ ds (((w.alloc A).alloc B).alloc C):=by
 obtain⟨h1,h2,h3,h4,h5⟩:=ze3 w A B C
 exact h _ h1 h2 h3 h4 h5
section
variable {P : Program} {n : Nat} {σ : Sto} {w : World} {l : List ResultVar} {r : List Value}
theorem zai:resV P n σ w []=some []:=rfl
theorem zac{t:Tmp}{v:Value}(hv:ev n σ (.tmp t)=v)(h:resV P n σ w l=some r):resV P n σ w (.tmp t::l)=some (v::r):=by
 unfold resV
 rw[h,←hv];rfl
theorem zaM{a:Tmp}{t:TypeId}{x:Addr}{k:Nat}{cs:List Value}(hv:ev n σ (.tmp a)= .pointer (some x))(hA:tyA P t=true)(hk:tyS P t=k)(hc:zaB w (some x) k=some cs)(h:resV P n σ w l=some r):resV P n σ w (.cell a t::l)=some (.agg cs.toArray::r):=by
 subst hk
 unfold resV
 rw[show (if a<n then σ a else undef)= .pointer (some x) from hv]
 have:ldV P w t x=some (.agg cs.toArray):=by
  unfold ldV
  rw[hA,cond_true,show za4 w x 0 (tyS P t)=some cs from hc];rfl
 simp only[this,h]
theorem zdL{a:Tmp}{t:TypeId}{x:Addr}{v:Value}(hv:ev n σ (.tmp a)= .pointer (some x))(hA:tyA P t=false)(hU:(tyU P t).isSome=true)(hc:zag w (some x)=some v)(h:resV P n σ w l=some r):resV P n σ w (.cell a t::l)=some (v::r):=by
 unfold resV
 rw[show (if a<n then σ a else undef)= .pointer (some x) from hv]
 have:ldV P w t x=some v:=by
  unfold ldV
  rw[hA,cond_false,hU,cond_true];exact hc
 simp only[this,h]
theorem zaj{fn:Func}{R:Value→World→Prop}{e:Exit}(he:e= .normal∨e= .ret)(hm:fn.ntmps=n){rs:List ResultVar}(hl:fn.results.toList=rs)(hr:resV P n σ w rs=some r)(h:R (resT r) w):retQ P fn R e σ [] w:=by
 subst hm hl
 exact⟨he,trivial,r,hr,h⟩
theorem zdK{fn:Func}{R:Value→World→Prop}{e:Exit}{D:Nat}(he:e= .normal∨e= .ret)(hm:fn.ntmps=n){rs:List ResultVar}(hl:fn.results.toList=rs)(hD:w.heap[D]? =some (.deferred (some [])))
  (h:∀w',Keep (fun b=>b=D) w w'→w'.heap.size=w.heap.size→∃r,resV P n σ w' rs=some r∧R (resT r) w'):retQ P fn R e σ [{target:= .collected D,args:=#[]}] w:=by
 subst hm hl
 obtain⟨r,h1,h2⟩:=h (w.putObj D (.deferred Option.none)) (zaU rfl) (by simp)
 exact⟨he,⟨D,rfl,hD,trivial⟩,r,h1,h2⟩
end
theorem Own.blk{B:Nat}{w:World}{e:TypeId}{v:Value}{l:List Value}(h:Own B w e v l):BlkB B w v:=fun a n c hv=>(h.rowB).2 a n c hv
theorem zhl{w:World}{v:Value}{n:Nm}(hr:Row w v (n.map vs))(hlen:n.length≤1000000000000):
  Fn Tryz.prog 66 #[v] w (fun u w'=>Own w.heap.size w' 9 u (n.map vs)∧Ext w w'):=by
 have hr':=hr
 obtain⟨a,c,rfl,hc,hl⟩:=hr
 refine enter Tryz.func66 Tryz.ntmps66 rfl rfl ?_
 repeat refine c_r ?_
 refine rg0 ?_
 repeat refine c_r ?_
 refine rq ?_;intro gd K hgd hK
 try simp only[go_sem]
 refine eql_nil (by rfl) (by rfl) (by rfl) ?_
 try simp only[go_sem]
 refine hK _ _ ?_;clear hK hgd;clear K;try clear gd
 repeat refine c_r ?_
 cases a with
 |none=>
  have:n=[]:=by
   cases n with
   |nil=>rfl
   |cons x L=>have:=hl 0 (by simp);simp[zag,adr]at this
  subst this
  refine wc0 ?_ ?_
  ·intro _
   repeat refine c_r ?_
   refine rg0 ?_
   repeat refine c_r ?_
   refine rt0 Tryz.ntmps66 ?_
   exact⟨Own.nil _ _ _,Keep.refl _ _⟩
  ·intro h;cases h
 |some a=>
  refine wc0 ?_ ?_
  ·intro h;cases h
  intro _
  repeat refine c_r ?_
  refine rq ?_;intro gd K hgd hK
  try simp only[go_sem]
  refine zfu (z:=vs []) (by rfl) (by rfl) (by rfl) (by rfl) ?_
  intro w1 hE1 hs1 ho1
  try simp only[go_sem]
  refine zaP (B:=w.heap.size) ho1 (hr'.ext hE1) (by rfl) (by rfl) (by rfl) (by rfl) (by rfl) (by rfl) (by rfl) (by rfl) (ones_vs _) (by simp;omega) (by decide) (by omega) ?_
  intro v' w2 ho2 hE2 _ _
  try simp only[go_sem]
  refine hK _ _ ?_;clear hK hgd;clear K;try clear gd
  repeat refine c_r ?_
  refine rt0 Tryz.ntmps66 ?_
  exact⟨by simpa using ho2,hE2 w hE1 (Nat.le_refl _)⟩
theorem findL_at{α:Type}{p:α→Bool}{l pre suf:List α}{x:α}(h:l=pre++x::suf)(hp:∀y∈pre,p y=false)(hx:p x=true):l.find? p=some x:=by
 rw[h,List.find?_append]
 have:pre.find? p=Option.none:=by
  rw[List.find?_eq_none]
  intro y hy
  rw[hp y hy];exact Bool.false_ne_true
 rw[this]
 simp[hx]
theorem zfT{α:Type}{p:α→Bool}{l:List α}(hp:∀y∈l,p y=false):l.find? p=Option.none:=by
 rw[List.find?_eq_none]
 intro y hy
 rw[hp y hy];exact Bool.false_ne_true
def errL(l:Lab):Int:=if l=[] then 8 else if 63<l.length then 3 else 0
def lenN(n:Nm):Nat:=1+(n.map fun l=>1+l.length).sum
def zba(n:Nm):Int:=match n.find? (fun l=>decide (errL l≠0)) with
 |some l=>errL l
 |Option.none=>if 255<lenN n then 3 else 0
theorem zeA(w:World)(l:Lab)(hl:l.length≤9000000000000000000):Fn Tryz.prog 129 #[vs l] w (fun v w'=>v=vi (errL l)∧Ext w w'):=by
 refine enter Tryz.func129 Tryz.ntmps129 rfl rfl ?_
 repeat refine c_r ?_
 refine rg0 ?_
 repeat refine c_r ?_
 refine rg0 ?_
 repeat refine c_r ?_
 refine wc0 ?_ ?_
 ·intro h
  simp only[decide_eq_true_eq]at h
  repeat (first|refine c_r ?_|refine rg0 ?_)
  refine rt0 Tryz.ntmps129 ?_
  exact⟨by unfold errL;rw[if_pos h],Keep.refl _ _⟩
 intro h
 simp only[decide_eq_false_iff_not]at h
 repeat refine c_r ?_
 refine rg0 ?_
 repeat refine c_r ?_
 refine wc0 ?_ ?_
 ·intro h2
  simp only[decide_eq_true_eq]at h2
  repeat (first|refine c_r ?_|refine rg0 ?_)
  refine rt0 Tryz.ntmps129 ?_
  exact⟨by unfold errL;rw[if_neg h,if_pos (by omega)],Keep.refl _ _⟩
 ·intro h2
  simp only[decide_eq_false_iff_not]at h2
  repeat (first|refine c_r ?_|refine rg0 ?_)
  refine rt0 Tryz.ntmps129 ?_
  exact⟨by unfold errL;rw[if_neg h,if_neg (by omega)],Keep.refl _ _⟩
theorem zdw(w:World)(l:Lab)(hl:l.length≤9000000000000000000):Fn Tryz.prog 114 #[vs l] w (fun v w'=>v=vi (errL l)∧Ext w w'):=by
 refine enter Tryz.func114 Tryz.ntmps114 rfl rfl ?_
 repeat refine c_r ?_
 refine rg0 ?_
 repeat refine c_r ?_
 refine rg0 ?_
 repeat refine c_r ?_
 refine wc0 ?_ ?_
 ·intro h
  simp only[decide_eq_true_eq]at h
  repeat (first|refine c_r ?_|refine rg0 ?_)
  refine rt0 Tryz.ntmps114 ?_
  exact⟨by unfold errL;rw[if_pos h],Keep.refl _ _⟩
 intro h
 simp only[decide_eq_false_iff_not]at h
 repeat refine c_r ?_
 refine rg0 ?_
 repeat refine c_r ?_
 refine wc0 ?_ ?_
 ·intro h2
  simp only[decide_eq_true_eq]at h2
  repeat (first|refine c_r ?_|refine rg0 ?_)
  refine rt0 Tryz.ntmps114 ?_
  exact⟨by unfold errL;rw[if_neg h,if_pos (by omega)],Keep.refl _ _⟩
 ·intro h2
  simp only[decide_eq_false_iff_not]at h2
  repeat (first|refine c_r ?_|refine rg0 ?_)
  refine rt0 Tryz.ntmps114 ?_
  exact⟨by unfold errL;rw[if_neg h,if_neg (by omega)],Keep.refl _ _⟩
theorem sum_take{n:Nm}{i:Nat}(hi:i<n.length)(f:Lab→Nat):((n.take (i+1)).map f).sum=((n.take i).map f).sum+f n[i]:=by
 rw[zal hi,List.map_append,List.sum_append,List.map_cons,List.map_nil,List.sum_cons,List.sum_nil,Nat.add_zero]
theorem zc3:∀(k:Nm),(∀l∈k,l.length≤1000000000)→(k.map fun l=>1+l.length).sum≤1000000001*k.length
 | [],_=>by simp
 |x::k,h=>by
  have h3:=zc3 k (fun l hl=>h l (List.mem_cons_of_mem _ hl))
  have h4:=h x (List.mem_cons_self ..)
  rw[List.map_cons,List.sum_cons,List.length_cons];omega
theorem RLen_ok(w:World)(nv:Value)(n:Nm)(hn:Row w nv (n.map vs))(hl:∀l∈n,l.length≤1000000000)(hnl:n.length≤1000000000):
  Fn Tryz.prog 115 #[nv] w (fun v w'=>v=vi (lenN n)∧Ext w w'):=by
 obtain⟨an,cn,rfl,hcn,hgn⟩:=hn
 simp only[List.length_map]at hcn hgn
 rw[List.length_map]
 refine enter Tryz.func115 Tryz.ntmps115 rfl rfl ?_
 repeat refine c_r ?_
 refine rg0 ?_
 repeat refine c_r ?_
 refine rg0 ?_
 repeat refine c_r ?_
 refine rg0 ?_
 repeat refine c_r ?_
 refine zaF (fun m σ ds A=>ds=[]∧∃(i:Nat),i+m=n.length∧σ 4=vi i∧σ 0= .slice an n.length cn∧σ 3=vi (lenN (n.take i))∧Ext w A) n.length ?_ ?_
 ·exact⟨rfl,0,by omega,vr0,vq0,vr0,Keep.refl _ _⟩
 rintro m σ ds A ⟨rfl,i,him,h4,h0,h3,hEA⟩
 repeat refine c_r ?_
 refine rg2 h4 h0 ?_
 repeat refine c_r ?_
 refine wc0 ?_ ?_
 ·intro hlt
  simp only[decide_eq_true_eq]at hlt
  have hi:i<n.length:=by omega
  have hi0:(0:Int)≤(i:Int):=by omega
  have hi1:(i:Int)<(n.length:Int):=by omega
  have hi1':(i:Int)+1=((i+1:Nat):Int):=by push_cast;rfl
  have hg:=zaa hEA (hgn i (by simpa using hi))
  rw[List.getElem_map]at hg
  obtain⟨xn,rfl⟩:=Option.isSome_iff_exists.1 (zae hg)
  have hb:=zc3 (n.take i) (fun l hl'=>hl l (List.mem_of_mem_take hl'))
  rw[List.length_take]at hb
  have hb2:=hl n[i] (List.getElem_mem hi)
  have hs:((n.take (i+1)).map fun l=>1+l.length).sum=((n.take i).map fun l=>1+l.length).sum+(1+n[i].length):=sum_take hi _
  have hlen:((lenN (n.take i):Nat):Int)+1+((n[i]).length:Int)=((lenN (n.take (i+1)):Nat):Int):=by unfold lenN;rw[hs];omega
  have hln:lenN (n.take i)≤2000000000000000000:=by
   unfold lenN
   have:min i n.length≤1000000000:=by omega
   omega
  repeat refine c_r ?_
  refine rg7 h0 h3 h4 hi0 hi1 hg hlen ?_
  repeat refine c_r ?_
  refine rg2 h4 hi1' ?_
  repeat refine c_r ?_
  exact⟨m - 1,by omega,rfl,i+1,by omega,vq0,(vq1 h0),vq0,hEA⟩
 ·intro hge
  simp only[decide_eq_false_iff_not]at hge
  rw[List.take_of_length_le (by omega)]at h3
  repeat refine c_r ?_
  refine rg1 h3 ?_
  repeat refine c_r ?_
  refine rt1 h3 Tryz.ntmps115 ?_
  exact⟨rfl,hEA⟩
section
variable {P : Program} {d : Option Tmp} {ty : TypeId} {ps : String} {af : Array Edge} {g : Option (Nat × Bool)} {ρ : Operand → Value} {w : World} {K : Value → World → Prop}
theorem zgA{op:BinOp}{t yt:TypeId}{x y:Operand}{u v r:Value}(hx:ρ x=u)(hy:ρ y=v)(hr:(do eqGuard op t x y u v;binOp op t u v:Sem Value).run P w= .ok r w)(h:K r w):
  opW P ⟨d,.binOp op t x y yt,ty,ps,af,g⟩ ρ w K:=by
 have:=zap (P:=P) (K:=K) hr h
 rw[←hx,←hy]at this
 exact this
theorem zei{t te yt:TypeId}{j:TypeInfo}{x y:Operand}{a:Addr}(ht:tyU P t=some (.pointer te))(hj:P.info? te=some j)(hx:ρ x= .pointer (some a))(hy:ρ y= .pointer (some a))(h:K (.bool false) w):
  opW P ⟨d,.binOp .neq t x y yt,ty,ps,af,g⟩ ρ w K:=by
 refine zgA hx hy ?_ h
 simp[eqGuard,Lib.run_neq_ptr_same (P:=P) w a (show P.underlying t=_ from ht) hj]
theorem zgB{s t:TypeId}{x:Operand}{u v:Value}{w':World}(hx:ρ x=u)(hr:(convert s t u).run P w= .ok v w')(h:K v w'):opW P ⟨d,.convert s t x,ty,ps,af,g⟩ ρ w K:=by
 show opR P K ((do pure (.value (←convert s t (ρ x))):Sem Next).run P w)
 rw[hx]
 exact zap hr h
theorem op_appS{B:Nat}{s x:Operand}{t tu e:TypeId}{inf:TypeInfo}{v:Value}{l:List Value}{bs:List UInt8}(hown:Own B w e v l)(ht:tyU P t=some (.slice e))(hu:tyU P tu=some .string)(hi:P.info? e=some inf)(hz:inf.zero=some (.int .u8 0))
  (hsize:inf.size=1) (hby:inf.bytes=1) (hv:ρ s=v) (hx:ρ x=vs bs) (hlen:l.length+bs.length≤100000000000) (hB:B≤w.heap.size)
  (h:∀v' w',Own B w' e v' (l++bs.map zak)→Keep (fun b=>some b=v.ownBlock) w w'→K v' w'):
  opW P ⟨d,.call ⟨.builtin .append,#[s,x],#[t,tu]⟩,ty,ps,af,g⟩ ρ w K:=by
 have hs:(⟨bs.toArray⟩:ByteArray).size=bs.length:=by simp[ByteArray.size]
 obtain⟨v',w',hr,h2,h3,h4⟩:=Lib.run_append_own_string (P:=P) w B t tu ty e inf (show P.underlying t=_ from ht) (show P.underlying tu=_ from hu) hi hz hsize hby v l.length l hown ⟨bs.toArray⟩ (by rw[hs];simp[maxLen];omega) (by rw[hs];omega) hB
 have hc:Lib.strCells ⟨bs.toArray⟩=bs.map zak:=by simp[Lib.strCells,zak]
 rw[hs,hc]at h2
 refine zbB (b:= .append) (r:= .ok v' w') (fun v2 w2 h'=>?_) ⟨v',w',by rw[hv,hx];exact hr⟩
 rw[hv,hx]at h'
 have e1:(Builtin.append_ #[t,tu] ty #[v,.string ⟨bs.toArray⟩]).run P w= .ok v2 w2:=h'
 rw[hr]at e1
 cases e1
 have hl:l.length+bs.length=(l++bs.map zak).length:=by simp
 rw[hl]at h2
 exact h v' w' h2 (zdB h3 (zav _ _ _ _ hr))
theorem zbm{x:Operand}{ts:Array TypeId}{u v:Value}{w':World}(hx:ρ x=u)(hr:(Builtin.unsafeSliceData_ ts ty #[u]).run P w= .ok v w')(h:K v w'):
  opW P ⟨d,.call ⟨.builtin .unsafeSliceData,#[x],ts⟩,ty,ps,af,g⟩ ρ w K:=by
 simp only[opW,execOp,Sem.run_bind,resolve]
 simp only[Sem.run_pure,Result.andThen_ok,invoke,builtin]
 exact zap (s:=Builtin.unsafeSliceData_ ts ty (Array.map ρ #[x])) (by simpa [hx] using hr) h
theorem zaO{x y:Operand}{ts:Array TypeId}{u z v:Value}{w':World}(hx:ρ x=u)(hy:ρ y=z)(hr:(Builtin.unsafeString_ ts ty #[u,z]).run P w= .ok v w')(h:K v w'):
  opW P ⟨d,.call ⟨.builtin .unsafeString,#[x,y],ts⟩,ty,ps,af,g⟩ ρ w K:=by
 simp only[opW,execOp,Sem.run_bind,resolve]
 simp only[Sem.run_pure,Result.andThen_ok,invoke,builtin]
 exact zap (s:=Builtin.unsafeString_ ts ty (Array.map ρ #[x,y])) (by simpa [hx,hy] using hr) h
end
structure Bld(B:Nat)(w:World)(b:Nat)(bs:List UInt8):Prop where
 ex:∃p v,(p= .pointer Option.none∨p= .pointer (some ⟨b,0,Option.none⟩))∧w.heap[b]? =some (.cells #[p,v] 106 (0,0))∧Own B w 5 v (bs.map zak)
theorem zdQ{B:Nat}{w:World}{e:TypeId}{v:Value}{l:List Value}(h:Own B w e v l){b:Nat}(hb:some b=v.ownBlock):∃cur fr,w.heap[b]? =some (.cells cur e fr):=by
 rcases h.2 with ⟨rfl,_⟩| ⟨g,cap,cur,rfl,_,hg,_⟩
 ·cases hb
 ·cases hb;exact⟨_,_,hg⟩
theorem bld_ne{B:Nat}{w:World}{v p:Value}{l:List Value}{b:Nat}(h:Own B w 5 v l)(hb:w.heap[b]? =some (.cells #[p,v] 106 (0,0))):some b≠v.ownBlock:=fun he=>by
 obtain⟨cur,fr,h1⟩:=zdQ h he
 rw[hb]at h1
 injection h1 with h1
 injection h1 with _ h2
 revert h2;decide
theorem zeh(l:List UInt8):∀q∈l.map zak,one q=true:=fun q hq=>by
 obtain⟨c,_,rfl⟩:=List.mem_map.1 hq;rfl
theorem zbD{w:World}{b:Nat}{p v:Value}(hp:p= .pointer Option.none∨p= .pointer (some ⟨b,0,Option.none⟩))(hb:w.heap[b]? =some (.cells #[p,v] 106 (0,0))):
  Fn Tryz.prog 120 #[.pointer (some ⟨b,0,Option.none⟩)] w (fun _ w'=>w'.heap[b]? =some (.cells #[.pointer (some ⟨b,0,Option.none⟩),v] 106 (0,0))∧Keep (fun i=>i=b) w w'∧w'.heap.size=w.heap.size):=by
 have c0:zag w (some ⟨b,0,Option.none⟩)=some p:=zab hb rfl
 obtain⟨j,hj,hjs⟩:∃j,Tryz.prog.info? 106=some j∧j.size≠0:=by
  have:(Tryz.prog.info? 106).map (·.size)=some 2:=by kernel_rfl
  obtain⟨j,h1,h2⟩:=Option.map_eq_some_iff.1 this
  exact⟨j,h1,by rw[h2];decide⟩
 rcases hp with rfl|rfl
 ·refine enter Tryz.func120 Tryz.ntmps120 rfl rfl ?_
  repeat refine c_r ?_
  refine rq ?_;intro gd K hgd hK
  try simp (disch:=first|omega|assumption|rfl) only[go_sem,c0,Nat.add_zero]
  refine hK _ _ ?_;clear hK hgd;clear K;try clear gd
  repeat refine c_r ?_
  refine wc0 ?_ ?_
  ·intro _
   have hsh:w.shape? b=some (106,2):=by simp[World.shape?,hb]
   repeat refine c_r ?_
   refine rq ?_;intro gd K hgd hK
   try simp only[go_sem]
   refine zgB (by rfl) (Lib.run_to_unsafe w ⟨b,0,Option.none⟩ (by rfl) (by rfl) hj hjs hsh (Nat.zero_lt_succ 1)) ?_
   try simp only[go_sem]
   refine⟨.pointer (some ⟨b,0,Option.none⟩),w,?_,?_⟩
   ·rw[run_callFunc_extern (show Tryz.prog.funcs[189]? =_ from Tryz.func189) (by kernel_rfl) (by kernel_rfl) (by kernel_rfl) (e:=Extern.AbiNoEscape.same) (by kernel_rfl)]
    rw[Lib.run_noEscape]
    rfl
   try simp only[go_sem]
   refine zgB (by rfl) (Lib.run_from_unsafe w ⟨b,0,Option.none⟩ (by rfl) (by rfl) hj hsh (by kernel_rfl)) ?_
   try simp only[go_sem]
   refine zcc (P:=Tryz.prog) (t:=104) (j:=0) (l:=[.pointer Option.none,v]) hb (by simp) rfl rfl rfl ?_
   intro w1 hs1 hb1 hk1
   try simp only[go_sem]
   refine hK _ _ ?_;clear hK hgd;clear K;try clear gd
   repeat refine c_r ?_
   exact za2 (by simp) rfl ⟨by simpa using hb1,hk1,hs1⟩
  ·intro h;cases h
 ·refine enter Tryz.func120 Tryz.ntmps120 rfl rfl ?_
  repeat refine c_r ?_
  refine rq ?_;intro gd K hgd hK
  try simp (disch:=first|omega|assumption|rfl) only[go_sem,c0,Nat.add_zero]
  refine hK _ _ ?_;clear hK hgd;clear K;try clear gd
  repeat refine c_r ?_
  refine wc0 ?_ ?_
  ·intro h;cases h
  intro _
  repeat refine c_r ?_
  refine rq ?_;intro gd K hgd hK
  try simp (disch:=first|omega|assumption|rfl) only[go_sem,c0,Nat.add_zero]
  refine zei (by rfl) hj (by rfl) (by rfl) ?_
  try simp only[go_sem]
  refine hK _ _ ?_;clear hK hgd;clear K;try clear gd
  repeat refine c_r ?_
  refine wc0 ?_ ?_
  ·intro h;cases h
  intro _
  repeat refine c_r ?_
  exact za2 (by simp) rfl ⟨hb,Keep.refl _ _,rfl⟩
theorem zaD{B:Nat}{w:World}{b:Nat}{bs s:List UInt8}(h:Bld B w b bs)(hB:B≤w.heap.size)(hlen:bs.length+s.length≤100000000000):
  Fn Tryz.prog 57 #[.pointer (some ⟨b,0,Option.none⟩),vs s] w (fun _ w'=>Bld B w' b (bs++s)∧Keep (fun i=>i=b∨B≤i) w w'):=by
 obtain⟨p,v,hp,hb,hown⟩:=h.ex
 have hne:=bld_ne hown hb
 obtain⟨inf,hi,hz,hsz,hby⟩:=info_parts (P:=Tryz.prog) (e:=5) (z:= .int .u8 0) (size:=1) (bytes:=1) (by kernel_rfl)
 refine enter Tryz.func57 Tryz.ntmps57 rfl rfl ?_
 repeat refine c_r ?_
 refine rg0 ?_
 repeat refine c_r ?_
 refine rq ?_;intro gd K hgd hK
 try simp only[go_sem]
 refine Fn.mono (zbD hp hb) ?_
 rintro _ w1 ⟨hb1,hk1,hs1⟩
 try simp only[go_sem]
 refine hK _ _ ?_;clear hK hgd;clear K;try clear gd
 have hown1:=hown.keep hk1 (fun i hi he=>hne (he▸hi))
 have c1:zag w1 (some ⟨b,1,Option.none⟩)=some v:=zab hb1 rfl
 repeat refine c_r ?_
 refine rq ?_;intro gd K hgd hK
 try simp (disch:=first|omega|assumption|rfl) only[go_sem,c1,Nat.zero_add]
 refine op_appS hown1 (by rfl) (by rfl) hi hz hsz hby (by rfl) (by rfl) (by simpa using hlen) (by omega) ?_
 intro v2 w2 hown2 hk2
 try simp only[go_sem]
 have hb2:=(hk2.block b (Array.getElem?_eq_some_iff.1 hb1).1 hne).trans hb1
 have hne2:some b≠v2.ownBlock:=fun he=>by
  obtain⟨cur,fr,h1⟩:=zdQ hown2 he
  rw[hb2]at h1
  injection h1 with h1
  injection h1 with _ h2
  revert h2;decide
 obtain⟨a2,c2,hv2⟩:=hown2.slice
 refine zcc (P:=Tryz.prog) (t:=31) (j:=1) (l:=[.pointer (some ⟨b,0,Option.none⟩),v]) hb2 (by simp) (by rw[hv2];rfl) rfl rfl ?_
 intro w3 hs3 hb3 hk3
 try simp only[go_sem]
 refine hK _ _ ?_;clear hK hgd;clear K;try clear gd
 have hown3:=hown2.keep hk3 (fun i hi he=>hne2 (he▸hi))
 repeat refine c_r ?_
 refine rg0 ?_
 repeat refine c_r ?_
 refine zaj (.inr rfl) Tryz.ntmps57 rfl (zac rfl (zac rfl zai)) ?_
 refine⟨⟨⟨_,v2,.inr rfl,by simpa using hb3,by rw[List.map_append];exact hown3⟩⟩,?_⟩
 exact((hk1.mono (fun i _ h=> .inl h)).trans (hk2.mono (fun i _ h=> .inr (hown1.ge h).1))).trans (hk3.mono (fun i _ h=> .inl h))
theorem zaC{B:Nat}{w:World}{b:Nat}{bs:List UInt8}{c:UInt8}(h:Bld B w b bs)(hB:B≤w.heap.size)(hlen:bs.length+1≤100000000000):
  Fn Tryz.prog 80 #[.pointer (some ⟨b,0,Option.none⟩),zak c] w (fun _ w'=>Bld B w' b (bs++ [c])∧Keep (fun i=>i=b∨B≤i) w w'):=by
 obtain⟨p,v,hp,hb,hown⟩:=h.ex
 have hne:=bld_ne hown hb
 refine enter Tryz.func80 Tryz.ntmps80 rfl rfl ?_
 repeat refine c_r ?_
 refine rg0 ?_
 repeat refine c_r ?_
 refine rq ?_;intro gd K hgd hK
 try simp only[go_sem]
 refine Fn.mono (zbD hp hb) ?_
 rintro _ w1 ⟨hb1,hk1,hs1⟩
 try simp only[go_sem]
 refine hK _ _ ?_;clear hK hgd;clear K;try clear gd
 have hown1:=hown.keep hk1 (fun i hi he=>hne (he▸hi))
 have c1:zag w1 (some ⟨b,1,Option.none⟩)=some v:=zab hb1 rfl
 repeat refine c_r ?_
 refine rq ?_;intro gd K hgd hK
 try simp (disch:=first|omega|assumption|rfl) only[go_sem,c1,Nat.zero_add]
 refine zbb (z:= .int .u8 0) (v:=zak c) (by rfl) (by rfl) (by rfl) (by rfl) (by rfl) ?_
 intro x1 hX1 hXs hXo
 try simp only[go_sem]
 refine zaP (B:=B) (hown1.ext hX1) hXo.row (by rfl) (by rfl) (by rfl) (by rfl) (by rfl) (by rfl) (by rfl) (by rfl) (zeh [c]) (by simp;omega) (by decide) (by have:=hX1.size;omega) ?_
 intro v2 w2 hown2 _ hk2 hfr
 try simp only[go_sem]
 have hb2:=(hk2.block b (by have:=(Array.getElem?_eq_some_iff.1 hb1).1;have:=hX1.size;omega) hne).trans (Ext.at hX1 hb1)
 have hne2:some b≠v2.ownBlock:=fun he=>by
  obtain⟨cur,fr,h1⟩:=zdQ hown2 he
  rw[hb2]at h1
  injection h1 with h1
  injection h1 with _ h2
  revert h2;decide
 obtain⟨a2,c2,hv2⟩:=hown2.slice
 refine zcc (P:=Tryz.prog) (t:=31) (j:=1) (l:=[.pointer (some ⟨b,0,Option.none⟩),v]) hb2 (by simp) (by rw[hv2];rfl) rfl rfl ?_
 intro w3 hs3 hb3 hk3
 try simp only[go_sem]
 refine hK _ _ ?_;clear hK hgd;clear K;try clear gd
 have hown3:=hown2.keep hk3 (fun i hi he=>hne2 (he▸hi))
 repeat refine c_r ?_
 refine rg0 ?_
 repeat refine c_r ?_
 refine zaj (.inr rfl) Tryz.ntmps80 rfl (zac rfl zai) ?_
 refine⟨⟨⟨_,v2,.inr rfl,by simpa using hb3,by rw[List.map_append];exact hown3⟩⟩,?_⟩
 exact(((hk1.mono (fun i _ h=> .inl h)).trans (hX1.mono (fun i _ h=>h.elim))).trans (hk2.mono (fun i _ h=> .inr (hown1.ge h).1))).trans (hk3.mono (fun i _ h=> .inl h))
theorem zda(w:World)(p:Addr)(n:Nat):Keep (fun i=>i=p.block) w (w.freeze p n):=by
 unfold World.freeze
 split
 ·exact Keep.refl _ _
 ·exact⟨rfl,rfl,rfl,by simp,fun k hk hne=>by
   simp only[Array.getElem?_modify]
   rw[if_neg (fun h=>hne h.symm)],Nat.le_refl _⟩
theorem zbK{B:Nat}{w:World}{b:Nat}{bs:List UInt8}(h:Bld B w b bs)(hlen:bs.length≤100000000000):
  Fn Tryz.prog 64 #[.pointer (some ⟨b,0,Option.none⟩)] w (fun v w'=>v=vs bs∧Keep (fun i=>B≤i) w w'):=by
 obtain⟨p,v,hp,hb,hown⟩:=h.ex
 rcases hown.2 with ⟨rfl,hl⟩| ⟨g,cap,cur,rfl,hgB,hg,hn,hcap,hcs,hx⟩
 ·have h0:bs=[]:=by simpa using hl
  subst h0
  refine enter Tryz.func64 Tryz.ntmps64 rfl rfl ?_
  repeat refine c_r ?_
  refine rg0 ?_
  repeat refine c_r ?_
  refine zaS (fun _=>false) [(0,true),(1,true),(2,true),(3,true),(5,true),(6,true),(7,true),(8,true),(9,true),(4,false),(10,false),(11,true)] NoS mixed (by kernel_rfl) ?_;intro gd K x hgd hx hxe hK;have hx0:=za9 hxe;clear hxe
  have c1:zag x (some ⟨b,1,Option.none⟩)=some (.slice Option.none 0 0):=zab (Ext.at hx0 hb) rfl
  simp (disch:=first|omega|assumption|rfl) only[go_sem,c1,Nat.zero_add]
  refine zbm (u:= .slice Option.none 0 0) (vq0) (Lib.run_unsafeSliceData_nil _ _ _ _ _) ?_
  refine⟨.inr (Keep.refl _ _),?_⟩
  refine zaO (u:= .pointer Option.none) (z:=vi 0) (vq0) (vr0) (Lib.run_unsafeString_none (P:=Tryz.prog) _ _ _ _ _) ?_
  refine⟨.inr (Keep.refl _ _),?_⟩
  refine hK _ _ ?_;clear hK hgd;clear K;try clear gd
  repeat refine c_r ?_
  refine zaj (.inr rfl) Tryz.ntmps64 rfl (zac (vr0) zai) ?_
  exact⟨rfl,hx0.mono (fun i _ h=>h.elim)⟩
 by_cases h0:bs=[]
 ·subst h0
  refine enter Tryz.func64 Tryz.ntmps64 rfl rfl ?_
  repeat refine c_r ?_
  refine rg0 ?_
  repeat refine c_r ?_
  refine zaS (fun _=>false) [(0,true),(1,true),(2,true),(3,true),(5,true),(6,true),(7,true),(8,true),(9,true),(4,false),(10,false),(11,true)] NoS mixed (by kernel_rfl) ?_;intro gd K x hgd hx hxe hK;have hx0:=za9 hxe;clear hxe
  have c1:zag x (some ⟨b,1,Option.none⟩)=some (.slice (some ⟨g,0,Option.none⟩) 0 cap):=zab (Ext.at hx0 hb) rfl
  have hgx:=Ext.at hx0 hg
  simp (disch:=first|omega|assumption|rfl) only[go_sem,c1,Nat.zero_add]
  by_cases hc0:cap=0
  ·subst hc0
   refine zbm (u:= .slice (some ⟨g,0,Option.none⟩) 0 0) (vq0) (Lib.run_unsafeSliceData_zero (P:=Tryz.prog) _ _ _ 5 (by rfl) _ _ _ (by simp only[World.shape?,hgx];rfl)) ?_
   refine⟨.inr (Ext.alloc x _),?_⟩
   refine zaO (u:= .pointer (some ⟨x.heap.size,0,Option.none⟩)) (z:=vi 0) (vq0) (vr0) (Lib.run_unsafeString_none (P:=Tryz.prog) _ _ _ _ _) ?_
   refine⟨.inr (Keep.refl _ _),?_⟩
   refine hK _ _ ?_;clear hK hgd;clear K;try clear gd
   repeat refine c_r ?_
   refine zaj (.inr rfl) Tryz.ntmps64 rfl (zac (vr0) zai) ?_
   exact⟨rfl,(hx0.trans (Ext.alloc x _)).mono (fun i _ h=>h.elim)⟩
  ·refine zbm (u:= .slice (some ⟨g,0,Option.none⟩) 0 cap) (vq0) (Lib.run_unsafeSliceData_row _ _ _ _ _ _ hc0) ?_
   refine⟨.inr (Keep.refl _ _),?_⟩
   refine zaO (u:= .pointer (some ⟨g,0,Option.none⟩)) (z:=vi 0) (vq0) (vr0) (Lib.run_unsafeString_none (P:=Tryz.prog) _ _ _ _ _) ?_
   refine⟨.inr (Keep.refl _ _),?_⟩
   refine hK _ _ ?_;clear hK hgd;clear K;try clear gd
   repeat refine c_r ?_
   refine zaj (.inr rfl) Tryz.ntmps64 rfl (zac (vr0) zai) ?_
   exact⟨rfl,hx0.mono (fun i _ h=>h.elim)⟩
 simp only[List.length_map,Nat.mul_one]at hn hx hb hcs
 have hlen0:0<bs.length:=List.length_pos_iff.2 h0
 refine enter Tryz.func64 Tryz.ntmps64 rfl rfl ?_
 repeat refine c_r ?_
 refine rg0 ?_
 repeat refine c_r ?_
 have hbg:b≠g:=fun he=>by
  subst he
  rw[hb]at hg
  injection hg with hg
  injection hg with _ h2
  revert h2;decide
 have hc0:cap≠0:=by omega
 refine zaS (fun _=>false) [(0,true),(1,true),(2,true),(3,true),(5,true),(6,true),(7,true),(8,true),(9,true),(4,false),(10,false),(11,true)] ((fun i=>i=g)) mixed (by kernel_rfl) ?_;intro gd K x hgd hx hxe hK;have hx0:=za9 hxe;clear hxe
 have c1:zag x (some ⟨b,1,Option.none⟩)=some (.slice (some ⟨g,0,Option.none⟩) bs.length cap):=zab (Ext.at hx0 hb) rfl
 have hgx:=Ext.at hx0 hg
 simp (disch:=first|omega|assumption|rfl) only[go_sem,c1,Nat.zero_add]
 refine⟨fun a ha hb=>(by cases ha;exact hbg hb),fun a ha hb=>(by cases ha;exact hbg hb),?_⟩
 refine zbm (u:= .slice (some ⟨g,0,Option.none⟩) bs.length cap) (vq0) (Lib.run_unsafeSliceData_row _ _ _ _ _ _ hc0) ?_
 refine⟨.inr (Keep.refl _ _),?_⟩
 refine zaO (u:= .pointer (some ⟨g,0,Option.none⟩)) (z:=vi bs.length) (vq0) (vq0) (Lib.run_unsafeString_row (P:=Tryz.prog) _ _ _ _ 5 (by rfl) (by rfl) g (cap*1) (by simp[World.shape?,hgx,hcs]) bs h0 (by omega) (by omega) ?_) ?_
 ·intro j y hj
  obtain⟨hj1,hj2⟩:=List.getElem?_eq_some_iff.1 hj
  have hcell:=hown.row
  obtain⟨a,c,e,hc,hgt⟩:=hcell.ext hx0
  injection e with e1 e2 e3
  have h2:=hgt j (by simpa using hj1)
  rw[←e1,List.getElem_map,hj2]at h2
  exact h2
 have hfk:Keep (fun i=>i=g) x (x.freeze ⟨g,0,Option.none⟩ bs.length):=zda x ⟨g,0,Option.none⟩ bs.length
 refine⟨.inr hfk,?_⟩
 refine hK _ _ ?_;clear hK hgd;clear K;try clear gd
 repeat refine c_r ?_
 refine zaj (.inr rfl) Tryz.ntmps64 rfl (zac (vr0) zai) ?_
 exact⟨rfl,(hx0.mono (fun i _ h=>h.elim)).trans (hfk.mono (fun i _ h=>h▸hgB))⟩
end Go.Proofs.YtanmnkbccfcagaaGreatDoor
namespace Go.Proofs
open Go.Shelf
def Tryz.lays160_ren:Go.Shelf.Ren:=⟨fun|160=>134|232=>200|231=>199|227=>201|234=>203|233=>202|236=>205|235=>204|228=>243|271=>246|151=>245|197=>244|120=>277|152=>276|260=>275|137=>132|119=>286|224=>241|225=>240|217=>197|266=>239|n=>n,fun|9=>9|4=>4|3=>3|5=>5|117=>253|116=>252|0=>0|124=>256|21=>21|105=>285|46=>262|119=>321|139=>324|138=>323|n=>n,fun|3=>7|4=>8|n=>n⟩
theorem Tryz.lays160:Go.Proofs.Lays.n160 Tryz.prog Tryz.lays160_ren:={
 mixed:=by kernel_rfl
 f119:=Tryz.func286.trans (congrArg some (by kernel_rfl))
 f120:=Tryz.func277.trans (congrArg some (by kernel_rfl))
 f137:=Tryz.func132.trans (congrArg some (by kernel_rfl))
 f151:=Tryz.func245.trans (congrArg some (by kernel_rfl))
 f152:=Tryz.func276.trans (congrArg some (by kernel_rfl))
 f160:=Tryz.func134.trans (congrArg some (by kernel_rfl))
 f197:=Tryz.func244.trans (congrArg some (by kernel_rfl))
 f217:=Tryz.func197.trans (congrArg some (by kernel_rfl))
 f224:=Tryz.func241.trans (congrArg some (by kernel_rfl))
 f225:=Tryz.func240.trans (congrArg some (by kernel_rfl))
 f227:=Tryz.func201.trans (congrArg some (by kernel_rfl))
 f228:=Tryz.func243.trans (congrArg some (by kernel_rfl))
 f231:=Tryz.func199.trans (congrArg some (by kernel_rfl))
 f232:=Tryz.func200.trans (congrArg some (by kernel_rfl))
 f233:=Tryz.func202.trans (congrArg some (by kernel_rfl))
 f234:=Tryz.func203.trans (congrArg some (by kernel_rfl))
 f235:=Tryz.func204.trans (congrArg some (by kernel_rfl))
 f236:=Tryz.func205.trans (congrArg some (by kernel_rfl))
 f260:=Tryz.func275.trans (congrArg some (by kernel_rfl))
 f266:=Tryz.func239.trans (congrArg some (by kernel_rfl))
 f271:=Tryz.func246.trans (congrArg some (by kernel_rfl))
 t0:=Tryz.underlying0
 a0:=Tryz.isAgg0
 z0:=Tryz.sizeOf0
 v0:=Tryz.zeroValue0
 t3:=Tryz.underlying3
 a3:=Tryz.isAgg3
 z3:=Tryz.sizeOf3
 v3:=Tryz.zeroValue3
 t4:=Tryz.underlying4
 a4:=Tryz.isAgg4
 z4:=Tryz.sizeOf4
 v4:=Tryz.zeroValue4
 t5:=Tryz.underlying5
 a5:=Tryz.isAgg5
 z5:=Tryz.sizeOf5
 v5:=Tryz.zeroValue5
 t9:=Tryz.underlying9
 a9:=Tryz.isAgg9
 z9:=Tryz.sizeOf9
 v9:=Tryz.zeroValue9
 t21:=Tryz.underlying21
 a21:=Tryz.isAgg21
 z21:=Tryz.sizeOf21
 v21:=Tryz.zeroValue21
 t46:=Tryz.underlying262
 a46:=Tryz.isAgg262
 z46:=Tryz.sizeOf262
 v46:=Tryz.zeroValue262
 t105:=Tryz.underlying285
 a105:=Tryz.isAgg285
 z105:=Tryz.sizeOf285
 v105:=Tryz.zeroValue285
 t116:=Tryz.underlying252
 a116:=Tryz.isAgg252
 z116:=Tryz.sizeOf252
 t117:=Tryz.underlying253
 a117:=Tryz.isAgg253
 z117:=Tryz.sizeOf253
 v117:=Tryz.zeroValue253
 t119:=Tryz.underlying321
 a119:=Tryz.isAgg321
 z119:=Tryz.sizeOf321
 t124:=Tryz.underlying256
 a124:=Tryz.isAgg256
 z124:=Tryz.sizeOf256
 v124:=Tryz.zeroValue256
 t138:=Tryz.underlying323
 a138:=Tryz.isAgg323
 z138:=Tryz.sizeOf323
 v138:=Tryz.zeroValue323
 t139:=Tryz.underlying324
 a139:=Tryz.isAgg324
 z139:=Tryz.sizeOf324
 v139:=Tryz.zeroValue324
 g3:=by kernel_rfl
 g4:=by kernel_rfl}
def Tryz.lays146_ren:Go.Shelf.Ren:=⟨fun|146=>139|221=>208|268=>253|138=>254|143=>255|195=>280|197=>244|218=>281|219=>198|260=>275|217=>197|225=>240|224=>241|267=>242|266=>239|314=>274|n=>n,fun|9=>9|31=>23|3=>3|4=>4|0=>0|105=>285|21=>21|5=>5|46=>262|119=>321|139=>324|138=>323|146=>297|51=>28|n=>n,fun|1=>0|3=>7|4=>8|n=>n⟩
theorem Tryz.lays146:Go.Proofs.Lays.n146 Tryz.prog Tryz.lays146_ren:={
 mixed:=by kernel_rfl
 f138:=Tryz.func254.trans (congrArg some (by kernel_rfl))
 f143:=Tryz.func255.trans (congrArg some (by kernel_rfl))
 f146:=Tryz.func139.trans (congrArg some (by kernel_rfl))
 f195:=Tryz.func280.trans (congrArg some (by kernel_rfl))
 f197:=Tryz.func244.trans (congrArg some (by kernel_rfl))
 f217:=Tryz.func197.trans (congrArg some (by kernel_rfl))
 f218:=Tryz.func281.trans (congrArg some (by kernel_rfl))
 f219:=Tryz.func198.trans (congrArg some (by kernel_rfl))
 f221:=Tryz.func208.trans (congrArg some (by kernel_rfl))
 f224:=Tryz.func241.trans (congrArg some (by kernel_rfl))
 f225:=Tryz.func240.trans (congrArg some (by kernel_rfl))
 f260:=Tryz.func275.trans (congrArg some (by kernel_rfl))
 f266:=Tryz.func239.trans (congrArg some (by kernel_rfl))
 f267:=Tryz.func242.trans (congrArg some (by kernel_rfl))
 f268:=Tryz.func253.trans (congrArg some (by kernel_rfl))
 f314:=Tryz.func274.trans (congrArg some (by kernel_rfl))
 t0:=Tryz.underlying0
 a0:=Tryz.isAgg0
 z0:=Tryz.sizeOf0
 v0:=Tryz.zeroValue0
 t3:=Tryz.underlying3
 a3:=Tryz.isAgg3
 z3:=Tryz.sizeOf3
 v3:=Tryz.zeroValue3
 t4:=Tryz.underlying4
 a4:=Tryz.isAgg4
 z4:=Tryz.sizeOf4
 v4:=Tryz.zeroValue4
 t5:=Tryz.underlying5
 a5:=Tryz.isAgg5
 z5:=Tryz.sizeOf5
 v5:=Tryz.zeroValue5
 t9:=Tryz.underlying9
 a9:=Tryz.isAgg9
 z9:=Tryz.sizeOf9
 v9:=Tryz.zeroValue9
 t21:=Tryz.underlying21
 a21:=Tryz.isAgg21
 z21:=Tryz.sizeOf21
 v21:=Tryz.zeroValue21
 t31:=Tryz.underlying23
 a31:=Tryz.isAgg23
 z31:=Tryz.sizeOf23
 v31:=Tryz.zeroValue23
 t46:=Tryz.underlying262
 a46:=Tryz.isAgg262
 z46:=Tryz.sizeOf262
 v46:=Tryz.zeroValue262
 t51:=Tryz.underlying28
 a51:=Tryz.isAgg28
 z51:=Tryz.sizeOf28
 v51:=Tryz.zeroValue28
 t105:=Tryz.underlying285
 a105:=Tryz.isAgg285
 z105:=Tryz.sizeOf285
 v105:=Tryz.zeroValue285
 t119:=Tryz.underlying321
 a119:=Tryz.isAgg321
 z119:=Tryz.sizeOf321
 t138:=Tryz.underlying323
 a138:=Tryz.isAgg323
 z138:=Tryz.sizeOf323
 v138:=Tryz.zeroValue323
 t139:=Tryz.underlying324
 a139:=Tryz.isAgg324
 z139:=Tryz.sizeOf324
 v139:=Tryz.zeroValue324
 t146:=Tryz.underlying297
 a146:=Tryz.isAgg297
 z146:=Tryz.sizeOf297
 v146:=Tryz.zeroValue297
 g1:=by kernel_rfl
 g3:=by kernel_rfl
 g4:=by kernel_rfl}
def Tryz.laysPu14_ren:Go.Shelf.Ren:=⟨fun|14=>135|16=>206|17=>207|19=>247|20=>248|21=>249|22=>250|23=>251|24=>252|25=>278|27=>82|26=>279|28=>145|29=>210|30=>191|31=>192|32=>193|33=>194|35=>233|34=>232|36=>234|37=>235|38=>236|39=>271|40=>272|n=>n,fun|9=>9|3=>3|22=>114|24=>108|25=>209|4=>4|34=>288|5=>5|36=>262|37=>31|0=>0|39=>290|21=>21|44=>312|47=>200|50=>328|48=>326|2=>2|52=>239|55=>242|59=>280|60=>28|20=>20|61=>281|65=>319|66=>320|67=>121|n=>n,fun|0=>2|1=>3|2=>1|3=>5|4=>6|n=>n⟩
theorem Tryz.laysPu14:Go.Proofs.LaysPu.n14 Tryz.prog Tryz.laysPu14_ren:={
 mixed:=by kernel_rfl
 f14:=Tryz.func135.trans (congrArg some (by kernel_rfl))
 f16:=Tryz.func206.trans (congrArg some (by kernel_rfl))
 f17:=Tryz.func207.trans (congrArg some (by kernel_rfl))
 f19:=Tryz.func247.trans (congrArg some (by kernel_rfl))
 f20:=Tryz.func248.trans (congrArg some (by kernel_rfl))
 f21:=Tryz.func249.trans (congrArg some (by kernel_rfl))
 f22:=Tryz.func250.trans (congrArg some (by kernel_rfl))
 f23:=Tryz.func251.trans (congrArg some (by kernel_rfl))
 f24:=Tryz.func252.trans (congrArg some (by kernel_rfl))
 f25:=Tryz.func278.trans (congrArg some (by kernel_rfl))
 f26:=Tryz.func279.trans (congrArg some (by kernel_rfl))
 f27:=Tryz.func82.trans (congrArg some (by kernel_rfl))
 f28:=Tryz.func145.trans (congrArg some (by kernel_rfl))
 f29:=Tryz.func210.trans (congrArg some (by kernel_rfl))
 f30:=Tryz.func191.trans (congrArg some (by kernel_rfl))
 f31:=Tryz.func192.trans (congrArg some (by kernel_rfl))
 f32:=Tryz.func193.trans (congrArg some (by kernel_rfl))
 f33:=Tryz.func194.trans (congrArg some (by kernel_rfl))
 f34:=Tryz.func232.trans (congrArg some (by kernel_rfl))
 f35:=Tryz.func233.trans (congrArg some (by kernel_rfl))
 f36:=Tryz.func234.trans (congrArg some (by kernel_rfl))
 f37:=Tryz.func235.trans (congrArg some (by kernel_rfl))
 f38:=Tryz.func236.trans (congrArg some (by kernel_rfl))
 f39:=Tryz.func271.trans (congrArg some (by kernel_rfl))
 f40:=Tryz.func272.trans (congrArg some (by kernel_rfl))
 t0:=Tryz.underlying0
 a0:=Tryz.isAgg0
 z0:=Tryz.sizeOf0
 v0:=Tryz.zeroValue0
 i0:=by kernel_rfl
 t2:=Tryz.underlying2
 a2:=Tryz.isAgg2
 z2:=Tryz.sizeOf2
 v2:=Tryz.zeroValue2
 i2:=by kernel_rfl
 t3:=Tryz.underlying3
 a3:=Tryz.isAgg3
 z3:=Tryz.sizeOf3
 v3:=Tryz.zeroValue3
 i3:=by kernel_rfl
 t4:=Tryz.underlying4
 a4:=Tryz.isAgg4
 z4:=Tryz.sizeOf4
 v4:=Tryz.zeroValue4
 i4:=by kernel_rfl
 t5:=Tryz.underlying5
 a5:=Tryz.isAgg5
 z5:=Tryz.sizeOf5
 v5:=Tryz.zeroValue5
 i5:=by kernel_rfl
 t9:=Tryz.underlying9
 a9:=Tryz.isAgg9
 z9:=Tryz.sizeOf9
 v9:=Tryz.zeroValue9
 i9:=by kernel_rfl
 t20:=Tryz.underlying20
 a20:=Tryz.isAgg20
 z20:=Tryz.sizeOf20
 v20:=Tryz.zeroValue20
 i20:=by kernel_rfl
 t21:=Tryz.underlying21
 a21:=Tryz.isAgg21
 z21:=Tryz.sizeOf21
 v21:=Tryz.zeroValue21
 i21:=by kernel_rfl
 t22:=Tryz.underlying114
 a22:=Tryz.isAgg114
 z22:=Tryz.sizeOf114
 v22:=Tryz.zeroValue114
 i22:=by kernel_rfl
 t24:=Tryz.underlying108
 a24:=Tryz.isAgg108
 z24:=Tryz.sizeOf108
 v24:=Tryz.zeroValue108
 i24:=by kernel_rfl
 t25:=Tryz.underlying209
 a25:=Tryz.isAgg209
 z25:=Tryz.sizeOf209
 v25:=Tryz.zeroValue209
 i25:=by kernel_rfl
 t34:=Tryz.underlying288
 a34:=Tryz.isAgg288
 z34:=Tryz.sizeOf288
 v34:=Tryz.zeroValue288
 i34:=by kernel_rfl
 c34:=by kernel_rfl
 t36:=Tryz.underlying262
 a36:=Tryz.isAgg262
 z36:=Tryz.sizeOf262
 v36:=Tryz.zeroValue262
 i36:=by kernel_rfl
 t37:=Tryz.underlying31
 a37:=Tryz.isAgg31
 z37:=Tryz.sizeOf31
 v37:=Tryz.zeroValue31
 i37:=by kernel_rfl
 t39:=Tryz.underlying290
 a39:=Tryz.isAgg290
 z39:=Tryz.sizeOf290
 v39:=Tryz.zeroValue290
 i39:=by kernel_rfl
 t44:=Tryz.underlying312
 a44:=Tryz.isAgg312
 z44:=Tryz.sizeOf312
 v44:=Tryz.zeroValue312
 i44:=by kernel_rfl
 t47:=Tryz.underlying200
 a47:=Tryz.isAgg200
 z47:=Tryz.sizeOf200
 v47:=Tryz.zeroValue200
 i47:=by kernel_rfl
 t48:=Tryz.underlying326
 a48:=Tryz.isAgg326
 z48:=Tryz.sizeOf326
 v48:=Tryz.zeroValue326
 i48:=by kernel_rfl
 t50:=Tryz.underlying328
 a50:=Tryz.isAgg328
 z50:=Tryz.sizeOf328
 v50:=Tryz.zeroValue328
 i50:=by kernel_rfl
 t52:=Tryz.underlying239
 a52:=Tryz.isAgg239
 z52:=Tryz.sizeOf239
 v52:=Tryz.zeroValue239
 i52:=by kernel_rfl
 t55:=Tryz.underlying242
 a55:=Tryz.isAgg242
 z55:=Tryz.sizeOf242
 v55:=Tryz.zeroValue242
 i55:=by kernel_rfl
 t59:=Tryz.underlying280
 a59:=Tryz.isAgg280
 z59:=Tryz.sizeOf280
 v59:=Tryz.zeroValue280
 i59:=by kernel_rfl
 t60:=Tryz.underlying28
 a60:=Tryz.isAgg28
 z60:=Tryz.sizeOf28
 v60:=Tryz.zeroValue28
 i60:=by kernel_rfl
 t61:=Tryz.underlying281
 a61:=Tryz.isAgg281
 z61:=Tryz.sizeOf281
 t65:=Tryz.underlying319
 a65:=Tryz.isAgg319
 z65:=Tryz.sizeOf319
 v65:=Tryz.zeroValue319
 i65:=by kernel_rfl
 t66:=Tryz.underlying320
 a66:=Tryz.isAgg320
 z66:=Tryz.sizeOf320
 v66:=Tryz.zeroValue320
 i66:=by kernel_rfl
 t67:=Tryz.underlying121
 a67:=Tryz.isAgg121
 z67:=Tryz.sizeOf121
 v67:=Tryz.zeroValue121
 i67:=by kernel_rfl
 g0:=by kernel_rfl
 m0:=by kernel_rfl
 g1:=by kernel_rfl
 m1:=by kernel_rfl
 g2:=by kernel_rfl
 m2:=by kernel_rfl
 g3:=by kernel_rfl
 m3:=by kernel_rfl
 g4:=by kernel_rfl
 m4:=by kernel_rfl}
def Tryz.laysM171_ren:Go.Shelf.Ren:=⟨fun|171=>82|243=>145|246=>210|283=>191|284=>192|285=>193|286=>194|129=>233|317=>232|318=>234|319=>235|320=>236|337=>271|338=>272|n=>n,fun|3=>3|9=>9|2=>2|4=>4|171=>239|0=>0|53=>114|37=>31|5=>5|173=>242|212=>280|51=>28|20=>20|213=>281|46=>262|232=>319|233=>320|n=>n,fun|17=>1|18=>5|19=>6|n=>n⟩
theorem Tryz.laysM171:Go.Proofs.LaysM.n171 Tryz.prog Tryz.laysM171_ren:={
 mixed:=by kernel_rfl
 f129:=Tryz.func233.trans (congrArg some (by kernel_rfl))
 f171:=Tryz.func82.trans (congrArg some (by kernel_rfl))
 f243:=Tryz.func145.trans (congrArg some (by kernel_rfl))
 f246:=Tryz.func210.trans (congrArg some (by kernel_rfl))
 f283:=Tryz.func191.trans (congrArg some (by kernel_rfl))
 f284:=Tryz.func192.trans (congrArg some (by kernel_rfl))
 f285:=Tryz.func193.trans (congrArg some (by kernel_rfl))
 f286:=Tryz.func194.trans (congrArg some (by kernel_rfl))
 f317:=Tryz.func232.trans (congrArg some (by kernel_rfl))
 f318:=Tryz.func234.trans (congrArg some (by kernel_rfl))
 f319:=Tryz.func235.trans (congrArg some (by kernel_rfl))
 f320:=Tryz.func236.trans (congrArg some (by kernel_rfl))
 f337:=Tryz.func271.trans (congrArg some (by kernel_rfl))
 f338:=Tryz.func272.trans (congrArg some (by kernel_rfl))
 t0:=Tryz.underlying0
 a0:=Tryz.isAgg0
 z0:=Tryz.sizeOf0
 v0:=Tryz.zeroValue0
 t2:=Tryz.underlying2
 a2:=Tryz.isAgg2
 z2:=Tryz.sizeOf2
 v2:=Tryz.zeroValue2
 t3:=Tryz.underlying3
 a3:=Tryz.isAgg3
 z3:=Tryz.sizeOf3
 v3:=Tryz.zeroValue3
 t4:=Tryz.underlying4
 a4:=Tryz.isAgg4
 z4:=Tryz.sizeOf4
 v4:=Tryz.zeroValue4
 t5:=Tryz.underlying5
 a5:=Tryz.isAgg5
 z5:=Tryz.sizeOf5
 v5:=Tryz.zeroValue5
 t9:=Tryz.underlying9
 a9:=Tryz.isAgg9
 z9:=Tryz.sizeOf9
 v9:=Tryz.zeroValue9
 t20:=Tryz.underlying20
 a20:=Tryz.isAgg20
 z20:=Tryz.sizeOf20
 v20:=Tryz.zeroValue20
 t37:=Tryz.underlying31
 a37:=Tryz.isAgg31
 z37:=Tryz.sizeOf31
 v37:=Tryz.zeroValue31
 t46:=Tryz.underlying262
 a46:=Tryz.isAgg262
 z46:=Tryz.sizeOf262
 v46:=Tryz.zeroValue262
 t51:=Tryz.underlying28
 a51:=Tryz.isAgg28
 z51:=Tryz.sizeOf28
 v51:=Tryz.zeroValue28
 t53:=Tryz.underlying114
 a53:=Tryz.isAgg114
 z53:=Tryz.sizeOf114
 v53:=Tryz.zeroValue114
 t171:=Tryz.underlying239
 a171:=Tryz.isAgg239
 z171:=Tryz.sizeOf239
 v171:=Tryz.zeroValue239
 t173:=Tryz.underlying242
 a173:=Tryz.isAgg242
 z173:=Tryz.sizeOf242
 v173:=Tryz.zeroValue242
 t212:=Tryz.underlying280
 a212:=Tryz.isAgg280
 z212:=Tryz.sizeOf280
 v212:=Tryz.zeroValue280
 t213:=Tryz.underlying281
 a213:=Tryz.isAgg281
 z213:=Tryz.sizeOf281
 t232:=Tryz.underlying319
 a232:=Tryz.isAgg319
 z232:=Tryz.sizeOf319
 v232:=Tryz.zeroValue319
 t233:=Tryz.underlying320
 a233:=Tryz.isAgg320
 z233:=Tryz.sizeOf320
 v233:=Tryz.zeroValue320
 g17:=by kernel_rfl
 g18:=by kernel_rfl
 g19:=by kernel_rfl
 i0:=by kernel_rfl
 i2:=by kernel_rfl
 i3:=by kernel_rfl
 i4:=by kernel_rfl
 i5:=by kernel_rfl
 i9:=by kernel_rfl
 i20:=by kernel_rfl
 i37:=by kernel_rfl
 i46:=by kernel_rfl
 i51:=by kernel_rfl
 i53:=by kernel_rfl
 i171:=by kernel_rfl
 i173:=by kernel_rfl
 i212:=by kernel_rfl
 i232:=by kernel_rfl
 i233:=by kernel_rfl
 m17:=by kernel_rfl
 m18:=by kernel_rfl
 m19:=by kernel_rfl}
end Go.Proofs
namespace Go.Proofs.YtanmnkbccfcagaaGreatDoor
open Go
set_option maxRecDepth 10000
def digB(c:UInt8):Bool:=decide (48≤c.toNat) && decide (c.toNat≤57)
def valD(l:Lab):Nat:=l.foldl (fun n c=>10*n+(c.toNat - 48)) 0
def zfP(l:Lab):Bool:=!l.isEmpty && (l.all digB && !(decide (1<l.length) && decide (l.head? =some 48)))
def decP(most:Nat)(s:Lab):Nat×Int:=if zfP s then(if valD s≤most then(valD s,0) else(0,7)) else(0,2)
section
variable {A B C D E F G H I : Prop}
theorem an2(a:A)(b:B):A∧B:=⟨a,b⟩
theorem an3(a:A)(b:B)(c:C):A∧B∧C:=⟨a,b,c⟩
theorem an4(a:A)(b:B)(c:C)(d:D):A∧B∧C∧D:=⟨a,b,c,d⟩
theorem an5(a:A)(b:B)(c:C)(d:D)(e:E):A∧B∧C∧D∧E:=⟨a,b,c,d,e⟩
theorem an6(a:A)(b:B)(c:C)(d:D)(e:E)(f:F):A∧B∧C∧D∧E∧F:=⟨a,b,c,d,e,f⟩
theorem an7(a:A)(b:B)(c:C)(d:D)(e:E)(f:F)(g:G):A∧B∧C∧D∧E∧F∧G:=⟨a,b,c,d,e,f,g⟩
theorem an8(a:A)(b:B)(c:C)(d:D)(e:E)(f:F)(g:G)(h:H):A∧B∧C∧D∧E∧F∧G∧H:=⟨a,b,c,d,e,f,g,h⟩
theorem an9(a:A)(b:B)(c:C)(d:D)(e:E)(f:F)(g:G)(h:H)(i:I):A∧B∧C∧D∧E∧F∧G∧H∧I:=⟨a,b,c,d,e,f,g,h,i⟩
end
def gdOk:List (Nat×Nat)→(Nat→Option Tmp)→Prop
 | [],_=>True
 |p::l,gd=>gd p.1=some p.2∧gdOk l gd
theorem zeR{L:List Oper}:∀{gs:List (Nat×Nat)},(gs.all fun p=>dstL L p.1==some p.2)=true→gdOk gs (dstL L)
 | [],_=>trivial
 |p::l,h=>by
  simp only[List.all_cons,Bool.and_eq_true,beq_iff_eq]at h
  exact⟨h.1,zeR h.2⟩
theorem bi_un(b:Bool):zan undef b=false:=nr rfl
def Rest(P:Program)(Q:Post)(ds:List Deferred)(L:List Oper)(F:(Nat→Option Tmp)→(Sto→World→Prop)→Prop):Prop:=
 ∀(gd:Nat→Option Tmp) (K:Sto→World→Prop),gd=dstL L→(∀σ' w',Q .normal σ' ds w'→K σ' w')→F gd K
section
variable {P : Program} {r : Option Nat} {n : Nat} {Q : Post} {σ : Sto} {ds : List Deferred} {w : World} {p : Prop} {L : List Oper} {F : (Nat → Option Tmp) → (Sto → World → Prop) → Prop}
theorem wt{c:Operand}{x y:Code}(h:p)(ht:W P r n x Q σ ds w)(hc:p→ev n σ c= .bool true:=by intro h1;first| (simp only[go_sem,h1];done)| (simp only[go_sem,h1];rfl)):W P r n (.cond c x y) Q σ ds w:=zbz (hc h) (fun _=>ht) (fun h=>by cases h)
theorem wf{c:Operand}{x y:Code}(h:p)(ht:W P r n y Q σ ds w)(hc:p→ev n σ c= .bool false:=by intro h1;first| (simp only[go_sem,h1];done)| (simp only[go_sem,h1];rfl)):W P r n (.cond c x y) Q σ ds w:=zbz (hc h) (fun h=>by cases h) (fun _=>ht)
theorem ro{id:Nat}{ops:Array Oper}(h:Rest P Q ds ops.toList (fun gd K=>opsV P gd n ops.toList σ w K))(hd:zaI ops=true:=by rfl):W P r n (.region id ops false) Q σ ds w:=zcE hd fun gd K hgd hK=>h gd K hgd hK
theorem rd{f:FuncId}{args:Array Value}{w1:World}{R:Value→World→Prop}{C:(Nat→Option Tmp)→(Sto→World→Prop)→Value→World→Prop}(h:p)(hF:Fn P f args w1 R)(hr:∀v w',R v w'→Rest P Q ds L (fun gd K=>C gd K v w'))
  (hs:p→∀(gd:Nat→Option Tmp) (K:Sto→World→Prop),F gd K=Fn P f args w1 (fun v w'=>C gd K v w'):=by intro h1 gd K;(simp (disch:=first|omega|assumption|rfl) only[go_sem,h1])<;>exact rfl):Rest P Q ds L F:=
 fun gd K hgd hK=>(hs h gd K).mpr (Fn.mono hF fun v w' hR=>hr v w' hR gd K hgd hK)
theorem rc{id:Nat}{ops:Array Oper}{f:FuncId}{args:Array Value}{w1:World}{R:Value→World→Prop}{C:(Nat→Option Tmp)→(Sto→World→Prop)→Value→World→Prop}(h:p)(hF:Fn P f args w1 R)(hr:∀v w',R v w'→Rest P Q ds ops.toList (fun gd K=>C gd K v w'))
  (hs:p→∀(gd:Nat→Option Tmp) (K:Sto→World→Prop),opsV P gd n ops.toList σ w K=Fn P f args w1 (fun v w'=>C gd K v w'):=by intro h1 gd K;(simp (disch:=first|omega|assumption|rfl) only[go_sem,h1])<;>exact rfl)
  (hd:zaI ops=true:=by rfl):W P r n (.region id ops false) Q σ ds w:=ro (rd h hF hr hs) hd
theorem re{σ1:Sto}{w1:World}(h:p)(hq:Q .normal σ1 ds w1)
  (hs:p→∀(gd:Nat→Option Tmp) (K:Sto→World→Prop),F gd K=K σ1 w1:=by intro h1 gd K;(first| (simp (disch:=first|omega|assumption|rfl) only[go_sem,h1])|skip)<;>exact rfl):Rest P Q ds L F:=
 fun gd K _ hK=>(hs h gd K).mpr (hK _ _ hq)
theorem rdg(gs:List (Nat×Nat)){f:FuncId}{args:Array Value}{w1:World}{R:Value→World→Prop}{C:(Nat→Option Tmp)→(Sto→World→Prop)→Value→World→Prop}(h:p)(hF:Fn P f args w1 R)(hr:∀v w',R v w'→Rest P Q ds L (fun gd K=>C gd K v w'))
  (hs:p→∀(gd:Nat→Option Tmp) (K:Sto→World→Prop),gdOk gs gd→F gd K=Fn P f args w1 (fun v w'=>C gd K v w'):=by intro h1 gd K hg;simp only[gdOk]at hg;(simp (disch:=first|omega|assumption|rfl) only[go_sem,zad,zbf,bi_un,hg,h1])<;>exact rfl)
  (hg:(gs.all fun p=>dstL L p.1==some p.2)=true:=by exact rfl):Rest P Q ds L F:=
 fun gd K hgd hK=>(hs h gd K (hgd▸zeR hg)).mpr (Fn.mono hF fun v w' hR=>hr v w' hR gd K hgd hK)
theorem rcg(gs:List (Nat×Nat)){id:Nat}{ops:Array Oper}{f:FuncId}{args:Array Value}{w1:World}{R:Value→World→Prop}{C:(Nat→Option Tmp)→(Sto→World→Prop)→Value→World→Prop}(h:p)(hF:Fn P f args w1 R)(hr:∀v w',R v w'→Rest P Q ds ops.toList (fun gd K=>C gd K v w'))
  (hs:p→∀(gd:Nat→Option Tmp) (K:Sto→World→Prop),gdOk gs gd→opsV P gd n ops.toList σ w K=Fn P f args w1 (fun v w'=>C gd K v w'):=by intro h1 gd K hg;simp only[gdOk]at hg;(simp (disch:=first|omega|assumption|rfl) only[go_sem,zad,zbf,bi_un,hg,h1])<;>exact rfl)
  (hg:(gs.all fun p=>dstL ops.toList p.1==some p.2)=true:=by exact rfl) (hd:zaI ops=true:=by rfl):W P r n (.region id ops false) Q σ ds w:=ro (rdg gs h hF hr hs hg) hd
theorem reg(gs:List (Nat×Nat)){σ1:Sto}{w1:World}(h:p)(hq:Q .normal σ1 ds w1)
  (hs:p→∀(gd:Nat→Option Tmp) (K:Sto→World→Prop),gdOk gs gd→F gd K=K σ1 w1:=by intro h1 gd K hg;simp only[gdOk]at hg;(first| (simp (disch:=first|omega|assumption|rfl) only[go_sem,zad,zbf,bi_un,hg,h1])|skip)<;>exact rfl)
  (hg:(gs.all fun p=>dstL L p.1==some p.2)=true:=by exact rfl):Rest P Q ds L F:=
 fun gd K hgd hK=>(hs h gd K (hgd▸zeR hg)).mpr (hK _ _ hq)
theorem rgg(gs:List (Nat×Nat)){id:Nat}{ops:Array Oper}{σ1:Sto}{w1:World}(h:p)(hq:Q .normal σ1 ds w1)
  (hs:p→∀(gd:Nat→Option Tmp) (K:Sto→World→Prop),gdOk gs gd→opsV P gd n ops.toList σ w K=K σ1 w1:=by intro h1 gd K hg;simp only[gdOk]at hg;(simp (disch:=first|omega|assumption|rfl) only[go_sem,zad,zbf,bi_un,hg,h1])<;>exact rfl)
  (hg:(gs.all fun p=>dstL ops.toList p.1==some p.2)=true:=by exact rfl) (hd:zaI ops=true:=by rfl):W P r n (.region id ops false) Q σ ds w:=ro (reg gs h hq hs hg) hd
end
end Go.Proofs.YtanmnkbccfcagaaGreatDoor
namespace Go.Proofs.YtanmnkbccfcagaaGreatDoor
open Go Go.ChangeShapes Go.WideShapes Go.ChangeAt Go.RowKit Go.WideElems
theorem Ext.below{w x:World}(h:Ext w x):RowKit.Below w.heap.size w x:=⟨h.os,h.tape,h.output,h.size,fun k hk=>h.block k hk (fun h=>h)⟩
theorem Ext.kept{w x:World}(h:Ext w x)(may:MemPlace→Prop):w.keptBut x may:=by
 refine⟨h.os,h.output,fun i hi=>?_⟩
 rw[h.block i hi (fun h=>h)]
 cases hw:w.heap[i]? with
 |none=>trivial
 |some o=>cases o<;>simp
theorem zb9{H:Type}{enc:TypeId×Value→H}{P:Program}(hl:laidOutB P=true){W W':World}{sp:Nat→Bool}(hE:Ext W W'):
  ∀{ts:List TypeId} {vs:List Value} {ds:List (DataW H)} {ps:List MemPlace},(∀t∈ts,P.readableRec t=true∧t<P.types.size)→DataW.TrodAll enc P W 0 (fun _=>true) true ts vs ds ps→(∀x∈ps,x.block<W.heap.size)→(∀x∈ps,sp x.block=true)→
   DataW.TrodAll enc P W' 0 sp true ts vs ds ps
 | [],_,_,_,_,h,_,_=>by
  obtain⟨rfl,rfl,rfl⟩:=trodAll_nil h
  exact trodAll_mk0
 |_::_,_,_,_,ht,h,hlt,hs=>by
  obtain⟨v,vs1,d,ds1,a,b,rfl,rfl,rfl,h1,h2⟩:=trodAll_cons h
  obtain⟨hr,hrow⟩:=ht _ (List.mem_cons_self ..)
  exact trodAll_cons_mk (WideElems.Trod_stays hl hr hrow h1 (fun x hx=>hE.below.same (hlt x (List.mem_append_left _ hx))) (fun x hx=>hs x (List.mem_append_left _ hx)))
   (zb9 hl hE (fun t h=>ht t (List.mem_cons_of_mem _ h)) h2 (fun x hx=>hlt x (List.mem_append_right _ hx)) (fun x hx=>hs x (List.mem_append_right _ hx)))
theorem zfN{w x:World}(h:Ext w x){b:Nat}(hb:b<w.heap.size)(o:Nat):x.frozen? ⟨b,o,Option.none⟩=w.frozen? ⟨b,o,Option.none⟩:=by
 unfold World.frozen?
 rw[h.block b hb (fun h=>h)]
theorem law_post{H:Type}{enc:TypeId×Value→H}{P:Program}{f:Func}{s:ChangeSpec}{apart fresh handsOn again:Bool}{W W':World}{args:Array Value}{ds gs:List (DataW H)}{before:List MemPlace}
  (hW:DataW.Whole enc P f.params.toList s.vars apart W args.toList ds gs before) (hvn:s.vars=[]) (hspec:s.fn H ds={results:=[.lit (.bool true)],args:=ds}) {tb:TypeId} (hrt:f.resultTypes=#[tb]) (htb:P.underlying tb=some .bool)
  (hl:laidOutB P=true) (hrd:∀t∈f.params.toList,P.readableRec t=true∧t<P.types.size) (hE:Ext W W'):s.post enc P f apart fresh handsOn again W args (.bool true) W':=by
 have hlt:=hW.lt
 have hW0:=hW
 obtain⟨p,q,hA,hV,hpq,hfz,hnd⟩:=hW
 have hq:gs=[]∧q=[]:=by
  rw[hvn]at hV
  cases gs with
  |nil=>exact⟨rfl,hV⟩
  |cons _ _=>exact hV.elim
 obtain⟨rfl,rfl⟩:=hq
 rw[List.append_nil]at hpq
 subst hpq
 have hres:∀(b:Nat) (sp:Nat→Bool) (hd:Bool),DataW.TrodAll enc P W' b sp hd f.resultTypes.toList ((Value.bool true).resultList f.resultTypes.size) (s.fn H (ds++ [])).results []:=fun b sp hd=>by
  rw[List.append_nil,hspec,hrt]
  exact trodAll_mk1 (shut_bool htb true)
 have hargs:∀sp:Nat→Bool,(∀x∈before,sp x.block=true)→DataW.TrodAll enc P W' 0 sp true f.params.toList args.toList (s.fn H (ds++ [])).args before:=fun sp hs=>by
  rw[List.append_nil,hspec]
  exact zb9 hl hE hrd hA hlt hs
 have hvars:∀sp:Nat→Bool,DataW.TrodVars enc P W' sp s.vars (s.fn H (ds++ [])).vars []:=fun sp=>by
  rw[List.append_nil,hspec,hvn];rfl
 have hold:∀x∈before,(fun b=>decide (b<W.heap.size)) x.block=true:=fun x hx=>by simpa using hlt x hx
 refine⟨ds,[],before,[],before,[],hW0,hres _ _ _,hargs _ hold,hvars _,hE.kept _,fun _=>?_⟩
 refine⟨fun j t r h1 h2=>?_,_,_,([]++before)++ [],⟨[]++before,[],trodAll_append (hargs _ (fun _ _=>rfl)) (hres _ _ _),hvars _,rfl,?_,?_⟩,?_⟩
 ·rw[hrt]at h1 h2
  match j with
  |0=>
   simp at h1
   subst h1
   have:r= .bool true:=by simpa [Value.resultList] using h2.symm
   subst this
   exact okWide_bool_mk htb true
  |j+1=>simp at h1
 ·intro b off hp
  have hp':MemPlace.cell b off∈before:=by simpa using hp
  rw[zfN hE (show b<W.heap.size from hlt _ hp')]
  exact hfz b off hp'
 ·intro ha
  simpa using hnd ha
 ·intro x hx _
  simpa using hx
/-! arguments -/
section
variable {H : Type} {enc : TypeId × Value → H} {P : Program} {w : World} {base : Nat} {sp : Nat → Bool} {held : Bool}
def Rd(enc:TypeId×Value→H)(P:Program)(w:World)(base:Nat)(sp:Nat→Bool)(held:Bool)(t:TypeId)(v:Value):Prop:=∃n x,DataW.trod enc P w base sp held n t [v]=some x∧∀k∈x.1.weights P t,k≤reachBytes
theorem zb8{e:TypeId}{d:DataW H}{k:Nat}:∀{l:List (DataW H)},d∈l→k∈d.weights P e→k∈DataW.weightsAll P e l
 |a::l,hd,hk=>by
  simp only[DataW.weightsAll,List.mem_append]
  rcases List.mem_cons.1 hd with rfl|hd
  ·exact .inl hk
  ·exact .inr (zb8 hd hk)
theorem zdN{t e:TypeId}{v:Value}(h:Rd enc P w base sp held t v)(ht:P.underlying t=some (.slice e))(hc:P.cellsOf e=1):
  ∃vals,Row w v vals∧(∀u∈vals,Rd enc P w base sp held e u)∧vals.length*P.bytesOf e≤reachBytes:=by
 obtain⟨n,x,h,hw⟩:=h
 rcases Go.Deep.open_slice1 ht hc h with ⟨h1,_⟩| ⟨a,len,cap,m,k,V,D,Pl,h1,_,hl,hm,hmm,rfl,hx⟩
 ·simp only[List.cons.injEq,and_true]at h1
  subst h1
  exact⟨[],⟨Option.none,0,rfl,Nat.le_refl _,fun j h=>by simp at h⟩,fun u h=>(by cases h),by simp⟩
 ·simp only[List.cons.injEq,and_true]at h1
  subst h1
  have hml:len≤m:=by rw[hmm];split<;>omega
  simp only[DataW.weights,ht]at hw
  refine⟨(List.range len).map V,⟨some a,cap,by simp,by simpa using hl,fun j hj=>?_⟩,fun u hu=>?_,?_⟩
  ·simp at hj
   have:=(hx j (by omega)).1
   simpa [zag,adr] using this
  ·obtain⟨j,hj,rfl⟩:=List.mem_map.1 hu
   simp at hj
   refine⟨_,_,(hx j (by omega)).2,fun q hq=>hw q (List.mem_cons_of_mem _ (List.mem_append_left _ (zb8 (d:=D j) ?_ hq)))⟩
   exact List.mem_map.2 ⟨j,by simpa using hj,rfl⟩
  ·have h1:=hw _ (List.mem_cons_self ..)
   have h2:((List.range len).map V).length*P.bytesOf e≤(((List.range len).map D).length+((List.range (m - len)).map fun j=>D (len+j)).length)*P.bytesOf e:=Nat.mul_le_mul (by simp) (Nat.le_refl _)
   omega
theorem zgq{t:TypeId}{v:Value}(h:Rd enc P w base sp held t v)(ht:P.underlying t=some .string):∃s:List UInt8,v=vs s∧s.length≤reachBytes:=by
 obtain⟨n,x,h,hw⟩:=h
 cases n with
 |zero=>cases h
 |succ n=>
  unfold DataW.trod at h
  rw[ht]at h
  cases v<;>simp at h
  rename_i s
  obtain⟨_,rfl⟩:=h
  exact⟨s.data.toList,by simp[vs],by simpa [DataW.weights,ByteArray.toList_eq] using hw⟩
theorem zeN{α β:Type}{f:α→β}{Q:α→Prop}:∀{l:List β},(∀u∈l,∃s,u=f s∧Q s)→∃m:List α,l=m.map f∧∀s∈m,Q s
 | [],_=>⟨[],rfl,fun s h=>by cases h⟩
 |b::l,h=>by
  obtain⟨s,rfl,hq⟩:=h b (List.mem_cons_self ..)
  obtain⟨m,rfl,hm⟩:=zeN (fun u hu=>h u (List.mem_cons_of_mem _ hu))
  refine⟨s::m,rfl,fun x hx=>?_⟩
  rcases List.mem_cons.1 hx with rfl|hx
  ·exact hq
  ·exact hm x hx
end
end Go.Proofs.YtanmnkbccfcagaaGreatDoor
namespace Go.Proofs.YtanmnkbccfcagaaGreatDoor
open Go
section
variable {H : Type} {enc : TypeId × Value → H} {P : Program} {w : World} {base : Nat} {sp : Nat → Bool} {held : Bool}
structure NmOk(n:Nm):Prop where
 lb:LB n
 len:n.length≤8796093022207
theorem reach_lt:reachBytes<140737488355328:=by decide
theorem zgr{t e:TypeId}{v:Value}(h:Rd enc P w base sp held t v)(ht:P.underlying t=some (.slice e))(hc:P.cellsOf e=1)(he:P.underlying e=some .string)(hb:P.bytesOf e=16):∃n:Nm,Row w v (n.map vs)∧NmOk n:=by
 obtain⟨vals,hr,hall,hl⟩:=zdN h ht hc
 obtain⟨m,rfl,hm⟩:=zeN (f:=vs) (fun u hu=>zgq (hall u hu) he)
 have:=reach_lt
 rw[hb]at hl
 exact⟨m,hr,fun l hl=>by have:=hm l hl;omega,by simp at hl;omega⟩
theorem rd_names{t ts tb:TypeId}{v:Value}(h:Rd enc P w base sp held t v)(ht:P.underlying t=some (.slice ts))(hc:P.cellsOf ts=1)(ht2:P.underlying ts=some (.slice tb))(hc2:P.cellsOf tb=1)(he:P.underlying tb=some .string)(hb:P.bytesOf tb=16):
  ∃L:List Nm,NamesAt w v L∧∀n∈L,NmOk n:=by
 obtain⟨vals,hr,hall,hlen0⟩:=zdN h ht hc
 have:∃L:List Nm,(vals.length=L.length∧∀i (h:i<vals.length) (h':i<L.length),Row w vals[i] (L[i].map vs))∧∀n∈L,NmOk n:=by
  clear hr h hlen0
  induction vals with
  |nil=>exact⟨[],⟨rfl,fun i h=>by simp at h⟩,fun n h=>by cases h⟩
  |cons u vals ih=>
   obtain⟨n,hn,hok⟩:=zgr (hall u (List.mem_cons_self ..)) ht2 hc2 he hb
   obtain⟨L,⟨h1,h2⟩,h3⟩:=ih (fun x hx=>hall x (List.mem_cons_of_mem _ hx))
   refine⟨n::L,⟨by simp[h1],fun i a b=>?_⟩,fun x hx=>?_⟩
   ·cases i with
    |zero=>exact hn
    |succ i=>exact h2 i (by simpa using a) (by simpa using b)
   ·rcases List.mem_cons.1 hx with rfl|hx
    ·exact hok
    ·exact h3 x hx
 obtain⟨L,⟨h1,h2⟩,h3⟩:=this
 exact⟨L,⟨vals,hr,h1,h2⟩,h3⟩
end
class Tr (p:World→Prop):Prop where
 tr:∀{w x:World},Ext w x→p w→p x
theorem tr{p:World→Prop}[h:Tr p]{w x:World}(hE:Ext w x)(hp:p w):p x:=h.tr hE hp
instance Tr.and{p q:World→Prop}[Tr p][Tr q]:Tr fun w=>p w∧q w:=⟨fun hE h=>⟨tr hE h.1,tr hE h.2⟩⟩
instance Tr.cell{a:Option Addr}{v:Value}:Tr fun w=>zag w a=some v:=⟨fun hE h=>zaa hE h⟩
instance Tr.cells{a:Option Addr}{k:Nat}{l:List Value}:Tr fun w=>zaB w a k=some l:=⟨fun hE h=>zaf hE h⟩
instance Tr.ext{w0:World}:Tr fun w=>Ext w0 w:=⟨fun hE h=>h.trans hE⟩
instance Tr.row{v:Value}{l:List Value}:Tr fun w=>Row w v l:=⟨fun hE h=>h.ext hE⟩
instance Tr.obj{b:Nat}{o:Obj}:Tr fun w=>w.heap[b]? =some o:=⟨fun hE h=>Ext.at hE h⟩
instance Tr.const{p:Prop}:Tr fun _=>p:=⟨fun _ h=>h⟩
instance Tr.all{α:Sort _}{p:α→World→Prop}[∀a,Tr (p a)]:Tr fun w=>∀a,p a w:=⟨fun hE h a=>tr hE (h a)⟩
instance Tr.ex{α:Sort _}{p:α→World→Prop}[∀a,Tr (p a)]:Tr fun w=>∃a,p a w:=⟨fun hE h=>h.elim fun a h=>⟨a,tr hE h⟩⟩
attribute [go_sem] decide_true decide_false
/-! many steps at once -/
structure Gto(p q:Prop):Prop where
 of:q→p
section
variable {P : Program} {r : Option Nat} {n : Nat} {Q : Post} {σ : Sto} {ds : List Deferred} {w : World} {p q s : Prop} {L : List Oper} {F : (Nat → Option Tmp) → (Sto → World → Prop) → Prop}
theorem zgR:Gto p p:=⟨id⟩
theorem gto_c(h:Ctl p q)(k:Gto q s):Gto p s:=⟨fun g=>c_r (k.of g) h⟩
theorem gto_r{id:Nat}{ops:Array Oper}{σ1:Sto}{w1:World}(hs:∀(gd:Nat→Option Tmp) (K:Sto→World→Prop),gd=dstL ops.toList→opsV P gd n ops.toList σ w K=K σ1 w1)(hd:zaI ops=true)(k:Gto (Q .normal σ1 ds w1) q):
  Gto (W P r n (.region id ops false) Q σ ds w) q:=⟨fun g=>zcE hd fun gd K hgd hK=>(hs gd K hgd).mpr (hK _ _ (k.of g))⟩
theorem gto_t{c:Operand}{x y:Code}(hc:ev n σ c= .bool true)(k:Gto (W P r n x Q σ ds w) q):Gto (W P r n (.cond c x y) Q σ ds w) q:=⟨fun g=>zbz hc (fun _=>k.of g) (fun h=>by cases h)⟩
theorem gto_f{c:Operand}{x y:Code}(hc:ev n σ c= .bool false)(k:Gto (W P r n y Q σ ds w) q):Gto (W P r n (.cond c x y) Q σ ds w) q:=⟨fun g=>zbz hc (fun h=>by cases h) (fun _=>k.of g)⟩
theorem go(h:p)(hq:s)(hs:p→Gto q s:=by
  intro h1
  repeat (first
   | (apply gto_c;· (with_reducible constructor)<;>exact rfl)
   | (apply gto_r;(intro gd K hgd;(simp (disch:=first|omega|assumption|rfl) only[go_sem,h1])<;>with_reducible exact rfl);rfl)
   | (apply gto_t;· first| (simp only[go_sem,h1];done)| (simp only[go_sem,h1];exact rfl))
   | (apply gto_f;· first| (simp only[go_sem,h1];done)| (simp only[go_sem,h1];exact rfl)))
  exact zgR):q:=(hs h).of hq
theorem rgo{σ1:Sto}{w1:World}(h:p)(hq:s)
  (hs:p→∀(gd:Nat→Option Tmp) (K:Sto→World→Prop),F gd K=K σ1 w1:=by intro h1 gd K;(first| (simp (disch:=first|omega|assumption|rfl) only[go_sem,h1])|skip)<;>exact rfl)
  (hg:p→Gto (Q .normal σ1 ds w1) s:=by
   intro h1
   repeat (first
    | (apply gto_c;· (with_reducible constructor)<;>exact rfl)
    | (apply gto_r;(intro gd K hgd;(simp (disch:=first|omega|assumption|rfl) only[go_sem,h1])<;>with_reducible exact rfl);rfl)
    | (apply gto_t;· first| (simp only[go_sem,h1];done)| (simp only[go_sem,h1];exact rfl))
    | (apply gto_f;· first| (simp only[go_sem,h1];done)| (simp only[go_sem,h1];exact rfl)))
   exact zgR):Rest P Q ds L F:=
 re (p:=True) trivial ((hg h).of hq) fun _=>hs h
theorem zcq{c:Code}(N:Nat)(I:Nat→Sto→World→Prop)(h0:I 0 σ w)
  (hs:∀i σ w,i<N→(decide ((i:Int)<(N:Int))=true∧(0:Int)≤(i:Int)∧(i:Int)<(N:Int)∧(i:Int)+1=((i+1:Nat):Int))→I i σ w→W P r n c (zcb (fun σ ds w=>ds=[]∧I (i+1) σ w) Q) σ [] w)
  (he:∀σ w,decide ((N:Int)<(N:Int))=false→I N σ w→W P r n c (zcb (fun _ _ _=>False) Q) σ [] w):W P r n (.loop c) Q σ [] w:=by
 refine zaF (fun m σ ds w=>ds=[]∧∃i,i+m=N∧I i σ w) N ⟨rfl,0,by omega,h0⟩ ?_
 rintro m σ ds w ⟨rfl,i,him,hI⟩
 by_cases h:i<N
 ·refine zat (hs i σ w h ⟨decide_eq_true (by omega),by omega,by omega,by push_cast;rfl⟩ hI) ?_
  intro e σ' ds' w' hq
  cases e<;>first|exact hq|exact⟨m - 1,by omega,hq.1,i+1,by omega,hq.2⟩
 ·have e1:i=N:=by omega
  subst e1
  refine zat (he σ w (decide_eq_false (by omega)) hI) ?_
  intro e σ' ds' w' hq
  cases e<;>first|exact hq|exact hq.elim
end
set_option maxRecDepth 10000
structure WX(w:World):Prop where
 ml:∃m,w.cell? ⟨0,0,Option.none⟩=some (.int .i64 m)
 p10:∃t fr,w.heap[1]? =some (.cells (Lib.pow10Tab.map fun z=>Value.int .u64 z).toArray t fr)
 er:∃t p,w.cell? ⟨3,0,Option.none⟩=some (.iface t p)
 tz:∃x,w.cell? ⟨6,15,Option.none⟩=some (.int .u8 x)∧0≤x∧x<256
theorem WX.ext{w x:World}(h:WX w)(hE:Ext w x):WX x:=by
 obtain⟨m,h1⟩:=h.ml
 obtain⟨t,fr,h2⟩:=h.p10
 obtain⟨u,p,h3⟩:=h.er
 obtain⟨x,h4,h5⟩:=h.tz
 exact⟨⟨m,zbQ hE h1⟩,⟨t,fr,hE.at h2⟩,⟨u,p,zbQ hE h3⟩,⟨x,zbQ hE h4,h5⟩⟩
instance WX.tr:Tr WX:=⟨fun hE h=>h.ext hE⟩
theorem zb5(w:World):∀n,(w.drewN n).drawn=w.drawn+n
 |0=>rfl
 |n+1=>by
  have:=zb5 w n
  simp only[World.drewN]at this ⊢
theorem Ext.drewN(w:World)(n:Nat):Ext w (w.drewN n):=⟨rfl,rfl,rfl,Nat.le_refl _,fun _ _ _=>rfl,by rw[zb5];omega⟩
theorem Ext.of_below{w w':World}(h:RowKit.Below w.heap.size w w')(hd:w.drawn≤w'.drawn):Ext w w':=⟨h.os,h.tape,h.output,h.size,fun b hb _=>h.block b hb,hd⟩
theorem Ext.grow(w:World)(n:Nat)(os:Array Obj):Ext w (Go.Sort.grow (w.drewN n) os):=
 ⟨rfl,rfl,rfl,by show w.heap.size≤(w.heap++os).size;rw[Array.size_append];omega,fun b hb _=>by
  show(w.heap++os)[b]? =_
  rw[Array.getElem?_append_left hb],by show w.drawn≤(w.drewN n).drawn;rw[zb5];omega⟩
theorem zen(w:World)(a:Addr)(n:Nat):(w.freeze a n).drawn=w.drawn:=by unfold World.freeze;split<;>rfl
theorem Ext.bytes(w:World)(e:TypeId)(s:ByteArray):Ext w (Lib.bytesWorld w e s):=
 Ext.of_below (Lib.bytesWorld_below _ _ _) (by
  unfold Lib.bytesWorld
  rw[zen]
  exact Nat.le_succ _)
/-! contracts -/
/-! digits cut off both ends -/
def digs10:Lab:=[48,49,50,51,52,53,54,55,56,57]
theorem digs_has(c:UInt8):digs10.contains c=digB c:=by
 have:∀n,n<256→digs10.contains (UInt8.ofNat n)=digB (UInt8.ofNat n):=by decide+kernel
 have h:=this c.toNat c.toNat_lt
 rwa [UInt8.ofNat_toNat]at h
theorem zcl{α:Type}(p:α→Bool):∀l:List α,(l.dropWhile p=[])↔l.all p=true
 | []=>by simp
 |a::l=>by
  rw[List.dropWhile_cons]
  cases h:p a with
  |true=>simpa [h] using zcl p l
  |false=>simp[h]
theorem zd6(s:Lab):(Lib.trimS s digs10=[])↔s.all digB=true:=by
 have e:(fun b=>digs10.contains b)=digB:=funext digs_has
 unfold Lib.trimS Lib.trimLeftS Lib.trimRightS
 simp only[e]
 rw[zcl,List.all_eq_true,List.all_eq_true]
 constructor
 ·intro h x hx
  by_cases hd:digB x=true
  ·exact hd
  ·refine h x (List.mem_reverse.2 ?_)
   have key:∀l:Lab,x∈l→x∈l.dropWhile digB:=by
    intro l
    induction l with
    |nil=>intro h;cases h
    |cons a l ih=>
     intro hm
     rw[List.dropWhile_cons]
     split
     ·rename_i ha
      rcases List.mem_cons.1 hm with rfl|hm
      ·exact absurd ha hd
      ·exact ih hm
     ·exact hm
   exact key _ (List.mem_reverse.2 hx)
 ·intro h x hx
  have h1:=List.mem_reverse.1 hx
  exact h x (List.mem_reverse.1 ((List.dropWhile_sublist _).subset h1))
theorem Trim_ok(w:World)(s:Lab)(h0:s≠ [])(hs:s.length≤9000000000000000000):Fn Tryz.prog 134 #[vs s,vs digs10] w (fun v w'=>v=vs (Lib.trimS s digs10)∧Ext w w'):=by
 refine Fn.of_calls (Calls.mono (Any.strings_Trim_set Tryz.lays160 (zero_of_info (n:=256) (by kernel_rfl)).1 (by kernel_rfl) ⟨s.toArray⟩ ⟨digs10.toArray⟩ w (by decide) (show 0<s.toArray.size by simpa using List.length_pos_iff.2 h0) (show s.toArray.size≤_ by simp;omega) (by decide) (ascii_of_all (by decide))) ?_)
 rintro _ w' ⟨he,q,rfl⟩
 exact⟨_,he,rfl,((Ext.alloc w _).trans (Ext.alloc _ _)).trans (Ext.drewN _ q)⟩
section
variable {P : Program} {d : Option Tmp} {ty : TypeId} {ps : String} {af : Array Edge} {g : Option (Nat × Bool)} {ρ : Operand → Value} {w : World} {K : Value → World → Prop}
theorem zfh{x y:Operand}{ts:Array TypeId}{u z v:Value}{w':World}(hx:ρ x=u)(hy:ρ y=z)(hr:(Builtin.copy_ ts ty #[u,z]).run P w= .ok v w')(h:K v w'):
  opW P ⟨d,.call ⟨.builtin .copy,#[x,y],ts⟩,ty,ps,af,g⟩ ρ w K:=by
 simp only[opW,execOp,Sem.run_bind,resolve]
 simp only[Sem.run_pure,Result.andThen_ok,invoke,builtin]
 exact zap (s:=Builtin.copy_ ts ty (Array.map ρ #[x,y])) (by simpa [hx,hy] using hr) h
end
theorem Clone_ok(w:World)(s:Lab)(hs:s.length≤1000000000):Fn Tryz.prog 278 #[vs s] w (fun v w'=>v=vs s∧Ext w w'):=by
 refine enter Tryz.func278 Tryz.ntmps278 rfl rfl ?_
 refine go trivial ?_
 by_cases h0:s=[]
 ·subst h0
  refine wt (by decide:decide (((0:Nat):Int)=0)=true) ?_
  refine go trivial ?_
  refine rt0 Tryz.ntmps278 ?_
  exact⟨rfl,Keep.refl _ _⟩
 have hp:=List.length_pos_iff.2 h0
 have hd:decide ((s.length:Int)=0)=false:=decide_eq_false (by omega)
 refine wf hd ?_
 repeat refine c_r ?_
 refine rq ?_;intro gd K hgd hK
 try simp only[go_sem]
 refine zef (n:=s.length) rfl rfl rfl rfl (vq0) (vq0) (by show 1*_≤_;omega) (by omega) rfl ?_
 try simp only[go_sem]
 refine hK _ _ ?_;clear hK hgd;clear K;try clear gd
 repeat refine c_r ?_
 refine rq ?_;intro gd K hgd hK
 try simp only[go_sem]
 have hM:(madeCells #[Value.int .u8 0] s.length).size=s.length:=by simp[size_madeCells]
 refine zfh (u:= .slice (some ⟨w.heap.size,0,Option.none⟩) s.length s.length) (z:=vs s) (vq0) (vq0)
  (Lib.run_copy_row_string (P:=Tryz.prog) _ _ _ _ 5 w.heap.size 0 s.length s.length ⟨s.toArray⟩ _ 5 rfl (by kernel_rfl) (World.alloc_heap_new w _) (by simp[ByteArray.size]) (by rw[hM];simp[ByteArray.size])) ?_
 rw[World.setRow_alloc_new]
 have hY:((madeCells #[Value.int .u8 0] s.length).toList.take 0++Lib.byteCells (⟨s.toArray⟩:ByteArray).data.toList++(madeCells #[Value.int .u8 0] s.length).toList.drop (0+(⟨s.toArray⟩:ByteArray).size)).toArray=(s.map zak).toArray:=by
  rw[List.take_zero,List.nil_append,List.drop_of_length_le (by rw[Array.length_toList,hM];simp[ByteArray.size]),List.append_nil]
  rfl
 rw[hY]
 try simp only[go_sem]
 refine hK _ _ ?_;clear hK hgd;clear K;try clear gd
 have hb:(w.alloc (.cells (s.map zak).toArray 5)).heap[w.heap.size]? =some (.cells (s.map zak).toArray 5 (0,0)):=World.alloc_heap_new w _
 have hz0:(0:Int)≤0:=Int.le_refl _
 have hl1:(0:Int)<(s.length:Int):=by omega
 repeat refine c_r ?_
 refine rq ?_;intro gd K hgd hK
 try simp (disch:=first|omega|assumption|rfl) only[go_sem,hz0,hl1,Int.toNat_zero,Nat.zero_mul,zaL]
 refine zaO (u:= .pointer (some ⟨w.heap.size,0,Option.none⟩)) (z:=vi s.length) (vq0) (vq0) (Lib.run_unsafeString_row (P:=Tryz.prog) _ _ _ _ 5 (by rfl) (by rfl) w.heap.size (s.map zak).toArray.size (by unfold World.shape?;rw[hb]) s h0 (by simp) (by omega) (fun j y hj=>Lib.cells_of_row hb (s.map zak).toArray.size j _ (by rw[List.take_of_length_le (by simp)];simp[hj,zak]))) ?_
 have hfk:=Keep.to_ext (Ext.alloc w (.cells (s.map zak).toArray 5)) rfl (fun b (hS:b=w.heap.size)=>by omega) (zda (w.alloc (.cells (s.map zak).toArray 5)) ⟨w.heap.size,0,Option.none⟩ s.length)
 try simp only[go_sem]
 refine hK _ _ ?_;clear hK hgd;clear K;try clear gd
 repeat refine c_r ?_
 refine rt0 Tryz.ntmps278 ?_
 exact⟨rfl,hfk⟩
/-! where the number is too great:an error,whatever the variable holds -/
theorem zdO(w:World)(f s:Lab)(hs:s.length≤1000000000)(hv:∃t p,w.cell? ⟨3,0,Option.none⟩=some (.iface t p)):
  Calls Tryz.prog 250 #[vs f,vs s] w (fun e w'=>(∃N,e= .returned (.pointer (some ⟨N,0,Option.none⟩)))∧Ext w w'):=by
 obtain⟨te,pe,hv⟩:=hv
 have hvd:w.drew.cell? ⟨3,0,Option.none⟩=some (.iface te pe):=hv
 have hG:3<w.heap.size:=World.block_lt_of_cell? (w:=w) (h:=hv)
 have mx:=mixed
 go_enter Tryz.func250,Tryz.ntmps250
 go_wp2
 go_region_with_o (
  go_at_call 278
  refine(Fn.calls (Clone_ok _ s hs)).mono ?_
  rintro e w2 ⟨_,rfl,rfl,hbel⟩
  have hv2:w2.cell? ⟨3,0,Option.none⟩=some (.iface te pe):=zbQ hbel hvd)
 all_goals (
  go_wp2
  go_ret
  exact⟨⟨_,rfl⟩,((Keep.drew NoS w).trans hbel).trans (Ext.alloc _ _)⟩)
theorem zfB(w:World)(f s:Lab)(hs:s.length≤1000000000)(hv:∃t p,w.cell? ⟨3,0,Option.none⟩=some (.iface t p)):
  Calls Tryz.prog 207 #[vs f,vs s,vi 10,vi 64,.iface 288 (.int .i64 1)] w (fun e w'=>(∃t p,e= .returned (.iface t p))∧Ext w w'):=by
 have mx:=mixed
 have hq12:∀W,(binOp .eql 108 (.iface 288 (.int .i64 1)) (.iface 288 (.int .i64 2))).run Tryz.prog W= .ok (.bool false) W:=fun W=>Lib.run_eql_iface_int W 1 2 Tryz.laysPu14.t24 Tryz.laysPu14.c34 Tryz.laysPu14.t34
 have hq11:∀W,(binOp .eql 108 (.iface 288 (.int .i64 1)) (.iface 288 (.int .i64 1))).run Tryz.prog W= .ok (.bool true) W:=fun W=>Lib.run_eql_iface_int W 1 1 Tryz.laysPu14.t24 Tryz.laysPu14.c34 Tryz.laysPu14.t34
 go_enter Tryz.func207,Tryz.ntmps207
 go_wp2_with (go_at_call 250;refine(zdO _ f s hs hv).mono ?_)
 rintro e w2 ⟨⟨N,rfl⟩,hE⟩
 go_wp2
 go_ret
 exact⟨⟨_,_,rfl⟩,hE⟩
theorem zff{M:Nat}(hM:M=18446744073709551615):∀(l:Lab) (acc:Nat),l.all digB=true→acc≤M→
  (l.foldl (fun n c=>10*n+(c.toNat - 48)) acc≤M→Lib.parseUintM M acc l= .ok (l.foldl (fun n c=>10*n+(c.toNat - 48)) acc))∧(M<l.foldl (fun n c=>10*n+(c.toNat - 48)) acc→Lib.parseUintM M acc l= .range)
 | [],acc,_,ha=>⟨fun _=>rfl,fun h=>absurd h (by simpa using ha)⟩
 |c::l,acc,hd,ha=>by
  simp only[List.all_cons,Bool.and_eq_true]at hd
  have hc:=hd.1
  unfold digB at hc
  simp only[Bool.and_eq_true,decide_eq_true_eq]at hc
  have mono:∀(l:Lab) (a:Nat),a≤l.foldl (fun n c=>10*n+(c.toNat - 48)) a:=by
   intro l
   induction l with
   |nil=>exact fun a=>Nat.le_refl _
   |cons c l ih=>exact fun a=>Nat.le_trans (show a≤10*a+(c.toNat - 48) by omega) (ih _)
  have hm:=mono l (10*acc+(c.toNat - 48))
  rw[List.foldl_cons]
  unfold Lib.parseUintM
  rw[if_pos hc,Nat.mul_comm acc 10]
  by_cases h1:M<10*acc+(c.toNat - 48)
  ·refine⟨fun h=>by omega,fun _=>?_⟩
   rw[if_pos h1]
   split<;>rfl
  ·by_cases h2:1844674407370955162≤acc
   ·omega
   rw[if_neg h2,if_neg h1]
   exact zff hM l _ hd.2 (by omega)
theorem zex{w:World}(hW:WX w)(s:Lab)(h0:s≠ [])(hd:s.all digB=true)(hs:s.length≤1000000000):
  Fn Tryz.prog 135 #[vs s,vi 10,vi 64] w (fun v w'=>(if valD s≤18446744073709551615 then v= .tuple #[.int .u64 (valD s),.nilIface] else∃n t p,v= .tuple #[.int .u64 n,.iface t p])∧Ext w w'):=by
 have hm:(2:Nat) ^ 64 - 1=18446744073709551615:=by decide
 obtain⟨p1,p2⟩:=zff (M:=2 ^ 64 - 1) hm s 0 hd (Nat.zero_le _)
 have hsz:(⟨s.toArray⟩:ByteArray).size≤9223372036854775806:=by show s.toArray.size≤_;simp;omega
 by_cases hv:valD s≤18446744073709551615
 ·have e1:Lib.parseUintB 64 (⟨s.toArray⟩:ByteArray).data.toList= .ok (valD s):=by
   unfold Lib.parseUintB
   rw[if_neg (by simpa using h0)]
   exact p1 (by rw[hm];exact hv)
  refine Fn.of_calls (Calls.mono (Any.strconv_ParseUint_10_at64_ok Tryz.laysPu14 ⟨s.toArray⟩ hsz _ e1 w) ?_)
  rintro _ w' ⟨rfl,h⟩
  refine⟨_,rfl,by rw[if_pos hv],?_⟩
  rcases h with rfl|rfl
  ·exact Keep.refl _ _
  ·exact Ext.bytes _ _ _
 ·have e1:Lib.parseUintB 64 (⟨s.toArray⟩:ByteArray).data.toList= .range:=by
   unfold Lib.parseUintB
   rw[if_neg (by simpa using h0)]
   exact p2 (by rw[hm];exact Nat.lt_of_not_le hv)
  have hI:=AnyPu.internal_strconv_ParseUint_10_at64 {Tryz.laysPu14 with} ⟨s.toArray⟩ hsz w
  rw[e1]at hI
  have hI:Calls Tryz.prog 206 #[vs s,.int .i64 10,.int .i64 64] w fun e w'=>e= .returned (.tuple #[.int .u64 18446744073709551615,.iface 288 (.int .i64 1)])∧(w'=w∨w'=Lib.bytesWorld w 5 ⟨s.toArray⟩):=hI
  refine Fn.of_calls ?_
  simp only[if_neg hv]
  go_enter Tryz.func135,Tryz.ntmps135
  go_wp2_with (go_at_call 206;refine hI.mono ?_)
  rintro e W1 rfl hw
  have hE1:Ext w W1:=by
   rcases hw with rfl|rfl
   ·exact Keep.refl _ _
   ·exact Ext.bytes _ _ _
  clear hw
  have hW1:=hW.ext hE1
  go_wp2_with (go_at_call 207;refine(zfB _ [80,97,114,115,101,85,105,110,116] s hs hW1.er).mono ?_)
  rintro e W2 ⟨⟨t,p,rfl⟩,hE2⟩
  go_wp2
  go_ret2
  exact⟨_,rfl,⟨_,_,_,rfl⟩,hE1.trans hE2⟩
theorem Bld.mono{B B':Nat}{w:World}{b:Nat}{bs:List UInt8}(h:Bld B w b bs)(hB:B'≤B):Bld B' w b bs:=by
 obtain⟨p,v,h1,h2,h3⟩:=h.ex
 exact⟨p,v,h1,h2,h3.mono hB⟩
theorem zf9(w:World)(n:Nat)(hn:n≤100000000000):extC Tryz.prog 231 #[vi n] w (fun v w'=>∃cs:Array Value,v= .slice (some ⟨w.heap.size,0,Option.none⟩) n cs.size∧w'=w.drew.drew.alloc (.cells cs 5 (0,0))∧n≤cs.size∧cs.size≤maxLen):=by
 obtain⟨cs,hrun,hle,hmax⟩:=Lib.run_makeNoZero (P:=Tryz.prog) w #[3] 31 5 rfl n (by omega)
 refine⟨_,_,?_,cs,rfl,rfl,hle,hmax (by unfold maxLen;omega)⟩
 rw[run_callFunc_extern Tryz.func231 (by kernel_rfl) (by kernel_rfl) (by kernel_rfl) (e:=Extern.BytealgMakeNoZero.makeNoZero #[3] #[31]) (by kernel_rfl),hrun]
 rfl
section
variable {P : Program} {d : Option Tmp} {ty : TypeId} {ps : String} {af : Array Edge} {g : Option (Nat × Bool)} {ρ : Operand → Value} {w : World} {K : Value → World → Prop}
theorem v_cap(a:Array Operand)(t:Array TypeId):opV P ⟨d,.call ⟨.builtin .cap,a,t⟩,ty,ps,af,g⟩ ρ w K=opL P ⟨d,.call ⟨.builtin .cap,a,t⟩,ty,ps,af,g⟩ ρ w K .mk:=nr rfl
theorem op_cap{x:Operand}{t e:TypeId}{a:Option Addr}{n c:Nat}(ht:tyU P t=some (.slice e))(hx:ρ x= .slice a n c)(h:K (vi c) w):opW P ⟨d,.call ⟨.builtin .cap,#[x],#[t]⟩,ty,ps,af,g⟩ ρ w K:=by
 simp only[opW,execOp,Sem.run_bind,resolve]
 simp only[Sem.run_pure,Result.andThen_ok,invoke,builtin]
 refine zap (s:=Builtin.cap_ #[t] ty (Array.map ρ #[x])) (v:=vi c) (w':=w) ?_ h
 simp[Builtin.cap_,hx,run_underlying (show P.underlying t=_ from ht),goInt]
end
attribute [go_sem ↓] v_cap
theorem zfM{w:World}{b n:Nat}(hb:w.heap[b]? =some (.cells #[.pointer (some ⟨b,0,Option.none⟩),.slice Option.none 0 0] 106 (0,0)))(hn:n≤100000000000):
  Fn Tryz.prog 190 #[.pointer (some ⟨b,0,Option.none⟩),vi n] w (fun _ w'=>Bld w.heap.size w' b []∧Keep (fun i=>i=b∨w.heap.size≤i) w w'):=by
 refine enter Tryz.func190 Tryz.ntmps190 rfl rfl ?_
 repeat refine c_r ?_
 refine zaS (fun _=>false) [(0,true),(1,true),(2,true),(3,true),(6,true),(9,true),(10,true),(11,true),(12,true),(13,true),(4,false),(5,true),(7,true),(8,false),(14,true),(15,true)] (zbX w.heap.size) mixed (by kernel_rfl) ?_;intro gd K x hgd hx hxe hK;have hx0:=za9 hxe;clear hxe
 have c1:zag x (some ⟨b,1,Option.none⟩)=some (.slice Option.none 0 0):=zaK (Ext.at hx0 hb) rfl
 simp (disch:=first|omega|assumption|rfl) only[go_sem,c1]
 have hbs:b<w.heap.size:=(Array.getElem?_eq_some_iff.1 hb).1
 refine⟨za3 hbs,za3 hbs,?_⟩
 refine op_cap rfl (vr0) ?_
 refine⟨.inr (Keep.refl _ _),?_⟩
 simp (disch:=first|omega|assumption|rfl) only[go_sem,c1]
 rw[show (2:Int)*((0:Nat):Int)+(n:Int)=(n:Int) by omega]
 obtain⟨_,y1,hr,cs,rfl,hy,hle,hmx⟩:=zf9 x n hn
 have hEy:Ext x y1:=hy▸((Keep.drew NoS x).trans (Keep.drew NoS _)).trans (Ext.alloc _ _)
 refine⟨_,y1,hr,.inr hEy.keep,?_⟩
 have c2:zag y1 (some ⟨b,1,Option.none⟩)=some (.slice Option.none 0 0):=zaK (Ext.at (hx0.trans hEy) hb) rfl
 have hnew:y1.heap[x.heap.size]? =some (.cells cs 5 (0,0)):=by rw[hy];exact zar _ _
 have hsy:y1.heap.size=x.heap.size+1:=by rw[hy];exact zaq _ _
 have z0:(0:Int)≤((0:Nat):Int):=by omega
 simp (disch:=first|omega|assumption|rfl) only[go_sem,c2,z0,ite_self,Nat.sub_zero]
 refine hK _ _ ?_;clear hK hgd;clear K;try clear gd
 repeat refine c_r ?_
 refine rq ?_;intro gd K hgd hK
 try simp (disch:=first|omega|assumption|rfl) only[go_sem,c2]
 refine zfh (u:= .slice (some ⟨x.heap.size,0,Option.none⟩) 0 cs.size) (z:= .slice Option.none 0 0) (vr0) (vr0) (run_copy_none _ _ _ _ 5 _ _ _ _ _ _ (by kernel_rfl) (by kernel_rfl) rfl) ?_
 try simp only[go_sem]
 refine hK _ _ ?_;clear hK hgd;clear K;try clear gd
 repeat refine c_r ?_
 refine rq ?_;intro gd K hgd hK
 try simp only[go_sem]
 refine zcc (P:=Tryz.prog) (t:=31) (j:=1) (l:=[.pointer (some ⟨b,0,Option.none⟩),.slice Option.none 0 0]) (Ext.at (hx0.trans hEy) hb) (by simp) rfl rfl rfl ?_
 intro w3 hs3 hb3 hk3
 try simp only[go_sem]
 refine hK _ _ ?_;clear hK hgd;clear K;try clear gd
 repeat refine c_r ?_
 have hsx:=hx0.size
 have hn3:w3.heap[x.heap.size]? =some (.cells cs 5 (0,0)):=(hk3.block _ (by rw[hsy];omega) (fun h=>by have h:x.heap.size=b:=h;omega)).trans hnew
 refine zaj (.inl rfl) Tryz.ntmps190 rfl zai ?_
 refine⟨⟨⟨_,_,.inr rfl,by simpa using hb3,⟨rfl,.inr ⟨x.heap.size,cs.size,cs,rfl,hsx,hn3,Nat.zero_le _,hmx,by simp,rfl⟩⟩⟩⟩,?_⟩
 exact(((hx0.trans hEy).mono (fun i _ h=>h.elim)).trans (hk3.mono (fun i _ h=> .inl h)))
theorem zga{w:World}{b n:Nat}(hb:w.heap[b]? =some (.cells #[.pointer Option.none,.slice Option.none 0 0] 106 (0,0)))(hn:n≤100000000000):
  Fn Tryz.prog 121 #[.pointer (some ⟨b,0,Option.none⟩),vi n] w (fun _ w'=>Bld w.heap.size w' b []∧Keep (fun i=>i=b∨w.heap.size≤i) w w'):=by
 have hbs:b<w.heap.size:=(Array.getElem?_eq_some_iff.1 hb).1
 have d0:decide ((n:Int)<0)=false:=decide_eq_false (by omega)
 refine enter Tryz.func121 Tryz.ntmps121 rfl rfl ?_
 repeat refine c_r ?_
 refine rq ?_;intro gd K hgd hK
 try simp only[go_sem]
 refine Fn.mono (zbD (.inl rfl) hb) ?_
 rintro _ w1 ⟨hb1,hk1,hs1⟩
 try simp only[go_sem]
 refine hK _ _ ?_;clear hK hgd;clear K;try clear gd
 refine go d0 ?_
 have hb1s:b<w1.heap.size:=by omega
 refine zaS (fun _=>false) [(0,true),(1,true),(2,true),(3,true),(5,true),(6,true),(7,true),(8,true),(9,true),(11,true),(4,false),(10,true),(12,true)] (zbX w1.heap.size) mixed (by kernel_rfl) ?_;intro gd K x hgd hx hxe hK;have hx0:=za9 hxe;clear hxe
 have hbx:=Ext.at hx0 hb1
 have c1:zag x (some ⟨b,1,Option.none⟩)=some (.slice Option.none 0 0):=zaK hbx rfl
 simp (disch:=first|omega|assumption|rfl) only[go_sem,c1]
 refine⟨za3 hb1s,za3 hb1s,?_⟩
 refine op_cap rfl (vr0) ?_
 refine⟨.inr (Keep.refl _ _),?_⟩
 simp (disch:=first|omega|assumption|rfl) only[go_sem,c1]
 refine hK _ _ ?_;clear hK hgd;clear K;try clear gd
 repeat refine c_r ?_
 have hkx:Keep (fun i=>i=b∨w.heap.size≤i) w x:=(hk1.mono fun i _ h=> .inl h).trans (hx0.mono fun i _ h=>h.elim)
 have hsx:=hx0.size
 refine wc0 ?_ ?_
 ·intro _
  refine go trivial ?_
  refine rc trivial (zfM hbx hn) ?_
  rintro _ w3 ⟨hB,hk3⟩
  refine rgo trivial ?_
  refine zaj (.inl rfl) Tryz.ntmps121 rfl zai ?_
  exact⟨hB.mono (by omega),hkx.trans (hk3.mono fun i _ h=>h.imp id fun h=>by omega)⟩
 ·intro _
  refine go trivial ?_
  refine zaj (.inl rfl) Tryz.ntmps121 rfl zai ?_
  exact⟨⟨⟨_,_,.inr rfl,hbx,Own.nil _ _ _⟩⟩,hkx⟩
section
variable {P : Program} {x : World} {e : TypeId} {K : Value → World → Prop}
theorem zbo{t:TypeId}{cur:Array Value}{l:List Value}(hl:l.length=cur.size)(h1:∀v∈l,one v=true)(hs:tyS P t=l.length)(hi:(P.info? t).isSome=true)
  (hK:∀w',Ext x w'→w'.heap.size=x.heap.size+1→w'.heap[x.heap.size]? =some (.cells l.toArray e (0,0))→K undef w'):stK P t (.pointer (some ⟨x.heap.size,0,Option.none⟩)) (.agg l.toArray) (x.alloc (.cells cur e (0,0))) K:=by
 have hB3:=zar x (.cells cur e (0,0))
 have hE4:=Ext.alloc x (.cells cur e (0,0))
 have hs4:=zaq x (.cells cur e (0,0))
 refine zaY (P:=P) (t:=t) (l:=l) hB3 hl h1 hs hi ?_
 intro w5 hs5 hB5 hk5
 exact hK w5 (Keep.to_ext hE4 rfl (fun b hb=>by omega) hk5) (by omega) hB5
theorem Row.isOne{w:World}{v:Value}{l:List Value}(h:Row w v l):one v=true:=by
 obtain⟨a,c,rfl,_⟩:=h;rfl
end
end Go.Proofs.YtanmnkbccfcagaaGreatDoor
