/-
  Texts of a proof, joined: B6, M5cm, E8, B0, L2, B1, B2, B3, E9, E10, F2, Y4, F3, F4, Y5, F5, E11, E12, E13, F6, F7, F8, F9.
  Conditions: none.
-/
import Derived.Test.YtahbdamijngmmaaGreatJPE04
import Derived.Test.YtahbdamijngmmaaGreatJPE01
import Derived.Test.YtahbdamijngmmaaGreatJPE02
import Derived.Test.YtahbdamijngmmaaGreatProg
import Derived.Shelf.Small.Strs
import Derived.Shelf.Strings.Builder1
set_option linter.unusedVariables false
set_option linter.unusedSimpArgs false
set_option linter.defProp false
set_option linter.unnecessarySimpa false
set_option maxHeartbeats 8000000
namespace Go.Proofs.YtahbdamijngmmaaGreat
open Go
set_option maxRecDepth 10000
theorem zfM{n:Nm}{i:Nat}(hi:i<n.length)(h:∀j (h:j<n.length),j<i→errL n[j]=0)(he:errL n[i]≠0):zaE n=errL n[i]:=by
 unfold zaE
 have:n.find? (fun l=>decide (errL l≠0))=some n[i]:=by
  refine ziB (pre:=n.take i) (suf:=n.drop (i+1)) (zdB hi) (fun y hy=>?_) (by simpa using he)
  obtain⟨j,hj,rfl⟩:=List.getElem_of_mem hy
  rw[List.getElem_take]
  simp at hj
  simpa using h j (by omega) (by omega)
 rw[this]
theorem ze6{n:Nm}(h:∀j (h:j<n.length),errL n[j]=0):zaE n=if 255<lenN n then 3 else 0:=by
 unfold zaE
 have:n.find? (fun l=>decide (errL l≠0))=Option.none:=zfF (fun y hy=>by
  obtain⟨j,hj,rfl⟩:=List.getElem_of_mem hy
  simpa using h j hj)
 rw[this]
theorem zbA(w:World)(nv:Value)(n:Nm)(hn:Row w nv (n.map vs))(hl:∀l∈n,l.length≤1000000000)(hnl:n.length≤1000000000):
  Fn Tryz.prog 49 #[nv] w (fun v w'=>v=vi (zaE n)∧Ext w w'):=by
 have hn0:=hn
 obtain⟨an,cn,rfl,hcn,hgn⟩:=hn
 simp only[List.length_map]at hcn hgn hn0
 rw[List.length_map]
 refine enter Tryz.func49 Tryz.ntmps49 rfl rfl ?_
 repeat refine c_r ?_
 refine rg0 ?_
 repeat refine c_r ?_
 refine rg0 ?_
 repeat refine c_r ?_
 refine zar (fun m σ ds A=>ds=[]∧∃(i:Nat),i+m=n.length∧σ 3=vi i∧σ 0= .slice an n.length cn∧Ext w A∧∀j (h:j<n.length),j<i→errL n[j]=0) n.length ?_ ?_
 ·exact⟨rfl,0,by omega,vr0,vq0,Keep.refl _ _,fun j h hj=>absurd hj (by omega)⟩
 rintro m σ ds A ⟨rfl,i,him,h3,h0,hEA,hlow⟩
 repeat refine c_r ?_
 refine rg2 h3 h0 ?_
 repeat refine c_r ?_
 refine wc0 ?_ ?_
 ·intro hlt
  simp only[decide_eq_true_eq]at hlt
  have hi:i<n.length:=by omega
  have hi0:(0:Int)≤(i:Int):=by omega
  have hi1:(i:Int)<(n.length:Int):=by omega
  have hi1':(i:Int)+1=((i+1:Nat):Int):=by push_cast;rfl
  have hg:=zaa hEA (hgn i (by simpa using hi))
  rw[List.getElem_map]at hg
  obtain⟨xn,rfl⟩:=Option.isSome_iff_exists.1 (zag hg)
  repeat refine c_r ?_
  refine rq ?_;intro gd K hgd hK
  try simp (disch:=first|omega|assumption|rfl) only[go_sem,h0,h3,hi0,hi1,hg]
  refine Fn.mono (zfs A n[i] (by have:=hl n[i] (List.getElem_mem hi);omega)) ?_
  rintro _ A1 ⟨rfl,hE1⟩
  try simp only[go_sem]
  refine hK _ _ ?_;clear hK hgd;clear K;try clear gd
  repeat refine c_r ?_
  refine rg0 ?_
  repeat refine c_r ?_
  refine wc0 ?_ ?_
  ·intro hne
   simp only[Bool.not_eq_true',decide_eq_false_iff_not]at hne
   repeat (first|refine c_r ?_|refine rg0 ?_)
   refine rt0 Tryz.ntmps49 ?_
   exact⟨by rw[zfM hi hlow hne],hEA.trans hE1⟩
  ·intro heq
   simp only[Bool.not_eq_false',decide_eq_true_eq]at heq
   repeat refine c_r ?_
   refine rg2 h3 hi1' ?_
   repeat refine c_r ?_
   refine⟨m - 1,by omega,rfl,i+1,by omega,vq0,(vq1 h0),hEA.trans hE1,fun j hj hji=>?_⟩
   by_cases hj2:j=i
   ·subst hj2;exact heq
   ·exact hlow j hj (by omega)
 ·intro hge
  simp only[decide_eq_false_iff_not]at hge
  have hgood:=ze6 (n:=n) (fun j hj=>hlow j hj (by omega))
  repeat refine c_r ?_
  refine rq ?_;intro gd K hgd hK
  try simp (disch:=first|omega|assumption|rfl) only[go_sem,h0]
  refine Fn.mono (RLen_ok A _ n (hn0.ext hEA) hl hnl) ?_
  rintro _ A1 ⟨rfl,hE1⟩
  try simp only[go_sem]
  refine hK _ _ ?_;clear hK hgd;clear K;try clear gd
  repeat refine c_r ?_
  refine wc0 ?_ ?_
  ·intro hb
   simp only[decide_eq_true_eq]at hb
   repeat (first|refine c_r ?_|refine rg0 ?_)
   refine rt0 Tryz.ntmps49 ?_
   exact⟨by rw[hgood,if_pos (by omega)],hEA.trans hE1⟩
  ·intro hb
   simp only[decide_eq_false_iff_not]at hb
   repeat (first|refine c_r ?_|refine rg0 ?_)
   refine rt0 Tryz.ntmps49 ?_
   exact⟨by rw[hgood,if_neg (by omega)],hEA.trans hE1⟩
theorem zht(w:World)(nv:Value)(n:Nm)(hn:Row w nv (n.map vs))(hl:∀l∈n,l.length≤1000000000)(hnl:n.length≤1000000000):
  Fn Tryz.prog 72 #[nv] w (fun v w'=>v=vi (zaE n)∧Ext w w'):=by
 have hn0:=hn
 obtain⟨an,cn,rfl,hcn,hgn⟩:=hn
 simp only[List.length_map]at hcn hgn hn0
 rw[List.length_map]
 refine enter Tryz.func72 Tryz.ntmps72 rfl rfl ?_
 repeat refine c_r ?_
 refine rg0 ?_
 repeat refine c_r ?_
 refine rg0 ?_
 repeat refine c_r ?_
 refine zar (fun m σ ds A=>ds=[]∧∃(i:Nat),i+m=n.length∧σ 8=vi i∧σ 7=vi n.length∧σ 6= .slice an n.length cn∧σ 0= .slice an n.length cn∧Ext w A∧∀j (h:j<n.length),j<i→errL n[j]=0) n.length ?_ ?_
 ·exact⟨rfl,0,by omega,vr0,vq0,vq0,vq0,Keep.refl _ _,fun j h hj=>absurd hj (by omega)⟩
 rintro m σ ds A ⟨rfl,i,him,h8,h7,h6,h0,hEA,hlow⟩
 repeat refine c_r ?_
 refine rg2 h8 h7 ?_
 repeat refine c_r ?_
 refine wc0 ?_ ?_
 ·intro hlt
  simp only[decide_eq_true_eq]at hlt
  have hi:i<n.length:=by omega
  have hi0:(0:Int)≤(i:Int):=by omega
  have hi1:(i:Int)<(n.length:Int):=by omega
  have hi1':(i:Int)+1=((i+1:Nat):Int):=by push_cast;rfl
  have hg:=zaa hEA (hgn i (by simpa using hi))
  rw[List.getElem_map]at hg
  obtain⟨xn,rfl⟩:=Option.isSome_iff_exists.1 (zag hg)
  repeat refine c_r ?_
  refine rg5 h6 h8 hi0 hi1 hg ?_
  repeat refine c_r ?_
  refine rq ?_;intro gd K hgd hK
  try simp only[go_sem]
  refine Fn.mono (zlp A n[i] (by have:=hl n[i] (List.getElem_mem hi);omega)) ?_
  rintro _ A1 ⟨rfl,hE1⟩
  try simp only[go_sem]
  refine hK _ _ ?_;clear hK hgd;clear K;try clear gd
  repeat refine c_r ?_
  refine rg0 ?_
  repeat refine c_r ?_
  refine wc0 ?_ ?_
  ·intro hne
   simp only[Bool.not_eq_true',decide_eq_false_iff_not]at hne
   repeat (first|refine c_r ?_|refine rg0 ?_)
   refine rt0 Tryz.ntmps72 ?_
   exact⟨by rw[zfM hi hlow hne],hEA.trans hE1⟩
  ·intro heq
   simp only[Bool.not_eq_false',decide_eq_true_eq]at heq
   repeat refine c_r ?_
   refine rg2 h8 hi1' ?_
   repeat refine c_r ?_
   refine⟨m - 1,by omega,rfl,i+1,by omega,vq0,(vq1 h7),(vq1 h6),(vq1 h0),hEA.trans hE1,fun j hj hji=>?_⟩
   by_cases hj2:j=i
   ·subst hj2;exact heq
   ·exact hlow j hj (by omega)
 ·intro hge
  simp only[decide_eq_false_iff_not]at hge
  have hgood:=ze6 (n:=n) (fun j hj=>hlow j hj (by omega))
  repeat refine c_r ?_
  refine rq ?_;intro gd K hgd hK
  try simp (disch:=first|omega|assumption|rfl) only[go_sem,h0]
  refine Fn.mono (NLen_ok A _ n (hn0.ext hEA) hl hnl) ?_
  rintro _ A1 ⟨rfl,hE1⟩
  try simp only[go_sem]
  refine hK _ _ ?_;clear hK hgd;clear K;try clear gd
  repeat refine c_r ?_
  refine wc0 ?_ ?_
  ·intro hb
   simp only[decide_eq_true_eq]at hb
   repeat (first|refine c_r ?_|refine rg0 ?_)
   refine rt0 Tryz.ntmps72 ?_
   exact⟨by rw[hgood,if_pos (by omega)],hEA.trans hE1⟩
  ·intro hb
   simp only[decide_eq_false_iff_not]at hb
   repeat (first|refine c_r ?_|refine rg0 ?_)
   refine rt0 Tryz.ntmps72 ?_
   exact⟨by rw[hgood,if_neg (by omega)],hEA.trans hE1⟩
def zcF(q f t:Nm):Nm:=q.take (q.length - f.length)++t
structure NmM(n:Nm):Prop where
 lb:∀l∈n,l.length≤1000000
 len:n.length≤1000000
theorem NmM.LB{n:Nm}(h:NmM n):LB n:=fun l hl=>by have:=h.lb l hl;omega
theorem NmM.s{n:Nm}(h:NmM n):NmS n:=⟨h.LB,by have:=h.len;omega⟩
theorem swap_m{q f t:Nm}(hq:NmM q)(ht:NmM t):(∀l∈zcF q f t,l.length≤1000000000)∧(zcF q f t).length≤2000000:=by
 refine⟨fun l hl=>?_,?_⟩
 ·rcases List.mem_append.1 hl with h|h
  ·have:=hq.lb l (List.mem_of_mem_take h);omega
  ·have:=ht.lb l h;omega
 ·unfold zcF
  rw[List.length_append,List.length_take]
  have:=hq.len
  have:=ht.len
  omega
theorem NSwap_ok(w:World)(qv fv tv:Value)(q f t:Nm)(hq:Row w qv (q.map vs))(hf:Row w fv (f.map vs))(ht:Row w tv (t.map vs))(mq:NmM q)(mf:NmM f)(mt:NmM t)(hu:za6 q f=true):
  Fn Tryz.prog 134 #[qv,fv,tv] w (fun v w'=>Ext w w'∧(zaE (zcF q f t)=0→∃sv,v= .tuple #[sv,vi 0]∧Row w' sv ((zcF q f t).map vs)∧BlkB w.heap.size w' sv)∧(zaE (zcF q f t)≠0→v= .tuple #[.slice Option.none 0 0,vi 7])):=by
 have hul:=zgv hu
 obtain⟨aq,cq,hqv,hcq,hgq⟩:=id hq
 obtain⟨af,cf,hfv,_⟩:=id hf
 rw[List.length_map]at hqv hcq hfv
 have hfr:Row w (.slice aq (q.length - f.length) cq) ((q.take (q.length - f.length)).map vs):=by
  have hl:((q.take (q.length - f.length)).map vs).length=q.length - f.length:=by rw[List.length_map,List.length_take];omega
  refine⟨aq,cq,by rw[hl],by omega,fun j hj=>?_⟩
  have:=hgq j (by rw[List.length_map];omega)
  rw[this];simp
 have hm:=swap_m (f:=f) mq mt
 have bq:=mq.len
 have bf:=mf.len
 have bt:=mt.len
 refine enter Tryz.func134 Tryz.ntmps134 rfl rfl ?_
 repeat refine c_r ?_
 refine rg0 ?_
 repeat refine c_r ?_
 refine rq ?_;intro gd K hgd hK
 try simp only[go_sem]
 refine Fn.mono (zcA _ _ _ _ _ hq hf mq.LB mf.LB (by have:=mq.len;omega) (by have:=mf.len;omega)) ?_
 rintro _ w1 ⟨rfl,hE1⟩
 try simp only[go_sem]
 refine hK _ _ ?_;clear hK hgd;clear K;try clear gd
 rw[hu]
 repeat refine c_r ?_
 refine wc0 ?_ ?_
 ·intro h;cases h
 intro _
 have e1:(q.length:Int) - (f.length:Int)=((q.length - f.length:Nat):Int):=by omega
 have e2:(0:Int)≤((q.length - f.length:Nat):Int):=by omega
 have e3:((q.length - f.length:Nat):Int)≤(cq:Int):=by omega
 repeat refine c_r ?_
 refine rq ?_;intro gd K hgd hK
 try simp (disch:=first|omega|assumption|rfl) only[go_sem,hqv,hfv,e1,e2,e3,Nat.sub_zero,zaz,ite_self]
 refine Fn.mono (zcY (hfr.ext hE1) (by rw[List.length_take];have:=mq.len;omega)) ?_
 rintro u w2 ⟨hou,hE2⟩
 try simp only[go_sem]
 have hl2:((q.take (q.length - f.length)).map vs).length+(t.map vs).length≤1000000000000:=by
  rw[List.length_map,List.length_map,List.length_take];have:=mq.len;have:=mt.len;omega
 refine zch hou (ht.ext (hE1.trans hE2)) (by rfl) (by rfl) (by rfl) (by rfl) (by rfl) (by rfl) (by rfl) (by rfl) (zhO _) hl2 (by decide) hE2.size ?_
 intro sv w3 hs hE3 _ _
 try simp only[go_sem]
 refine hK _ _ ?_;clear hK hgd;clear K;try clear gd
 have hE13:=hE3 w (hE1.trans hE2) hE1.size
 rw[←List.map_append]at hs
 have hsr:Row w3 sv ((zcF q f t).map vs):=hs.row
 obtain⟨as1,cs1,hsv,hcs,hgs⟩:=id hsr
 rw[List.length_map]at hsv hcs
 repeat refine c_r ?_
 refine rq ?_;intro gd K hgd hK
 try simp only[go_sem]
 refine Fn.mono (zht w3 _ (zcF q f t) hsr hm.1 (by have:=hm.2;omega)) ?_
 rintro _ w4 ⟨rfl,hE4⟩
 try simp only[go_sem]
 refine hK _ _ ?_;clear hK hgd;clear K;try clear gd
 repeat refine c_r ?_
 refine wc0 ?_ ?_
 ·intro hne
  simp only[Bool.not_eq_true',decide_eq_false_iff_not]at hne
  repeat (first|refine c_r ?_|refine rg0 ?_)
  refine zaC (.inr rfl) Tryz.ntmps134 rfl (zak (v:= .slice Option.none 0 0) (vr0) (zak (v:=vi 7) (vr0) zav)) ?_
  exact⟨hE13.trans hE4,fun h=>absurd h hne,fun _=>rfl⟩
 ·intro heq
  simp only[Bool.not_eq_false',decide_eq_true_eq]at heq
  repeat refine c_r ?_
  refine rq ?_;intro gd K hgd hK
  try simp only[go_sem]
  rw[hsv]
  refine Fn.mono (P_cs.Clip_ok hcs) ?_
  rintro _ y0 ⟨rfl,hy0⟩
  try simp only[go_sem]
  rw[hy0]
  clear hy0 y0
  refine hK _ _ ?_;clear hK hgd;clear K;try clear gd
  repeat refine c_r ?_
  refine zaC (.inr rfl) Tryz.ntmps134 rfl (zak (v:= .slice as1 (zcF q f t).length (zcF q f t).length) (vr0) (zak (v:=vi 0) (vr0) zav)) ?_
  have hbs:=hs.blk
  rw[hsv]at hbs
  refine⟨hE13.trans hE4,fun _=>⟨_,rfl,?_,(hbs.same.ext hE4.size).mono hE1.size⟩,fun h=>absurd heq h⟩
  exact Row.ext (w:=w3) ⟨as1,(zcF q f t).length,by rw[List.length_map],by rw[List.length_map];exact Nat.le_refl _,hgs⟩ hE4
end Go.Proofs.YtahbdamijngmmaaGreat
namespace Go.Proofs.YtahbdamijngmmaaGreat.P_cm
open Go Go.Proofs.YtahbdamijngmmaaGreat
set_option maxRecDepth 10000
theorem Clip_ok{w:World}{a:Option Addr}{n c:Nat}(hc:n≤c):Fn Tryz.prog 137 #[.slice a n c] w (fun u w'=>u= .slice a n n∧w'=w):=by
 refine enter Tryz.func137 Tryz.ntmps137 rfl rfl ?_
 repeat refine c_r ?_
 refine rg0 ?_
 repeat refine c_r ?_
 refine rq ?_;intro gd K hgd hK
 try simp only[go_sem]
 have hcl:slD Tryz.prog (some (TypeDesc.slice 27)) (Value.slice a n c) Option.none (some (Value.int IntKind.i64 ↑n)) (some (Value.int IntKind.i64 ↑n))=some (.slice a n n):=zeN hc (by rfl)
 rw[hcl]
 try simp only[go_sem]
 refine hK _ _ ?_;clear hK hgd;clear K;try clear gd
 repeat refine c_r ?_
 refine rt0 Tryz.ntmps137 ?_
 exact⟨rfl,rfl⟩
end Go.Proofs.YtahbdamijngmmaaGreat.P_cm
namespace Go.Proofs.YtahbdamijngmmaaGreat
open Go
set_option maxRecDepth 10000
def NmC(w0:World)(cs:List Value)(n:Nm):Prop:=∃v,cs=[v]∧Row w0 v (n.map vs)
theorem nm_shape(w:World):zeq 1 (NmC w):=by
 refine⟨fun h=>?_,fun h=>?_⟩
 ·obtain⟨v,rfl,_⟩:=h;rfl
 ·obtain⟨v,rfl,a,c,rfl,_⟩:=h
  intro q hq;rw[List.mem_singleton.1 hq];rfl
theorem Own.k1{B:Nat}{w:World}{e:TypeId}{v:Value}{l:List Value}(h:Own B w e v l)(h1:∀q∈l,one q=true):OwnK 1 B w e v (l.map fun q=>[q]):=by
 have hf:∀l:List Value,(l.map fun q=>[q]).flatten=l:=fun l=>by
  induction l with
  |nil=>rfl
  |cons x l ih=>rw[List.map_cons,List.flatten_cons,ih];rfl
 refine⟨by rw[hf,List.length_map];exact h,fun x hx=>?_,fun x hx q hq=>?_⟩
 ·obtain⟨q,_,rfl⟩:=List.mem_map.1 hx;rfl
 ·obtain⟨q',hq',rfl⟩:=List.mem_map.1 hx
  rw[List.mem_singleton.1 hq];exact h1 _ hq'
def zeY(t:Int):Bool:=decide (t=2)|| (decide (t=5)|| (decide (t=12)|| (decide (t=39)||decide (t=15))))
def zau(t:Int)(ds:List DatL):List Nm:=if zeY t then ds.filterMap fun d=>d.names.head? else []
theorem DatAt.cells{w0:World}{cs:List Value}{d:DatL}(h:DatAt w0 cs d):∃nm,cs[0]? =some (vi d.ty)∧cs[1]? =some nm∧NamesAt w0 nm d.names:=by
 obtain⟨nm,nu,tx,rw',rfl,h1,_⟩:=h.ex
 exact⟨nm,rfl,rfl,h1⟩
theorem zax{w:World}{p:Option Addr}{k j:Nat}{cs:List Value}{u:Value}(h:zal w p k=some cs)(hj:cs[j]? =some u):zae w (adr p j)=some u:=by
 obtain⟨hj1,hj2⟩:=List.getElem?_eq_some_iff.1 hj
 have:=zbT h hj1
 rw[hj2]at this;exact this
theorem zfR{w0 w:World}(hE0:Ext w0 w){ow tl dv:Value}{t:Int}{ds:List DatL}(how:one ow=true)(htl:one tl=true)(hd:Rows 5 (DatAt w0) w dv ds)(hlen:ds.length≤1000000000):
  Fn Tryz.prog 204 #[.agg #[ow,vi t,tl,dv]] w (fun v w'=>Ext w w'∧Rows 1 (NmC w0) w' v (zau t ds)∧BlkB w.heap.size w' v):=by
 obtain⟨aD,cD,hdv,hcD,hgD⟩:=hd.open
 refine enter Tryz.func204 Tryz.ntmps204 rfl rfl ?_
 repeat refine c_r ?_
 refine rg0 ?_
 repeat refine c_r ?_
 refine zaB ?_
 intro w1 hE1 hs1 hA
 have p1:zae w1 (some ⟨w.heap.size,1,Option.none⟩)=some (vi t):=zab hA rfl
 have p3:zae w1 (some ⟨w.heap.size,3,Option.none⟩)=some dv:=zab hA rfl
 rw[hdv]at p3
 refine rg0 ?_
 repeat refine c_r ?_
 refine rg2 p1 Nat.zero_add ?_
 refine zap ?_
 refine zaA (Q:=fun e σ' ds' v'=>e= .normal∧ds'=[]∧Ext w1 v'∧∃ov,σ' 3=ov∧Owns 1 (NmC w0) w1.heap.size v' 27 ov (zau t ds)) ?_ ?_
 ·refine zlc ?_
  refine zfq ?_
  refine zaA (Q:=fun e σ' ds' v'=>e= .normal∧ds'=[]∧v'=w1∧σ' 1= .pointer (some ⟨w.heap.size,0,Option.none⟩)∧σ' 3= .slice Option.none 0 0∧σ' 8= .bool (zeY t)) ?_ ?_
  ·have lead:∀{σ':Sto} {b:Bool},b=zeY t→σ' 8= .bool b→σ' 8= .bool (zeY t):=fun h h2=>h▸h2
   refine zfq ?_
   refine rg0 ?_
   refine zap ?_
   refine wc0 ?_ ?_
   ·intro h
    repeat refine c_r ?_
    refine⟨rfl,rfl,rfl,vq0,vq0,lead (b:=true) ?_ (by simp only[go_sem];rw[h])⟩
    unfold zeY;rw[h];rfl
   intro h1
   repeat refine c_r ?_
   refine rg0 ?_
   refine zap ?_
   refine wc0 ?_ ?_
   ·intro h
    repeat refine c_r ?_
    refine⟨rfl,rfl,rfl,vq0,vq0,lead (b:=true) ?_ (by simp only[go_sem];rw[h])⟩
    unfold zeY;rw[h1,h];rfl
   intro h2
   repeat refine c_r ?_
   refine rg0 ?_
   refine zap ?_
   refine wc0 ?_ ?_
   ·intro h
    repeat refine c_r ?_
    refine⟨rfl,rfl,rfl,vq0,vq0,lead (b:=true) ?_ (by simp only[go_sem];rw[h])⟩
    unfold zeY;rw[h1,h2,h];rfl
   intro h3
   repeat refine c_r ?_
   refine rg0 ?_
   refine zap ?_
   refine wc0 ?_ ?_
   ·intro h
    repeat refine c_r ?_
    refine⟨rfl,rfl,rfl,vq0,vq0,lead (b:=true) ?_ (by simp only[go_sem];rw[h])⟩
    unfold zeY;rw[h1,h2,h3,h];rfl
   intro h4
   repeat refine c_r ?_
   refine rg0 ?_
   refine⟨rfl,rfl,rfl,vq0,vq0,?_⟩
   rw[show zeY t=decide (t=15) from by unfold zeY;rw[h1,h2,h3,h4];rfl]
   simp only[go_sem]
  rintro _ σ1 _ v1 ⟨rfl,rfl,hv1,h1,h3,h8⟩
  rw[hv1]
  clear hv1 v1
  refine zap ?_
  refine zaG (t:=zeY t) ((vq1 h8)) ?_ ?_
  ·intro hl
   have htg:∀ds:List DatL,zau t ds=ds.filterMap fun d=>d.names.head?:=fun ds=>by unfold zau;rw[if_pos hl]
   repeat refine c_r ?_
   refine rg3 h1 p3 Nat.zero_add ?_
   repeat refine c_r ?_
   refine zar (fun m σ ds' A=>ds'=[]∧∃(i:Nat) (ov:Value),i+m=ds.length∧σ 17=vi i∧σ 16=vi ds.length∧σ 15= .slice aD ds.length cD∧σ 3=ov∧Ext w1 A∧Owns 1 (NmC w0) w1.heap.size A 27 ov (zau t (ds.take i))) ds.length ?_ ?_
   ·exact⟨rfl,0,.slice Option.none 0 0,by omega,vr0,vr0,vq0,(vq1 h3),Keep.refl _ _,by rw[htg];exact Owns.nil _ _ _ _ _⟩
   rintro m σ ds' A ⟨rfl,i,ov,him,h17,h16,h15,h3,hEA,hov⟩
   repeat refine c_r ?_
   refine rg2 h17 h16 ?_
   repeat refine c_r ?_
   refine wc0 ?_ ?_
   ·intro hlt
    simp only[decide_eq_true_eq]at hlt
    have hi:i<ds.length:=by omega
    have hi0:(0:Int)≤(i:Int):=by omega
    have hi1:(i:Int)<(ds.length:Int):=by omega
    have hi1':(i:Int)+1=((i+1:Nat):Int):=by push_cast;rfl
    obtain⟨cd,hcd,hDd⟩:=hgD i hi
    obtain⟨xD,rfl⟩:=Option.isSome_iff_exists.1 (zao hcd)
    have hcdA:=zac (hE1.trans hEA) hcd
    obtain⟨nm,nu,tx,rw',hcs,n1,_⟩:=hDd.ex
    obtain⟨vals,⟨an,cn,rfl,hcn,hgn⟩,hvl,hvr⟩:=n1
    have hcd1:=(zcR w0).ones hDd
    have hcdl:=(zcR w0).len hDd
    have htk:zau t (ds.take (i+1))=zau t (ds.take i)++(ds[i].names.head?).toList:=by
     rw[htg,htg,zan hi,List.filterMap_append]
     congr 1
    repeat refine c_r ?_
    refine rq ?_;intro gd K hgd hK
    try simp (disch:=first|omega|assumption|rfl) only[go_sem,h15,h17,hi0,hi1,hcdA]
    have hB3:=zas A (.cells #[vi 0,.slice Option.none 0 0,.slice Option.none 0 0,.slice Option.none 0 0,.slice Option.none 0 0] 197 (0,0))
    have hE4:=Ext.alloc A (.cells #[vi 0,.slice Option.none 0 0,.slice Option.none 0 0,.slice Option.none 0 0,.slice Option.none 0 0] 197 (0,0))
    have hs4:=zai A (.cells #[vi 0,.slice Option.none 0 0,.slice Option.none 0 0,.slice Option.none 0 0,.slice Option.none 0 0] 197 (0,0))
    revert hB3 hE4 hs4
    generalize A.alloc (.cells #[vi 0,.slice Option.none 0 0,.slice Option.none 0 0,.slice Option.none 0 0,.slice Option.none 0 0] 197 (0,0))=A2
    intro hB3 hE4 hs4
    refine zaK (P:=Tryz.prog) (t:=197) (l:=cd) hB3 hcdl hcd1 (by rw[hcdl];rfl) rfl ?_
    intro A3 hs5 hB5 hk5
    try simp only[go_sem]
    refine hK _ _ ?_;clear hK hgd;clear K;try clear gd
    have hE5:Ext A A3:=Keep.to_ext hE4 rfl (fun b hb=>by omega) hk5
    have q1:zae A3 (some ⟨A.heap.size,1,Option.none⟩)=some (.slice an vals.length cn):=zce hB5 (by rw[hcs];rfl)
    have hEA3:=hEA.trans hE5
    repeat refine c_r ?_
    refine rg2 q1 Nat.zero_add ?_
    repeat refine c_r ?_
    refine wc0 ?_ ?_
    ·intro hgt
     simp only[decide_eq_true_eq]at hgt
     have hv0:0<vals.length:=by omega
     have hg0:=hgn 0 hv0
     obtain⟨xN,rfl⟩:=Option.isSome_iff_exists.1 (zag hg0)
     have hw03:Ext w0 A3:=hE0.trans (hE1.trans hEA3)
     have hg0':=zaa hw03 hg0
     rw[zaz]at hg0'
     obtain⟨n0,hn0⟩:∃n0,ds[i].names.head? =some n0∧Row w0 (vals[0]) (n0.map vs):=by
      have h1:=hvr 0 hv0 (by omega)
      refine⟨ds[i].names[0]'(by omega),?_,h1⟩
      rw[List.head?_eq_getElem?,List.getElem?_eq_getElem (by omega)]
     obtain⟨a0,c0,hv0e,_⟩:=id hn0.2
     have hz:(0:Int)≤0:=by omega
     repeat refine c_r ?_
     refine rq ?_;intro gd K hgd hK
     try simp (disch:=first|omega|assumption|rfl) only[go_sem,h3,q1,Nat.zero_add,hgt,hz,hg0',Int.toNat_zero,zaz]
     refine zcD (z:= .slice Option.none 0 0) (v:=vals[0]) (by rfl) (by rfl) (by rfl) (by rfl) (by rw[hv0e];rfl) ?_
     intro A4 hE6 hs6 ho6
     try simp only[go_sem]
     have hrow:Rows 1 (NmC w0) A4 (.slice (some ⟨A3.heap.size,0,Option.none⟩) 1 1) [n0]:=by
      have h1:=ho6.k1 (fun q hq=>by rw[List.mem_singleton.1 hq,hv0e];rfl)
      exact⟨_,h1.rowK,rfl,fun j h h'=>by
       have:j=0:=by simp at h;omega
       subst this
       exact⟨_,rfl,hn0.2⟩⟩
     have htl2:(zau t (ds.take i)).length≤ds.length:=by
      rw[htg]
      have:=List.length_filterMap_le (fun d:DatL=>d.names.head?) (ds.take i)
      rw[List.length_take]at this;omega
     refine zaT (nm_shape w0) ((hov.ext hE5).ext hE6) hrow (by rfl) (by rfl) (by rfl) (by rfl) (by rfl) (by rfl) (by decide) (vr0) (vr0) (by simp;omega) (by decide) (by have:=hEA3.size;have:=hE6.size;omega) ?_
     intro ov' A5 hov' hE7 _ _
     try simp only[go_sem]
     refine hK _ _ ?_;clear hK hgd;clear K;try clear gd
     repeat refine c_r ?_
     refine rg2 h17 hi1' ?_
     repeat refine c_r ?_
     exact⟨m - 1,by omega,rfl,i+1,ov',by omega,vq0,(vq1 h16),(vq1 h15),vq0,hE7 w1 (hEA3.trans hE6) (Nat.le_refl _),by rw[htk,hn0.1];exact hov'⟩
    ·intro hgt
     simp only[decide_eq_false_iff_not]at hgt
     have hnil:ds[i].names=[]:=List.length_eq_zero_iff.1 (by omega)
     repeat refine c_r ?_
     refine rg2 h17 hi1' ?_
     repeat refine c_r ?_
     exact⟨m - 1,by omega,rfl,i+1,ov,by omega,vq0,(vq1 h16),(vq1 h15),(vq1 h3),hEA3,by rw[htk,hnil];simpa using hov.ext hE5⟩
   ·intro hge
    simp only[decide_eq_false_iff_not]at hge
    rw[List.take_of_length_le (by omega)]at hov
    repeat refine c_r ?_
    exact⟨rfl,rfl,hEA,ov,h3,hov⟩
  ·intro hl
   have htg:zau t ds=[]:=by unfold zau;rw[hl];rfl
   repeat refine c_r ?_
   exact⟨rfl,rfl,Keep.refl _ _,_,h3,by rw[htg];exact Owns.nil _ _ _ _ _⟩
 ·rintro _ σ1 _ v1 ⟨rfl,rfl,hE2,ov,h3,hov⟩
  obtain⟨ag,cg,hov',hcg,_⟩:=hov.rows.open
  rw[hov']at hov
  repeat refine c_r ?_
  refine rq ?_;intro gd K hgd hK
  try simp (disch:=first|omega|assumption|rfl) only[go_sem,h3]
  rw[hov']
  refine Fn.mono (P_cm.Clip_ok hcg) ?_
  rintro _ y0 ⟨rfl,hy0⟩
  try simp only[go_sem]
  rw[hy0]
  clear hy0 y0
  refine hK _ _ ?_;clear hK hgd;clear K;try clear gd
  repeat refine c_r ?_
  refine rt0 Tryz.ntmps204 ?_
  have h4:=hov.rows.take (m:=(zau t ds).length) (c2:=(zau t ds).length) (Nat.le_refl _) (Nat.le_refl _)
  rw[List.take_length]at h4
  exact⟨hE1.trans hE2,h4,hov.blk.same.mono (by omega)⟩
structure Bld(B:Nat)(w:World)(b:Nat)(bs:List UInt8):Prop where
 ex:∃p v,(p= .pointer Option.none∨p= .pointer (some ⟨b,0,Option.none⟩))∧w.heap[b]? =some (.cells #[p,v] 282 (0,0))∧Own B w 5 v (bs.map zaf)
theorem zf1{B:Nat}{w:World}{e:TypeId}{v:Value}{l:List Value}(h:Own B w e v l){b:Nat}(hb:some b=v.ownBlock):∃cur fr,w.heap[b]? =some (.cells cur e fr):=by
 rcases h.2 with ⟨rfl,_⟩| ⟨g,cap,cur,rfl,_,hg,_⟩
 ·cases hb
 ·cases hb;exact⟨_,_,hg⟩
theorem bld_ne{B:Nat}{w:World}{v p:Value}{l:List Value}{b:Nat}(h:Own B w 5 v l)(hb:w.heap[b]? =some (.cells #[p,v] 282 (0,0))):some b≠v.ownBlock:=fun he=>by
 obtain⟨cur,fr,h1⟩:=zf1 h he
 rw[hb]at h1
 injection h1 with h1
 injection h1 with _ h2
 revert h2;decide
theorem zkk(l:List UInt8):∀q∈l.map zaf,one q=true:=fun q hq=>by
 obtain⟨c,_,rfl⟩:=List.mem_map.1 hq;rfl
theorem zeh{w:World}{b:Nat}{p v:Value}(hp:p= .pointer Option.none∨p= .pointer (some ⟨b,0,Option.none⟩))(hb:w.heap[b]? =some (.cells #[p,v] 282 (0,0))):
  Fn Tryz.prog 208 #[.pointer (some ⟨b,0,Option.none⟩)] w (fun _ w'=>w'.heap[b]? =some (.cells #[.pointer (some ⟨b,0,Option.none⟩),v] 282 (0,0))∧Keep (fun i=>i=b) w w'∧w'.heap.size=w.heap.size):=by
 have c0:zae w (some ⟨b,0,Option.none⟩)=some p:=zab hb rfl
 obtain⟨j,hj,hjs⟩:∃j,Tryz.prog.info? 282=some j∧j.size≠0:=by
  have:(Tryz.prog.info? 282).map (·.size)=some 2:=by kernel_rfl
  obtain⟨j,h1,h2⟩:=Option.map_eq_some_iff.1 this
  exact⟨j,h1,by rw[h2];decide⟩
 rcases hp with rfl|rfl
 ·refine enter Tryz.func208 Tryz.ntmps208 rfl rfl ?_
  repeat refine c_r ?_
  refine rq ?_;intro gd K hgd hK
  try simp (disch:=first|omega|assumption|rfl) only[go_sem,c0,Nat.add_zero]
  refine hK _ _ ?_;clear hK hgd;clear K;try clear gd
  repeat refine c_r ?_
  refine wc0 ?_ ?_
  ·intro _
   have hsh:w.shape? b=some (282,2):=by simp[World.shape?,hb]
   repeat refine c_r ?_
   refine rq ?_;intro gd K hgd hK
   try simp only[go_sem]
   refine zki (by rfl) (Lib.run_to_unsafe w ⟨b,0,Option.none⟩ (by rfl) (by rfl) hj hjs hsh (Nat.zero_lt_succ 1)) ?_
   try simp only[go_sem]
   refine⟨.pointer (some ⟨b,0,Option.none⟩),w,?_,?_⟩
   ·rw[run_callFunc_extern (show Tryz.prog.funcs[258]? =_ from Tryz.func258) (by kernel_rfl) (by kernel_rfl) (by kernel_rfl) (e:=Extern.AbiNoEscape.same) (by kernel_rfl)]
    rw[Lib.run_noEscape]
    rfl
   try simp only[go_sem]
   refine zki (by rfl) (Lib.run_from_unsafe w ⟨b,0,Option.none⟩ (by rfl) (by rfl) hj hsh (by kernel_rfl)) ?_
   try simp only[go_sem]
   refine zaR (P:=Tryz.prog) (t:=280) (j:=0) (l:=[.pointer Option.none,v]) hb (by simp) rfl rfl rfl ?_
   intro w1 hs1 hb1 hk1
   try simp only[go_sem]
   refine hK _ _ ?_;clear hK hgd;clear K;try clear gd
   repeat refine c_r ?_
   exact zay (by simp) rfl ⟨by simpa using hb1,hk1,hs1⟩
  ·intro h;cases h
 ·refine enter Tryz.func208 Tryz.ntmps208 rfl rfl ?_
  repeat refine c_r ?_
  refine rq ?_;intro gd K hgd hK
  try simp (disch:=first|omega|assumption|rfl) only[go_sem,c0,Nat.add_zero]
  refine hK _ _ ?_;clear hK hgd;clear K;try clear gd
  repeat refine c_r ?_
  refine wc0 ?_ ?_
  ·intro h;cases h
  intro _
  repeat refine c_r ?_
  refine rq ?_;intro gd K hgd hK
  try simp (disch:=first|omega|assumption|rfl) only[go_sem,c0,Nat.add_zero]
  refine zgW (by rfl) hj (by rfl) (by rfl) ?_
  try simp only[go_sem]
  refine hK _ _ ?_;clear hK hgd;clear K;try clear gd
  repeat refine c_r ?_
  refine wc0 ?_ ?_
  ·intro h;cases h
  intro _
  repeat refine c_r ?_
  exact zay (by simp) rfl ⟨hb,Keep.refl _ _,rfl⟩
theorem zdk{B:Nat}{w:World}{b:Nat}{bs s:List UInt8}(h:Bld B w b bs)(hB:B≤w.heap.size)(hlen:bs.length+s.length≤100000000000):
  Fn Tryz.prog 155 #[.pointer (some ⟨b,0,Option.none⟩),vs s] w (fun _ w'=>Bld B w' b (bs++s)∧Keep (fun i=>i=b∨B≤i) w w'):=by
 obtain⟨p,v,hp,hb,hown⟩:=h.ex
 have hne:=bld_ne hown hb
 obtain⟨inf,hi,hz,hsz,hby⟩:=info_parts (P:=Tryz.prog) (e:=5) (z:= .int .u8 0) (size:=1) (bytes:=1) (by kernel_rfl)
 refine enter Tryz.func155 Tryz.ntmps155 rfl rfl ?_
 repeat refine c_r ?_
 refine rg0 ?_
 repeat refine c_r ?_
 refine rq ?_;intro gd K hgd hK
 try simp only[go_sem]
 refine Fn.mono (zeh hp hb) ?_
 rintro _ w1 ⟨hb1,hk1,hs1⟩
 try simp only[go_sem]
 refine hK _ _ ?_;clear hK hgd;clear K;try clear gd
 have hown1:=hown.keep hk1 (fun i hi he=>hne (he▸hi))
 have c1:zae w1 (some ⟨b,1,Option.none⟩)=some v:=zab hb1 rfl
 repeat refine c_r ?_
 refine rq ?_;intro gd K hgd hK
 try simp (disch:=first|omega|assumption|rfl) only[go_sem,c1,Nat.zero_add]
 refine op_appS hown1 (by rfl) (by rfl) hi hz hsz hby (by rfl) (by rfl) (by simpa using hlen) (by omega) ?_
 intro v2 w2 hown2 hk2
 try simp only[go_sem]
 have hb2:=(hk2.block b (Array.getElem?_eq_some_iff.1 hb1).1 hne).trans hb1
 have hne2:some b≠v2.ownBlock:=fun he=>by
  obtain⟨cur,fr,h1⟩:=zf1 hown2 he
  rw[hb2]at h1
  injection h1 with h1
  injection h1 with _ h2
  revert h2;decide
 obtain⟨a2,c2,hv2⟩:=hown2.slice
 refine zaR (P:=Tryz.prog) (t:=90) (j:=1) (l:=[.pointer (some ⟨b,0,Option.none⟩),v]) hb2 (by simp) (by rw[hv2];rfl) rfl rfl ?_
 intro w3 hs3 hb3 hk3
 try simp only[go_sem]
 refine hK _ _ ?_;clear hK hgd;clear K;try clear gd
 have hown3:=hown2.keep hk3 (fun i hi he=>hne2 (he▸hi))
 repeat refine c_r ?_
 refine rg0 ?_
 repeat refine c_r ?_
 refine zaC (.inr rfl) Tryz.ntmps155 rfl (zak rfl (zak rfl zav)) ?_
 refine⟨⟨⟨_,v2,.inr rfl,by simpa using hb3,by rw[List.map_append];exact hown3⟩⟩,?_⟩
 exact((hk1.mono (fun i _ h=> .inl h)).trans (hk2.mono (fun i _ h=> .inr (hown1.ge h).1))).trans (hk3.mono (fun i _ h=> .inl h))
theorem zel{B:Nat}{w:World}{b:Nat}{bs:List UInt8}{c:UInt8}(h:Bld B w b bs)(hB:B≤w.heap.size)(hlen:bs.length+1≤100000000000):
  Fn Tryz.prog 211 #[.pointer (some ⟨b,0,Option.none⟩),zaf c] w (fun _ w'=>Bld B w' b (bs++ [c])∧Keep (fun i=>i=b∨B≤i) w w'):=by
 obtain⟨p,v,hp,hb,hown⟩:=h.ex
 have hne:=bld_ne hown hb
 refine enter Tryz.func211 Tryz.ntmps211 rfl rfl ?_
 repeat refine c_r ?_
 refine rg0 ?_
 repeat refine c_r ?_
 refine rq ?_;intro gd K hgd hK
 try simp only[go_sem]
 refine Fn.mono (zeh hp hb) ?_
 rintro _ w1 ⟨hb1,hk1,hs1⟩
 try simp only[go_sem]
 refine hK _ _ ?_;clear hK hgd;clear K;try clear gd
 have hown1:=hown.keep hk1 (fun i hi he=>hne (he▸hi))
 have c1:zae w1 (some ⟨b,1,Option.none⟩)=some v:=zab hb1 rfl
 repeat refine c_r ?_
 refine rq ?_;intro gd K hgd hK
 try simp (disch:=first|omega|assumption|rfl) only[go_sem,c1,Nat.zero_add]
 refine zcD (z:= .int .u8 0) (v:=zaf c) (by rfl) (by rfl) (by rfl) (by rfl) (by rfl) ?_
 intro x1 hX1 hXs hXo
 try simp only[go_sem]
 refine zch (B:=B) (hown1.ext hX1) hXo.row (by rfl) (by rfl) (by rfl) (by rfl) (by rfl) (by rfl) (by rfl) (by rfl) (zkk [c]) (by simp;omega) (by decide) (by have:=hX1.size;omega) ?_
 intro v2 w2 hown2 _ hk2 hfr
 try simp only[go_sem]
 have hb2:=(hk2.block b (by have:=(Array.getElem?_eq_some_iff.1 hb1).1;have:=hX1.size;omega) hne).trans (Ext.at hX1 hb1)
 have hne2:some b≠v2.ownBlock:=fun he=>by
  obtain⟨cur,fr,h1⟩:=zf1 hown2 he
  rw[hb2]at h1
  injection h1 with h1
  injection h1 with _ h2
  revert h2;decide
 obtain⟨a2,c2,hv2⟩:=hown2.slice
 refine zaR (P:=Tryz.prog) (t:=90) (j:=1) (l:=[.pointer (some ⟨b,0,Option.none⟩),v]) hb2 (by simp) (by rw[hv2];rfl) rfl rfl ?_
 intro w3 hs3 hb3 hk3
 try simp only[go_sem]
 refine hK _ _ ?_;clear hK hgd;clear K;try clear gd
 have hown3:=hown2.keep hk3 (fun i hi he=>hne2 (he▸hi))
 repeat refine c_r ?_
 refine rg0 ?_
 repeat refine c_r ?_
 refine zaC (.inr rfl) Tryz.ntmps211 rfl (zak rfl zav) ?_
 refine⟨⟨⟨_,v2,.inr rfl,by simpa using hb3,by rw[List.map_append];exact hown3⟩⟩,?_⟩
 exact(((hk1.mono (fun i _ h=> .inl h)).trans (hX1.mono (fun i _ h=>h.elim))).trans (hk2.mono (fun i _ h=> .inr (hown1.ge h).1))).trans (hk3.mono (fun i _ h=> .inl h))
theorem zhU(w:World)(p:Addr)(n:Nat):Keep (fun i=>i=p.block) w (w.freeze p n):=by
 unfold World.freeze
 split
 ·exact Keep.refl _ _
 ·exact⟨rfl,rfl,rfl,by simp,fun k hk hne=>by
   simp only[Array.getElem?_modify]
   rw[if_neg (fun h=>hne h.symm)],Nat.le_refl _⟩
theorem zhp{B:Nat}{w:World}{b:Nat}{bs:List UInt8}(h:Bld B w b bs)(hlen:bs.length≤100000000000):
  Fn Tryz.prog 157 #[.pointer (some ⟨b,0,Option.none⟩)] w (fun v w'=>v=vs bs∧Keep (fun i=>B≤i) w w'):=by
 obtain⟨p,v,hp,hb,hown⟩:=h.ex
 rcases hown.2 with ⟨rfl,hl⟩| ⟨g,cap,cur,rfl,hgB,hg,hn,hcap,hcs,hx⟩
 ·have h0:bs=[]:=by simpa using hl
  subst h0
  refine enter Tryz.func157 Tryz.ntmps157 rfl rfl ?_
  repeat refine c_r ?_
  refine rg0 ?_
  repeat refine c_r ?_
  refine zaH (fun _=>false) [(0,true),(1,true),(2,true),(3,true),(5,true),(6,true),(7,true),(8,true),(9,true),(4,false),(10,false),(11,true)] NoS mixed (by kernel_rfl) ?_;intro gd K x hgd hx hxe hK;have hx0:=zfp hxe;clear hxe
  have c1:zae x (some ⟨b,1,Option.none⟩)=some (.slice Option.none 0 0):=zab (Ext.at hx0 hb) rfl
  simp (disch:=first|omega|assumption|rfl) only[go_sem,c1,Nat.zero_add]
  refine zb8 (u:= .slice Option.none 0 0) (vq0) (Lib.run_unsafeSliceData_nil _ _ _ _ _) ?_
  refine⟨.inr (Keep.refl _ _),?_⟩
  refine zbs (u:= .pointer Option.none) (z:=vi 0) (vq0) (vr0) (Lib.run_unsafeString_none (P:=Tryz.prog) _ _ _ _ _) ?_
  refine⟨.inr (Keep.refl _ _),?_⟩
  refine hK _ _ ?_;clear hK hgd;clear K;try clear gd
  repeat refine c_r ?_
  refine zaC (.inr rfl) Tryz.ntmps157 rfl (zak (vr0) zav) ?_
  exact⟨rfl,hx0.mono (fun i _ h=>h.elim)⟩
 by_cases h0:bs=[]
 ·subst h0
  refine enter Tryz.func157 Tryz.ntmps157 rfl rfl ?_
  repeat refine c_r ?_
  refine rg0 ?_
  repeat refine c_r ?_
  refine zaH (fun _=>false) [(0,true),(1,true),(2,true),(3,true),(5,true),(6,true),(7,true),(8,true),(9,true),(4,false),(10,false),(11,true)] NoS mixed (by kernel_rfl) ?_;intro gd K x hgd hx hxe hK;have hx0:=zfp hxe;clear hxe
  have c1:zae x (some ⟨b,1,Option.none⟩)=some (.slice (some ⟨g,0,Option.none⟩) 0 cap):=zab (Ext.at hx0 hb) rfl
  have hgx:=Ext.at hx0 hg
  simp (disch:=first|omega|assumption|rfl) only[go_sem,c1,Nat.zero_add]
  by_cases hc0:cap=0
  ·subst hc0
   refine zb8 (u:= .slice (some ⟨g,0,Option.none⟩) 0 0) (vq0) (Lib.run_unsafeSliceData_zero (P:=Tryz.prog) _ _ _ 5 (by rfl) _ _ _ (by simp only[World.shape?,hgx];rfl)) ?_
   refine⟨.inr (Ext.alloc x _),?_⟩
   refine zbs (u:= .pointer (some ⟨x.heap.size,0,Option.none⟩)) (z:=vi 0) (vq0) (vr0) (Lib.run_unsafeString_none (P:=Tryz.prog) _ _ _ _ _) ?_
   refine⟨.inr (Keep.refl _ _),?_⟩
   refine hK _ _ ?_;clear hK hgd;clear K;try clear gd
   repeat refine c_r ?_
   refine zaC (.inr rfl) Tryz.ntmps157 rfl (zak (vr0) zav) ?_
   exact⟨rfl,(hx0.trans (Ext.alloc x _)).mono (fun i _ h=>h.elim)⟩
  ·refine zb8 (u:= .slice (some ⟨g,0,Option.none⟩) 0 cap) (vq0) (Lib.run_unsafeSliceData_row _ _ _ _ _ _ hc0) ?_
   refine⟨.inr (Keep.refl _ _),?_⟩
   refine zbs (u:= .pointer (some ⟨g,0,Option.none⟩)) (z:=vi 0) (vq0) (vr0) (Lib.run_unsafeString_none (P:=Tryz.prog) _ _ _ _ _) ?_
   refine⟨.inr (Keep.refl _ _),?_⟩
   refine hK _ _ ?_;clear hK hgd;clear K;try clear gd
   repeat refine c_r ?_
   refine zaC (.inr rfl) Tryz.ntmps157 rfl (zak (vr0) zav) ?_
   exact⟨rfl,hx0.mono (fun i _ h=>h.elim)⟩
 simp only[List.length_map,Nat.mul_one]at hn hx hb hcs
 have hlen0:0<bs.length:=List.length_pos_iff.2 h0
 refine enter Tryz.func157 Tryz.ntmps157 rfl rfl ?_
 repeat refine c_r ?_
 refine rg0 ?_
 repeat refine c_r ?_
 have hbg:b≠g:=fun he=>by
  subst he
  rw[hb]at hg
  injection hg with hg
  injection hg with _ h2
  revert h2;decide
 have hc0:cap≠0:=by omega
 refine zaH (fun _=>false) [(0,true),(1,true),(2,true),(3,true),(5,true),(6,true),(7,true),(8,true),(9,true),(4,false),(10,false),(11,true)] ((fun i=>i=g)) mixed (by kernel_rfl) ?_;intro gd K x hgd hx hxe hK;have hx0:=zfp hxe;clear hxe
 have c1:zae x (some ⟨b,1,Option.none⟩)=some (.slice (some ⟨g,0,Option.none⟩) bs.length cap):=zab (Ext.at hx0 hb) rfl
 have hgx:=Ext.at hx0 hg
 simp (disch:=first|omega|assumption|rfl) only[go_sem,c1,Nat.zero_add]
 refine⟨fun a ha hb=>(by cases ha;exact hbg hb),fun a ha hb=>(by cases ha;exact hbg hb),?_⟩
 refine zb8 (u:= .slice (some ⟨g,0,Option.none⟩) bs.length cap) (vq0) (Lib.run_unsafeSliceData_row _ _ _ _ _ _ hc0) ?_
 refine⟨.inr (Keep.refl _ _),?_⟩
 refine zbs (u:= .pointer (some ⟨g,0,Option.none⟩)) (z:=vi bs.length) (vq0) (vq0) (Lib.run_unsafeString_row (P:=Tryz.prog) _ _ _ _ 5 (by rfl) (by rfl) g (cap*1) (by simp[World.shape?,hgx,hcs]) bs h0 (by omega) (by omega) ?_) ?_
 ·intro j y hj
  obtain⟨hj1,hj2⟩:=List.getElem?_eq_some_iff.1 hj
  have hcell:=hown.row
  obtain⟨a,c,e,hc,hgt⟩:=hcell.ext hx0
  injection e with e1 e2 e3
  have h2:=hgt j (by simpa using hj1)
  rw[←e1,List.getElem_map,hj2]at h2
  exact h2
 have hfk:Keep (fun i=>i=g) x (x.freeze ⟨g,0,Option.none⟩ bs.length):=zhU x ⟨g,0,Option.none⟩ bs.length
 refine⟨.inr hfk,?_⟩
 refine hK _ _ ?_;clear hK hgd;clear K;try clear gd
 repeat refine c_r ?_
 refine zaC (.inr rfl) Tryz.ntmps157 rfl (zak (vr0) zav) ?_
 exact⟨rfl,(hx0.mono (fun i _ h=>h.elim)).trans (hfk.mono (fun i _ h=>h▸hgB))⟩
end Go.Proofs.YtahbdamijngmmaaGreat
namespace Go.Proofs
open Go.Shelf
def Tryz.lays137_ren:Go.Shelf.Ren:=⟨fun|137=>210|217=>259|266=>285|n=>n,fun|9=>9|5=>5|3=>3|n=>n,fun|n=>n⟩
theorem Tryz.lays137:Go.Proofs.Lays.n137 Tryz.prog Tryz.lays137_ren:={
 mixed:=by kernel_rfl
 f137:=Tryz.func210.trans (congrArg some (by kernel_rfl))
 f217:=Tryz.func259.trans (congrArg some (by kernel_rfl))
 f266:=Tryz.func285.trans (congrArg some (by kernel_rfl))
 t3:=Tryz.underlying3
 a3:=Tryz.isAgg3
 z3:=Tryz.sizeOf3
 v3:=Tryz.zeroValue3
 t5:=Tryz.underlying5
 a5:=Tryz.isAgg5
 z5:=Tryz.sizeOf5
 v5:=Tryz.zeroValue5
 t9:=Tryz.underlying9
 a9:=Tryz.isAgg9
 z9:=Tryz.sizeOf9
 v9:=Tryz.zeroValue9}
end Go.Proofs
namespace Go.Proofs.YtahbdamijngmmaaGreat
open Go
set_option maxRecDepth 10000
def escB(c:UInt8):List UInt8:=[92,UInt8.ofNat (48+c.toNat / 100),UInt8.ofNat (48+c.toNat / 10 % 10),UInt8.ofNat (48+c.toNat % 10)]
def marksL:List UInt8:=[46,92,34,40,41,59,64,36]
def labB(c:UInt8):List UInt8:=if c.toNat≤32∨127≤c.toNat then escB c else if marksL.contains c then [92,c] else [c]
def zb2(l:Lab):List UInt8:=l.flatMap labB
def zbh(n:Nm):List UInt8:=if n=[] then [46] else n.flatMap fun l=>zb2 l++ [46]
theorem zdQ{k:Nat}(h:k<256):zaf (UInt8.ofNat k)= .int .u8 (k:Int):=by
 unfold zaf
 rw[UInt8.toNat_ofNat_of_lt' (by simpa [UInt8.size] using h)]
theorem zf9(l:List UInt8)(c:UInt8):decide (0≤Lib.indexByte l c)=l.contains c:=by
 induction l with
 |nil=>rfl
 |cons b l ih=>
  unfold Lib.indexByte
  rw[List.contains_cons]
  by_cases h:b==c
  ·rw[if_pos h]
   have h':b=c:=by simpa using h
   subst h'
   simp
  ·rw[if_neg h]
   have:(c==b)=false:=by
    have h':¬b=c:=by simpa using h
    exact beq_eq_false_iff_ne.2 (fun e=>h' e.symm)
   rw[this,Bool.false_or,←ih]
   have hge:=Lib.indexByte_ge l c
   by_cases h2:(Lib.indexByte l c== -1)=true
   ·rw[if_pos h2]
    have h3:Lib.indexByte l c= -1:=by simpa using h2
    rw[h3]
   ·rw[if_neg h2]
    have h3:Lib.indexByte l c≠ -1:=by simpa using h2
    exact decide_eq_decide.2 ⟨fun _=>by omega,fun _=>by omega⟩
theorem labB_len(c:UInt8):(labB c).length≤4:=by
 unfold labB escB
 by_cases h1:c.toNat≤32∨127≤c.toNat
 ·rw[if_pos h1];exact Nat.le_refl _
 ·rw[if_neg h1]
  by_cases h2:marksL.contains c=true
  ·rw[if_pos h2];exact(by decide:2≤4)
  ·rw[if_neg h2];exact(by decide:1≤4)
theorem zdA(l:Lab):(zb2 l).length≤4*l.length:=by
 induction l with
 |nil=>simp[zb2]
 |cons c l ih=>
  have:=labB_len c
  unfold zb2 at*
  rw[List.flatMap_cons,List.length_append,List.length_cons];omega
theorem zlu(w:World)(c:UInt8):Fn Tryz.prog 209 #[zaf c] w (fun v w'=>v=vs (escB c)∧Ext w w'):=by
 have hc:c.toNat<256:=c.toNat_lt
 obtain⟨n,hn⟩:∃n,c.toNat=n:=⟨_,rfl⟩
 have e0:zaf c= .int .u8 (n:Int):=by unfold zaf;rw[hn]
 rw[e0]
 rw[hn]at hc
 have h100:¬(100:Int)=0:=by decide
 have h10:¬(10:Int)=0:=by decide
 have e1:((n:Nat):Int).tdiv 100=((n / 100:Nat):Int):=by rw[Int.tdiv_eq_ediv_of_nonneg (by omega)];omega
 have e2:((n:Nat):Int).tdiv 10=((n / 10:Nat):Int):=by rw[Int.tdiv_eq_ediv_of_nonneg (by omega)];omega
 have e3:((n / 10:Nat):Int).tmod 10=((n / 10 % 10:Nat):Int):=by rw[Int.tmod_eq_emod_of_nonneg (by omega)];omega
 have e4:((n:Nat):Int).tmod 10=((n % 10:Nat):Int):=by rw[Int.tmod_eq_emod_of_nonneg (by omega)];omega
 have w1:IntKind.u8.wrap ((n / 100:Nat):Int)=((n / 100:Nat):Int):=ziU (by omega) (by omega)
 have w2:IntKind.u8.wrap ((n / 10:Nat):Int)=((n / 10:Nat):Int):=ziU (by omega) (by omega)
 have w3:IntKind.u8.wrap (48+((n / 100:Nat):Int))=((48+n / 100:Nat):Int):=by rw[ziU (by omega) (by omega)];push_cast;rfl
 have w4:IntKind.u8.wrap (48+((n / 10 % 10:Nat):Int))=((48+n / 10 % 10:Nat):Int):=by rw[ziU (by omega) (by omega)];push_cast;rfl
 have w5:IntKind.u8.wrap (48+((n % 10:Nat):Int))=((48+n % 10:Nat):Int):=by rw[ziU (by omega) (by omega)];push_cast;rfl
 have hl:escB c=[92,UInt8.ofNat (48+n / 100),UInt8.ofNat (48+n / 10 % 10),UInt8.ofNat (48+n % 10)]:=by unfold escB;rw[hn]
 refine enter Tryz.func209 Tryz.ntmps209 rfl rfl ?_
 repeat refine c_r ?_
 refine rg0 ?_
 repeat refine c_r ?_
 refine rq ?_;intro gd K hgd hK
 try simp (disch:=assumption) only[go_sem,b_quo,b_rem,e1,e2,e3,e4,w1,w2,↓w3,↓w4,↓w5]
 refine zbw (z:= .int .u8 0) (l:=(escB c).map zaf) (by rw[hl];rfl) ?_ (by rfl) (by rfl) (by rfl) (by rfl) (fun v hv=>?_) (by rw[hl];simp) ?_
 ·rw[hl]
  simp only[List.map_cons,List.map_nil]
  rw[zdQ (by omega),zdQ (by omega),zdQ (by omega)];rfl
 ·obtain⟨d,_,rfl⟩:=List.mem_map.1 hv;rfl
 intro x1 hX1 hXs hXo
 try simp only[go_sem]
 have hlen4:(escB c).length=4:=rfl
 refine zbP (l:=escB c) rfl rfl rfl (vr0) (fun j hj=>?_) ?_
 ·obtain⟨a,c2,e,hc2,hgt⟩:=hXo.row
  injection e with e1
  have h2:=hgt j (by simpa using hj)
  rw[←e1,List.getElem_map]at h2
  exact h2
 try simp only[go_sem]
 refine hK _ _ ?_;clear hK hgd;clear K;try clear gd
 repeat refine c_r ?_
 refine rt0 Tryz.ntmps209 ?_
 exact⟨rfl,hX1⟩
theorem zhv(w:World)(c:UInt8):Fn Tryz.prog 210 #[vs marksL,zaf c] w (fun v w'=>v=vi (Lib.indexByte marksL c)∧w'=w):=
 Fn.of_calls (Calls.mono (Any.strings_IndexByte Tryz.lays137 ⟨marksL.toArray⟩ (c.toNat:Int) w) fun _ _ ⟨he,hw⟩=>⟨_,he,by simp,hw⟩)
theorem Bld.ext'{B:Nat}{w x:World}{b:Nat}{bs:List UInt8}(h:Bld B w b bs)(hE:Ext w x):Bld B x b bs:=by
 obtain⟨p,v,hp,hb,hown⟩:=h.ex
 exact⟨p,v,hp,hE.at hb,hown.ext hE⟩
theorem LText_ok(w:World)(l:Lab)(hl:l.length≤1000000000):Fn Tryz.prog 156 #[vs l] w (fun v w'=>v=vs (zb2 l)∧Ext w w'):=by
 refine enter Tryz.func156 Tryz.ntmps156 rfl rfl ?_
 repeat refine c_r ?_
 refine rg0 ?_
 repeat refine c_r ?_
 refine rg0 ?_
 refine zaB ?_
 intro w1 hE1 hs1 hA
 repeat refine c_r ?_
 refine rq ?_;intro gd K hgd hK
 try simp only[go_sem]
 refine Fn.mono (zgU _ _ (by omega)) ?_
 rintro _ w3 ⟨hE3,cap,rfl,hit⟩
 try simp only[go_sem]
 refine hK _ _ ?_;clear hK hgd;clear K;try clear gd
 have hA3:=hE3.at hA
 have s3:=hE3.size
 repeat refine c_r ?_
 refine zdu (g:=207) (cap:=cap) (vq0) rfl (hit (fun b=>b=w.heap.size) (fun b hb=>by omega)) (Keep.refl _ _) (Nat.le_refl _) (fun b hb=>by omega)
  (fun x A args h=>by rw[h];rfl)
  (fun pre A=>Ext w A∧Bld (w3.heap.size+2) A w.heap.size (zb2 (l.take pre.length)))
  (fun _ _ _=>False) ?_ (fun _ _ _ _ h _=>h.elim) ?_ ?_ ?_ (fun _ _ _ _ _ _ _ h _=>h.elim)
 ·rintro pre A B ⟨h1,p,v,hp,hb,hown⟩ hk
  refine⟨Keep.to_ext h1 rfl (fun b hb=>by unfold two at hb;omega) hk,p,v,hp,(hk.block _ (Array.getElem?_eq_some_iff.1 hb).1 (by unfold two;omega)).trans hb,hown.keep hk (fun b hb h=>by have:=(hown.ge hb).1;unfold two at h;omega)⟩
 ·exact⟨hE1.trans hE3,_,_,.inl rfl,hA3,Own.nil _ _ _⟩
 ·rintro lp pre x suf A args hxs hszA ⟨hEA,hB⟩ rfl
  obtain⟨hk,rfl⟩:=zeb hxs
  dsimp only
  refine rq ?_;intro gd K hgd hK
  try simp only[go_sem]
  refine hK _ _ ?_;clear hK hgd;clear K;try clear gd
  refine zap ?_
  refine⟨rfl,KeepB.refl _ _ _,fun A2 hA2=>?_⟩
  obtain⟨c,hc⟩:∃c,l[pre.length]=c:=⟨_,rfl⟩
  rw[hc]
  have hK2:Bld (w3.heap.size+2) A2 w.heap.size (zb2 (l.take pre.length)):=by
   obtain⟨p,v,hp,hb,hown⟩:=hB
   exact⟨p,v,hp,(hA2.block _ (Array.getElem?_eq_some_iff.1 hb).1 (by unfold two;omega)).trans hb,hown.keep hA2 (fun b hb h=>by have:=(hown.ge hb).1;unfold two at h;omega)⟩
  have hE2:Ext w A2:=Keep.to_ext hEA rfl (fun b hb=>by unfold two at hb;omega) hA2
  have hsA2:=hA2.size
  have htl:(zb2 (l.take pre.length)).length≤4*l.length:=by
   have h1:=zdA (l.take pre.length)
   rw[List.length_take]at h1;omega
  have htk:zb2 (l.take (pre.length+1))=zb2 (l.take pre.length)++labB c:=by
   rw[zan hk,hc];unfold zb2;rw[List.flatMap_append];simp
  have fin:∀{z:World} {bs:List UInt8},bs=labB c→Bld (w3.heap.size+2) z w.heap.size (zb2 (l.take pre.length)++bs)→Keep (fun i=>i=w.heap.size∨w3.heap.size+2≤i) A2 z→
    (Ext w z∧Bld (w3.heap.size+2) z w.heap.size (zb2 (l.take (pre++ [(c,pre.length)]).length)))∧KeepB (w3.heap.size+2) (fun b=>b=w.heap.size) A2 z:=fun {z bs} hbs hBz hkz=>by
   refine⟨⟨Keep.to_ext hE2 rfl (fun b hb=>by omega) hkz,?_⟩,hkz.toB (by omega) (fun i hi h=>by omega)⟩
   rw[List.length_append,List.length_singleton,htk,←hbs];exact hBz
  repeat refine c_r ?_
  refine zaA (Q:=fun e σ' ds' v'=>e= .normal∧ds'=[]∧v'=A2∧σ' 5=zaf c∧σ' 3= .pointer (some ⟨w.heap.size,0,Option.none⟩)∧σ' 10= .bool (decide (c.toNat≤32∨127≤c.toNat))) ?_ ?_
  ·refine rq ?_;intro gd K hgd hK
   have hg2:∀n σ b,zat gd n σ (some (2,b))=zaj (ev n σ (.tmp 13)) b:=(fun n σ b=>by rw[zad,show gd 2=some 13 from(by rw[hgd];rfl)];rfl)
   by_cases c1:(c.toNat:Int)≤32
   ·try simp (disch:=first|omega|assumption|rfl) only[go_sem,zaf,decide_eq_true c1,↓hg2]
    refine hK _ _ ?_;clear hK hgd;clear K;try clear gd
    refine⟨rfl,rfl,rfl,by simp only[go_sem,zaf],vq0,?_⟩
    rw[show decide (c.toNat≤32∨127≤c.toNat)=true from decide_eq_true (.inl (by omega))]
    simp only[go_sem]
   ·try simp (disch:=first|omega|assumption|rfl) only[go_sem,zaf,decide_eq_false c1,↓hg2]
    refine hK _ _ ?_;clear hK hgd;clear K;try clear gd
    refine⟨rfl,rfl,rfl,by simp only[go_sem,zaf],vq0,?_⟩
    rw[show decide (c.toNat≤32∨127≤c.toNat)=decide ((127:Int)≤(c.toNat:Int)) from decide_eq_decide.2 ⟨fun h=>by omega,fun h=> .inr (by omega)⟩]
    simp only[go_sem]
  rintro _ σ1 _ v1 ⟨rfl,rfl,hv1,h5,h3,h10⟩
  rw[hv1]
  clear hv1 v1
  repeat refine c_r ?_
  refine zaG (t:=decide (c.toNat≤32∨127≤c.toNat)) ((vq1 h10)) ?_ ?_
  ·intro hcc
   simp only[decide_eq_true_eq]at hcc
   have hlb:labB c=escB c:=by unfold labB;rw[if_pos hcc]
   repeat refine c_r ?_
   refine rq ?_;intro gd K hgd hK
   try simp (disch:=first|omega|assumption|rfl) only[go_sem,h5,h3]
   refine Fn.mono (zlu A2 c) ?_
   rintro _ z1 ⟨rfl,hz1⟩
   try simp (disch:=first|omega|assumption|rfl) only[go_sem,h3]
   have hBz:=hK2.ext' hz1
   refine Fn.mono (zdk hBz (by have:=hz1.size;omega) (by have:(escB c).length=4:=rfl;omega)) ?_
   rintro _ z2 ⟨hBz2,hkz2⟩
   try simp only[go_sem]
   refine hK _ _ ?_;clear hK hgd;clear K;try clear gd
   repeat refine c_r ?_
   exact fin hlb.symm hBz2 ((hz1.mono (fun i _ h=>h.elim)).trans hkz2)
  ·intro hcc
   simp only[decide_eq_false_iff_not]at hcc
   repeat refine c_r ?_
   refine rq ?_;intro gd K hgd hK
   try simp (disch:=first|omega|assumption|rfl) only[go_sem,h5]
   refine Fn.mono (zhv A2 c) ?_
   rintro _ y0 ⟨rfl,hy0⟩
   try simp only[go_sem]
   rw[hy0]
   clear hy0 y0
   refine hK _ _ ?_;clear hK hgd;clear K;try clear gd
   have hhas:=zf9 marksL c
   have tail:∀{z:World} {σ':Sto} {bs:List UInt8},bs++ [c]=labB c→Bld (w3.heap.size+2) z w.heap.size (zb2 (l.take pre.length)++bs)→Keep (fun i=>i=w.heap.size∨w3.heap.size+2≤i) A2 z→σ' 5=zaf c→σ' 3= .pointer (some ⟨w.heap.size,0,Option.none⟩)→bs.length≤4→
     Fn Tryz.prog 211 #[.pointer (some ⟨w.heap.size,0,Option.none⟩),zaf c] z (fun _ z'=>(Ext w z'∧Bld (w3.heap.size+2) z' w.heap.size (zb2 (l.take (pre++ [(c,pre.length)]).length)))∧KeepB (w3.heap.size+2) (fun b=>b=w.heap.size) A2 z'):=fun {z σ' bs} hbs hBz hkz _ _ hb4=>by
    refine Fn.mono (zel hBz (by have:=hkz.size;omega) (by simp;omega)) ?_
    rintro _ z' ⟨h1,h2⟩
    exact fin hbs (by rw[←List.append_assoc];exact h1) (hkz.trans h2)
   repeat refine c_r ?_
   refine zaG (t:=marksL.contains c) (by rw[←hhas];simp only[go_sem]) ?_ ?_
   ·intro hm
    have hlb:labB c=[92,c]:=by unfold labB;rw[if_neg hcc,if_pos hm]
    repeat refine c_r ?_
    refine rq ?_;intro gd K hgd hK
    try simp (disch:=first|omega|assumption|rfl) only[go_sem,h3]
    refine Fn.mono (zel (c:=92) hK2 (by omega) (by omega)) ?_
    rintro _ z1 ⟨hBz1,hkz1⟩
    try simp only[go_sem]
    refine hK _ _ ?_;clear hK hgd;clear K;try clear gd
    repeat refine c_r ?_
    refine rq ?_;intro gd K hgd hK
    try simp (disch:=first|omega|assumption|rfl) only[go_sem,h3,h5]
    refine Fn.mono (tail (σ':=σ1) (bs:=[92]) hlb.symm hBz1 hkz1 h5 h3 (by decide)) ?_
    rintro _ z2 hz2
    try simp only[go_sem]
    refine hK _ _ ?_;clear hK hgd;clear K;try clear gd
    repeat refine c_r ?_
    exact hz2
   ·intro hm
    have hlb:labB c=[c]:=by unfold labB;rw[if_neg hcc,if_neg (by rw[hm];exact Bool.false_ne_true)]
    repeat refine c_r ?_
    refine rq ?_;intro gd K hgd hK
    try simp (disch:=first|omega|assumption|rfl) only[go_sem,h3,h5]
    refine Fn.mono (tail (σ':=σ1) (bs:=[]) hlb.symm (by simpa using hK2) (Keep.refl _ _) h5 h3 (by decide)) ?_
    rintro _ z2 hz2
    try simp only[go_sem]
    refine hK _ _ ?_;clear hK hgd;clear K;try clear gd
    repeat refine c_r ?_
    exact hz2
 ·intro A hszA ⟨hEA,hB⟩ hD
  rw[List.take_of_length_le (by simp)]at hB
  have hlt:=zdA l
  repeat refine c_r ?_
  refine rq ?_;intro gd K hgd hK
  try simp only[go_sem]
  refine Fn.mono (zhp hB (by omega)) ?_
  rintro _ z ⟨rfl,hkz⟩
  try simp only[go_sem]
  refine hK _ _ ?_;clear hK hgd;clear K;try clear gd
  repeat refine c_r ?_
  refine zdC (v:=vs (zb2 l)) (.inr rfl) (by rfl) Tryz.ntmps156 (vq0) ((hkz.block _ (by omega) (by omega)).trans hD) ?_
  intro Z hkZ hsZ
  exact⟨rfl,Keep.to_ext (Keep.to_ext hEA rfl (fun b hb=>by omega) hkz) rfl (fun b hb=>by omega) hkZ⟩
theorem zdz(n:Nm):(n.flatMap fun l=>zb2 l++ [46]).length≤4*(n.map List.length).sum+n.length:=by
 induction n with
 |nil=>simp
 |cons l n ih=>
  have:=zdA l
  rw[List.flatMap_cons,List.length_append,List.map_cons,List.sum_cons,List.length_cons]
  simp only[List.length_append,List.length_singleton]
  omega
theorem zdd(w:World)(nv:Value)(n:Nm)(hn:Row w nv (n.map vs))(hl:∀l∈n,l.length≤1000000)(hnl:n.length≤1000):
  Fn Tryz.prog 104 #[nv] w (fun v w'=>v=vs (zbh n)∧Ext w w'):=by
 obtain⟨an,cn,rfl,hcn,hgn⟩:=hn
 simp only[List.length_map]at hcn hgn
 rw[List.length_map]
 refine enter Tryz.func104 Tryz.ntmps104 rfl rfl ?_
 repeat refine c_r ?_
 refine rg0 ?_
 repeat refine c_r ?_
 refine rg0 ?_
 repeat refine c_r ?_
 refine wc0 ?_ ?_
 ·intro h0
  simp only[decide_eq_true_eq]at h0
  have hn0:n=[]:=List.length_eq_zero_iff.1 (by omega)
  repeat (first|refine c_r ?_|refine rg0 ?_)
  refine rt0 Tryz.ntmps104 ?_
  exact⟨by unfold zbh;rw[if_pos hn0],Keep.refl _ _⟩
 intro h0
 simp only[decide_eq_false_iff_not]at h0
 have hn0:n≠ []:=fun h=>h0 (by rw[h];rfl)
 repeat refine c_r ?_
 refine rg0 ?_
 refine zaB ?_
 intro w1 hE1 hs1 hA
 repeat refine c_r ?_
 refine rg0 ?_
 repeat refine c_r ?_
 refine zar (fun m σ ds A=>ds=[]∧∃(i:Nat),i+m=n.length∧σ 11=vi i∧σ 10=vi n.length∧σ 9= .slice an n.length cn∧σ 3= .pointer (some ⟨w.heap.size,0,Option.none⟩)∧Ext w A∧w1.heap.size≤A.heap.size∧Bld w1.heap.size A w.heap.size ((n.take i).flatMap fun l=>zb2 l++ [46])) n.length ?_ ?_
 ·exact⟨rfl,0,by omega,vr0,vq0,vq0,vq0,hE1,Nat.le_refl _,_,_,.inl rfl,hA,Own.nil _ _ _⟩
 rintro m σ ds A ⟨rfl,i,him,h11,h10,h9,h3,hEA,hsA,hB⟩
 repeat refine c_r ?_
 refine rq ?_;intro gd K hgd hK;simp (disch:=first|omega|assumption|rfl) only[go_sem,h11,h10];refine hK _ _ ?_;clear hK hgd;clear K gd
 repeat refine c_r ?_
 refine wc0 ?_ ?_
 ·intro hlt
  simp only[decide_eq_true_eq]at hlt
  have hi:i<n.length:=by omega
  have hi0:(0:Int)≤(i:Int):=by omega
  have hi1:(i:Int)<(n.length:Int):=by omega
  have hi1':(i:Int)+1=((i+1:Nat):Int):=by push_cast;rfl
  have hg:=zaa hEA (hgn i (by simpa using hi))
  rw[List.getElem_map]at hg
  obtain⟨l,hle⟩:∃l,n[i]=l:=⟨_,rfl⟩
  rw[hle]at hg
  have hmem:l∈n:=hle▸List.getElem_mem hi
  obtain⟨xn,rfl⟩:=Option.isSome_iff_exists.1 (zag hg)
  have hpl:((n.take i).flatMap fun l=>zb2 l++ [46]).length≤5000000000:=by
   have h1:=zdz (n.take i)
   have h2:((n.take i).map List.length).sum≤1000000*n.length:=by
    have:∀(k:Nm),(∀l∈k,l.length≤1000000)→(k.map List.length).sum≤1000000*k.length:=fun k=>by
     induction k with
     |nil=>intro _;simp
     |cons x k ih=>
      intro h
      have h3:=ih (fun l hl=>h l (List.mem_cons_of_mem _ hl))
      have h4:=h x (List.mem_cons_self ..)
      rw[List.map_cons,List.sum_cons,List.length_cons];omega
    have h3:=this (n.take i) (fun l hl'=>hl l (List.mem_of_mem_take hl'))
    rw[List.length_take]at h3;omega
   rw[List.length_take]at h1;omega
  have htl:=zdA l
  have hll:=hl l hmem
  have hadd:(zb2 l).length+([46]:List UInt8).length≤9223372036854775807:=by rw[List.length_singleton];omega
  repeat refine c_r ?_
  refine rq ?_;intro gd K hgd hK;simp (disch:=first|omega|assumption|rfl) only[go_sem,h9,h11,hi0,hi1,hg];refine hK _ _ ?_;clear hK hgd;clear K gd
  repeat refine c_r ?_
  refine rq ?_;intro gd K hgd hK
  try simp only[go_sem]
  refine Fn.mono (LText_ok A l (by omega)) ?_
  rintro _ A1 ⟨rfl,hE2⟩
  try simp (disch:=first|omega|assumption|rfl) only[go_sem,h3]
  refine Fn.mono (zdk (s:=zb2 l++ [46]) (hB.ext' hE2) (by have:=hE2.size;omega) (by rw[List.length_append,List.length_singleton];omega)) ?_
  rintro _ A2 ⟨hB2,hk2⟩
  try simp only[go_sem]
  refine hK _ _ ?_;clear hK hgd;clear K;try clear gd
  repeat refine c_r ?_
  refine rq ?_;intro gd K hgd hK;simp (disch:=first|omega|assumption|rfl) only[go_sem,h11,hi1'];refine hK _ _ ?_;clear hK hgd;clear K gd
  repeat refine c_r ?_
  refine⟨m - 1,by omega,rfl,i+1,by omega,vq0,(vq1 h10),(vq1 h9),(vq1 h3),Keep.to_ext (hEA.trans hE2) rfl (fun b hb=>by omega) hk2,by have:=hE2.size;have:=hk2.size;omega,?_⟩
  rw[zan hi,List.flatMap_append,hle]
  simpa using hB2
 ·intro hge
  simp only[decide_eq_false_iff_not]at hge
  rw[List.take_of_length_le (by omega)]at hB
  have hpl:(n.flatMap fun l=>zb2 l++ [46]).length≤5000000000:=by
   have h1:=zdz n
   have:∀(k:Nm),(∀l∈k,l.length≤1000000)→(k.map List.length).sum≤1000000*k.length:=fun k=>by
    induction k with
    |nil=>intro _;simp
    |cons x k ih=>
     intro h
     have h3:=ih (fun l hl=>h l (List.mem_cons_of_mem _ hl))
     have h4:=h x (List.mem_cons_self ..)
     rw[List.map_cons,List.sum_cons,List.length_cons];omega
   have h3:=this n hl
   omega
  repeat refine c_r ?_
  refine rq ?_;intro gd K hgd hK
  try simp (disch:=first|omega|assumption|rfl) only[go_sem,h3]
  refine Fn.mono (zhp hB (by omega)) ?_
  rintro _ z ⟨rfl,hkz⟩
  try simp only[go_sem]
  refine hK _ _ ?_;clear hK hgd;clear K;try clear gd
  repeat refine c_r ?_
  refine rt0 Tryz.ntmps104 ?_
  exact⟨by unfold zbh;rw[if_neg hn0],Keep.to_ext hEA rfl (fun b hb=>by omega) hkz⟩
def zbt(had:List (List UInt8)):List Nm→List Nm
 | []=>[]
 |h::l=>if had.contains (zbh h) then zbt had l else h::zbt (zbh h::had) l
def zbB(t:Int)(ds:List DatL):List Nm:=zbt [] (zau t ds)
structure NmG(n:Nm):Prop where
 ne:∀l∈n,l≠ []
 lb:∀l∈n,l.length≤1000000
 len:n.length≤1000
theorem NmG.m{n:Nm}(h:NmG n):NmM n:=⟨h.lb,by have:=h.len;omega⟩
def encH(w0:World)(_:Nat)(x:Nm)(_:Nat→Prop)(_:World)(args:Array Value):Prop:=∃v,args=#[v]∧Row w0 v (x.map vs)
theorem zhQ{M:List (Lab×Value)}{t k:Lab}{v:Value}(h:M.lookup t=Option.none):(M++ [(t,v)]).lookup k=if k==t then some v else M.lookup k:=by
 induction M with
 |nil=>
  simp only[List.nil_append,List.lookup_cons,List.lookup_nil]
  split<;>simp_all
 |cons p M ih=>
  obtain⟨q,u⟩:=p
  simp only[List.lookup_cons]at h
  split at h
  ·cases h
  ·rename_i hne
   simp only[List.cons_append,List.lookup_cons]
   by_cases hk:(k==q)=true
   ·simp only[hk]
    have hkq:k=q:=by simpa using hk
    have:(k==t)=false:=by
     rw[hkq]
     exact beq_eq_false_iff_ne.2 (fun e=>by rw[e]at hne;simp at hne)
    rw[this];rfl
   ·have hk':(k==q)=false:=by simpa using hk
    simp only[hk']
    exact ih h
theorem zkE{w0 W0:World}{C:Nat→Prop}{bs:Nat}{ow tl dv:Value}{t:Int}{ds:List DatL}(hE0:Ext w0 W0)(hb:W0.heap[bs]? =some (.cells #[ow,vi t,tl,dv] 340 (0,0)))(how:one ow=true)(htl:one tl=true)(hd:Rows 5 (DatAt w0) W0 dv ds)
  (hC:∀b,C b→w0.heap.size≤b∧b<W0.heap.size) (hlen:ds.length≤1000000000) (hgood:∀n∈zau t ds,NmG n):
  IterU Tryz.prog 282 #[.pointer (some ⟨bs,0,Option.none⟩)] W0 W0.heap.size C 1 (fun pre x=>∃suf,zbB t ds=pre++x::suf) (fun xs=>xs=zbB t ds) (encH w0):=by
 intro lp J Jx W hW hnW hJ hJx hY h0
 have hs0:=hE0.size
 refine enter Tryz.func282 Tryz.ntmps282 rfl rfl ?_
 repeat refine c_r ?_
 refine rg0 ?_
 have hm0:=new_map W
 have hEm:=Ext.alloc W (.map #[] 0)
 have hsm:=zai W (.map #[] 0)
 revert hm0 hEm hsm
 generalize W.alloc (.map #[] 0)=W1
 intro hm0 hEm hsm
 have hb1:=Ext.at (hW.trans hEm) hb
 have d4:=zah (n:=4) (l:=[ow,vi t,tl,dv]) hb1 rfl
 repeat refine c_r ?_
 refine rq ?_;intro gd K hgd hK
 try simp (disch:=first|omega|assumption|rfl) only[go_sem,d4]
 refine Fn.mono (zfR (hE0.trans (hW.trans hEm)) how htl (hd.ext (hW.trans hEm)) hlen) ?_
 rintro tv X ⟨hEX,htv,htb⟩
 obtain⟨aT,cT,rfl,hcT,hgT⟩:=htv.open
 obtain⟨L,hL⟩:∃L,zau t ds=L:=⟨_,rfl⟩
 have hH:zbB t ds=zbt [] L:=by unfold zbB;rw[hL]
 rw[hL]at htv htb hcT hgood ⊢
 simp only[hL]at hgT
 try simp only[go_sem]
 refine hK _ _ ?_;clear hK hgd;clear K;try clear gd
 have hLl:L.length≤1000000000:=by
  rw[←hL];unfold zau
  split
  ·have:=List.length_filterMap_le (fun d:DatL=>d.names.head?) ds;omega
  ·simp
 have hEWX:=hEm.trans hEX
 have hmX:MapAt X W.heap.size []:=hm0.block (hEX.block _ (by omega) (fun h=>h))
 have hsX:=hEX.size
 repeat refine c_r ?_
 refine zar (fun m σ ds' v=>ds'=[]∧∃(i:Nat) (pre:List Nm) (U:Nat→Prop) (had:List (List UInt8)) (M:List (Lab×Value)),i+m=L.length∧zbt [] L=pre++zbt had (L.drop i)∧σ 11=vi i∧σ 10=vi L.length∧σ 9= .slice aT L.length cT∧σ 0= .func (.yield lp) #[] #[]∧σ 3= .map (some W.heap.size)∧
  J pre U v∧(∀b,U b→X.heap.size≤b)∧X.heap.size≤v.heap.size∧KeepB W0.heap.size C W v∧Ext w0 v∧MapAt v W.heap.size M∧(∀k,M.lookup k=if had.contains k then some (.bool true) else Option.none)∧Rows 1 (NmC w0) v (.slice aT L.length cT) L) L.length ?_ ?_
 ·refine⟨rfl,0,[],NoS,[],[],by omega,rfl,vr0,vq0,vq0,vq0,vq0,hJ _ _ _ _ h0 (hEWX.mono (fun _ _ h=>h.elim)),fun b h=>h.elim,Nat.le_refl _,hEWX.toB (by omega) (fun _ _ h=>h.elim),hE0.trans (hW.trans hEWX),hmX,fun k=>by simp,htv⟩
 rintro m σ ds' v ⟨rfl,i,pre,U,had,M,him,hpre,h11,h10,h9,hf0,h3,hj,hU,hsv,hKB,hEv,hM,hMl,hrow⟩
 repeat refine c_r ?_
 refine rq ?_;intro gd K hgd hK;simp (disch:=first|omega|assumption|rfl) only[go_sem,h11,h10];refine hK _ _ ?_;clear hK hgd;clear K gd
 repeat refine c_r ?_
 refine wc0 ?_ ?_
 ·intro hlt
  simp only[decide_eq_true_eq]at hlt
  have hi:i<L.length:=by omega
  have hi0:(0:Int)≤(i:Int):=by omega
  have hi1:(i:Int)<(L.length:Int):=by omega
  have hi1':(i:Int)+1=((i+1:Nat):Int):=by push_cast;rfl
  obtain⟨h,hh⟩:∃h,L[i]=h:=⟨_,rfl⟩
  have hgh:NmG h:=hh▸hgood _ (List.getElem_mem hi)
  obtain⟨cs,hcs,hv,rfl,hvr⟩:=hrow.get hi
  rw[hh]at hvr
  have hcell:zae v (adr aT i)=some hv:=by
   have:=zax hcs (j:=0) rfl
   rwa [Nat.mul_one,zaz]at this
  obtain⟨xT,rfl⟩:=Option.isSome_iff_exists.1 (zag hcell)
  have hdr:L.drop i=h::L.drop (i+1):=by rw[List.drop_eq_getElem_cons hi,hh]
  rw[hdr]at hpre
  repeat refine c_r ?_
  refine rq ?_;intro gd K hgd hK;simp (disch:=first|omega|assumption|rfl) only[go_sem,h9,h11,hi0,hi1,hcell];refine hK _ _ ?_;clear hK hgd;clear K gd
  repeat refine c_r ?_
  refine rq ?_;intro gd K hgd hK
  try simp only[go_sem]
  refine Fn.mono (zdd v hv h (hvr.ext hEv) hgh.lb hgh.len) ?_
  rintro _ v1 ⟨rfl,hE1⟩
  try simp only[go_sem]
  refine hK _ _ ?_;clear hK hgd;clear K;try clear gd
  have hs1:=hE1.size
  have hj1:=hJ _ _ _ _ hj (hE1.mono (fun _ _ h=>h.elim))
  have hK1:KeepB W0.heap.size C W v1:=hKB.trans (hE1.toB (by omega) (fun _ _ h=>h.elim))
  have hM1:MapAt v1 W.heap.size M:=hM.block (hE1.block _ (by omega) (fun h=>h))
  have hrow1:=hrow.ext hE1
  have hEv1:=hEv.trans hE1
  have hlk:=hM1.lk (P:=Tryz.prog) (t:=202) (kt:=9) (et:=4) (z:= .bool false) rfl rfl rfl (zbh h)
  rw[hMl]at hlk
  -- the next round
  have next:∀{z:World} {σ':Sto} {pre':List Nm} {U':Nat→Prop} {had':List (List UInt8)} {M':List (Lab×Value)},zbt [] L=pre'++zbt had' (L.drop (i+1))→J pre' U' z→(∀b,U' b→X.heap.size≤b)→X.heap.size≤z.heap.size→KeepB W0.heap.size C W z→Ext w0 z→MapAt z W.heap.size M'→
    (∀k,M'.lookup k=if had'.contains k then some (.bool true) else Option.none)→Rows 1 (NmC w0) z (.slice (some xT) L.length cT) L→σ' 11=vi ((i+1:Nat):Int)→σ' 10=vi L.length→σ' 9= .slice (some xT) L.length cT→σ' 0= .func (.yield lp) #[] #[]→σ' 3= .map (some W.heap.size)→
    ∃m',m'<m∧([]:List Deferred)=[]∧∃(i:Nat) (pre:List Nm) (U:Nat→Prop) (had:List (List UInt8)) (M:List (Lab×Value)),i+m'=L.length∧zbt [] L=pre++zbt had (L.drop i)∧σ' 11=vi i∧σ' 10=vi L.length∧σ' 9= .slice (some xT) L.length cT∧σ' 0= .func (.yield lp) #[] #[]∧σ' 3= .map (some W.heap.size)∧
     J pre U z∧(∀b,U b→X.heap.size≤b)∧X.heap.size≤z.heap.size∧KeepB W0.heap.size C W z∧Ext w0 z∧MapAt z W.heap.size M∧(∀k,M.lookup k=if had.contains k then some (.bool true) else Option.none)∧Rows 1 (NmC w0) z (.slice (some xT) L.length cT) L:=
   fun a1 a2 a3 a4 a5 a6 a7 a8 a9 b1 b2 b3 b4 b5=>⟨m - 1,by omega,rfl,i+1,_,_,_,_,by omega,a1,b1,b2,b3,b4,b5,a2,a3,a4,a5,a6,a7,a8,a9⟩
  by_cases hcon:had.contains (zbh h)=true
  ·rw[if_pos hcon]at hlk
   have hskip:zbt had (h::L.drop (i+1))=zbt had (L.drop (i+1)):=by
    show(if had.contains (zbh h) then _ else _)=_
    rw[if_pos hcon]
   rw[hskip]at hpre
   repeat refine c_r ?_
   refine rq ?_;intro gd K hgd hK
   have hg4:∀n σ b,zat gd n σ (some (4,b))=zaj (ev n σ (.tmp 21)) b:=(fun n σ b=>by rw[zad,show gd 4=some 21 from(by rw[hgd];rfl)];rfl)
   rw[Option.getD_some]at hlk
   try simp (disch:=first|omega|assumption|rfl) only[go_sem,h3,↓hg4]
   refine zgQ (vq0) (vq0) hlk ?_
   try simp (disch:=first|omega|assumption|rfl) only[go_sem,↓hg4]
   refine hK _ _ ?_;clear hK hgd;clear K;try clear gd
   repeat refine c_r ?_
   refine wc0 ?_ ?_
   ·intro h;cases h
   intro _
   repeat refine c_r ?_
   refine rq ?_;intro gd K hgd hK
   try simp (disch:=first|omega|assumption|rfl) only[go_sem,h3]
   refine zi9 (v:= .bool true) (l:=M) (key:=zbh h) rfl rfl (vq0) (vq0) (vq0) hM1 (by rw[hMl,if_pos hcon]) ?_
   intro z hMz hkz hsz
   try simp only[go_sem]
   refine hK _ _ ?_;clear hK hgd;clear K;try clear gd
   repeat refine c_r ?_
   refine rq ?_;intro gd K hgd hK;simp (disch:=first|omega|assumption|rfl) only[go_sem,h11,hi1'];refine hK _ _ ?_;clear hK hgd;clear K gd
   repeat refine c_r ?_
   refine next hpre (hJ _ _ _ _ hj1 (hkz.mono (fun b _ h=>by unfold span;omega))) hU (by omega) (hK1.trans (hkz.toB (by omega) (fun b hb h=>by omega))) (Keep.to_ext hEv1 rfl (fun b hb=>by omega) hkz) hMz hMl (hrow1.keep hkz (htb.ext (by omega)) (fun b hb _=>by omega)) (vq0) ((vq1 h10)) ((vq1 h9)) ((vq1 hf0)) ((vq1 h3))
  ·rw[if_neg hcon,Option.getD_none]at hlk
   have hno:M.lookup (zbh h)=Option.none:=by rw[hMl,if_neg hcon]
   have hcf:had.contains (zbh h)=false:=by simpa using hcon
   have hgo:zbt had (h::L.drop (i+1))=h::zbt (zbh h::had) (L.drop (i+1)):=by
    show(if had.contains (zbh h) then _ else _)=_
    rw[if_neg hcon]
   rw[hgo]at hpre
   have hsuf:∃suf,zbB t ds=pre++h::suf:=⟨_,by rw[hH,hpre]⟩
   repeat refine c_r ?_
   refine rq ?_;intro gd K hgd hK
   have hg4:∀n σ b,zat gd n σ (some (4,b))=zaj (ev n σ (.tmp 21)) b:=(fun n σ b=>by rw[zad,show gd 4=some 21 from(by rw[hgd];rfl)];rfl)
   try simp (disch:=first|omega|assumption|rfl) only[go_sem,h3,↓hg4]
   refine zgQ (vq0) (vq0) hlk ?_
   try simp (disch:=first|omega|assumption|rfl) only[go_sem,h3,hf0,↓hg4]
   refine Yld.mono (hY pre U h v1 _ hsuf hj1 (by omega) hK1 ⟨hv,rfl,hvr⟩) ?_
   rintro u z (⟨rfl,U',hj',hU',hkr⟩| ⟨rfl,hjx⟩)
   ·try simp (disch:=first|omega|assumption|rfl) only[go_sem,↓hg4]
    refine hK _ _ ?_;clear hK hgd;clear K;try clear gd
    have hzs:=hkr.size
    have hCb:∀b,W.heap.size≤b→b<X.heap.size→¬(C b∨U b):=fun b h1 h2 h3=>by
     rcases h3 with h3|h3
     ·have:=hC b h3;omega
     ·have:=hU b h3;omega
    have hMz:MapAt z W.heap.size M:=hM1.block (hkr.block _ (by omega) (.inr (Nat.le_refl _)) (hCb _ (Nat.le_refl _) (by omega)))
    have hrowz:Rows 1 (NmC w0) z (.slice (some xT) L.length cT) L:=hrow1.blocks fun a n c hv=>by
     have h1:=htb a n c hv
     exact hkr.block _ (by omega) (.inr (by omega)) (hCb _ (by omega) h1.2)
    have hKz:KeepB W0.heap.size C W z:=hK1.trans ⟨hkr.os,hkr.tape,hkr.output,hkr.size,fun b hb hc=>hkr.block b (by omega) (.inl hb) (fun h=>by
     rcases h with h|h
     ·exact hc h
     ·have:=hU b h;omega),hkr.drawn⟩
    have hEz:Ext w0 z:=zcL (hE0.trans hW) hKz hs0 (fun b hb=>(hC b hb).1)
    repeat refine c_r ?_
    refine wc0 ?_ ?_
    ·intro h;cases h
    intro _
    repeat refine c_r ?_
    refine rq ?_;intro gd K hgd hK
    try simp (disch:=first|omega|assumption|rfl) only[go_sem,h3]
    refine zgO (v:= .bool true) (l:=M) (key:=zbh h) rfl rfl (vq0) (vq0) (vq0) hMz hno ?_
    intro z2 hMz2 hkz hsz
    try simp only[go_sem]
    refine hK _ _ ?_;clear hK hgd;clear K;try clear gd
    repeat refine c_r ?_
    refine rq ?_;intro gd K hgd hK;simp (disch:=first|omega|assumption|rfl) only[go_sem,h11,hi1'];refine hK _ _ ?_;clear hK hgd;clear K gd
    repeat refine c_r ?_
    refine next (pre':=pre++ [h]) (had':=zbh h::had) (by rw[hpre];simp) (hJ _ _ _ _ hj' (hkz.mono (fun b _ h=>by unfold span;omega))) (fun b hb=>by
     rcases hU' b hb with h|h
     ·exact hU b h
     ·omega) (by omega) (hKz.trans (hkz.toB (by omega) (fun b hb h=>by omega))) (Keep.to_ext hEz rfl (fun b hb=>by omega) hkz) hMz2 (fun k=>?_) (hrowz.keep hkz (htb.ext (by omega)) (fun b hb _=>by omega)) (vq0) ((vq1 h10)) ((vq1 h9)) ((vq1 hf0)) ((vq1 h3))
    rw[zhQ hno,hMl,List.contains_cons]
    by_cases hk:(k==zbh h)=true
    ·rw[if_pos hk,hk];rfl
    ·rw[if_neg hk]
     have:(k==zbh h)=false:=by simpa using hk
     rw[this,Bool.false_or]
   ·try simp (disch:=first|omega|assumption|rfl) only[go_sem,↓hg4]
    refine hK _ _ ?_;clear hK hgd;clear K;try clear gd
    repeat refine c_r ?_
    refine wc0 ?_ ?_
    ·intro _
     repeat refine c_r ?_
     refine zay (by simp) rfl (.inr ⟨_,_,hsuf,hjx⟩)
    ·intro h;cases h
 ·intro hge
  simp only[decide_eq_false_iff_not]at hge
  rw[List.drop_eq_nil_of_le (by omega)]at hpre
  have hfin:pre=zbB t ds:=by rw[hH,hpre];simp[zbt]
  repeat refine c_r ?_
  refine zay (by simp) rfl (.inl ⟨_,U,rfl,hfin▸hj⟩)
theorem ziv{w:World}{ow tl dv:Value}{t:Int}:
  Fn Tryz.prog 246 #[.agg #[ow,vi t,tl,dv]] w (fun v w'=>v= .func (.func 282) #[] #[.pointer (some ⟨w.heap.size,0,Option.none⟩)]∧Ext w w'∧w'.heap.size=w.heap.size+1∧w'.heap[w.heap.size]? =some (.cells #[ow,vi t,tl,dv] 340 (0,0))):=by
 refine enter Tryz.func246 Tryz.ntmps246 rfl rfl ?_
 repeat refine c_r ?_
 refine rg0 ?_
 repeat refine c_r ?_
 refine zaB ?_
 intro w1 hE1 hs1 hA
 refine rg0 ?_
 repeat refine c_r ?_
 refine rt0 Tryz.ntmps246 ?_
 exact⟨rfl,hE1,hs1,hA⟩
structure ResL where
 kind:Int
 data:List DatL
 name:Nm
 wild:Bool
 glue:List (Nm×List DatL)
def GlC(w0 w:World)(cs:List Value)(x:Nm×List DatL):Prop:=∃hv dv,cs=[hv,dv]∧Row w0 hv (x.1.map vs)∧Rows 5 (DatAt w0) w dv x.2
structure ResAt(w0 w:World)(cs:List Value)(r:ResL):Prop where
 ex:∃dv nv gv,cs=[vi r.kind,dv,nv,.bool r.wild,gv]∧Rows 5 (DatAt w0) w dv r.data∧Row w nv (r.name.map vs)∧Rows 2 (GlC w0 w) w gv r.glue
theorem ResAt.ext{w0 w x:World}{cs:List Value}{r:ResL}(h:ResAt w0 w cs r)(hE:Ext w x):ResAt w0 x cs r:=by
 obtain⟨dv,nv,gv,e,h1,h2,h3⟩:=h.ex
 refine⟨dv,nv,gv,e,h1.ext hE,h2.ext hE,(h3.ext hE).to fun cs x hx=>?_⟩
 obtain⟨hv,dv,e,g1,g2⟩:=hx
 exact⟨hv,dv,e,g1,g2.ext hE⟩
def GlB(w0:World)(B:Nat)(w:World)(cs:List Value)(x:Nm×List DatL):Prop:=∃hv dv,cs=[hv,dv]∧Row w0 hv (x.1.map vs)∧Rows 5 (DatAt w0) w dv x.2∧BlkB B w dv
structure ResB(w0:World)(B:Nat)(w:World)(cs:List Value)(r:ResL):Prop where
 ex:∃dv nv gv,cs=[vi r.kind,dv,nv,.bool r.wild,gv]∧Rows 5 (DatAt w0) w dv r.data∧BlkB B w dv∧((Row w nv (r.name.map vs)∧BlkB B w nv)∨Row w0 nv (r.name.map vs))∧Rows 2 (GlB w0 B w) w gv r.glue∧BlkB B w gv
theorem ResB.keep{w0 w x:World}{B:Nat}{cs:List Value}{r:ResL}(h:ResB w0 B w cs r){S:Nat→Prop}(hk:Keep S w x)(hS:∀b,B≤b→b<w.heap.size→¬S b):ResB w0 B x cs r:=by
 obtain⟨dv,nv,gv,e,h1,h2,h3,h4,h5⟩:=h.ex
 refine⟨dv,nv,gv,e,h1.keep hk h2 hS,h2.ext hk.size,?_,(h4.keep hk h5 hS).to fun cs y hy=>?_,h5.ext hk.size⟩
 ·rcases h3 with ⟨h3,h6⟩|h3
  ·exact .inl ⟨h3.blocks fun a n c hv=>hk.block _ (h6 a n c hv).2 (hS _ (h6 a n c hv).1 (h6 a n c hv).2),h6.ext hk.size⟩
  ·exact .inr h3
 ·obtain⟨hv,dv,e,g1,g2,g3⟩:=hy
  exact⟨hv,dv,e,g1,g2.keep hk g3 hS,g3.ext hk.size⟩
theorem ResB.at{w0 w:World}{B:Nat}{cs:List Value}{r:ResL}(h:ResB w0 B w cs r)(hE:Ext w0 w):ResAt w0 w cs r:=by
 obtain⟨dv,nv,gv,e,h1,h2,h3,h4,h5⟩:=h.ex
 refine⟨dv,nv,gv,e,h1,?_,h4.to fun cs y hy=>?_⟩
 ·rcases h3 with ⟨h3,_⟩|h3
  ·exact h3
  ·exact h3.ext hE
 ·obtain⟨hv,dv,e,g1,g2,_⟩:=hy
  exact⟨hv,dv,e,g1,g2⟩
theorem ResB.mono{w0 w:World}{B B':Nat}{cs:List Value}{r:ResL}(h:ResB w0 B w cs r)(hB:B'≤B):ResB w0 B' w cs r:=by
 obtain⟨dv,nv,gv,e,h1,h2,h3,h4,h5⟩:=h.ex
 refine⟨dv,nv,gv,e,h1,h2.mono hB,h3.imp (fun h=>⟨h.1,h.2.mono hB⟩) id,h4.to fun cs y hy=>?_,h5.mono hB⟩
 obtain⟨hv,dv,e,g1,g2,g3⟩:=hy
 exact⟨hv,dv,e,g1,g2,g3.mono hB⟩
theorem ResB.cells{w0 w:World}{B:Nat}{cs:List Value}{r:ResL}(h:ResB w0 B w cs r):cs.length=5∧∀v∈cs,one v=true:=by
 obtain⟨dv,nv,gv,rfl,h1,h2,h3,h4,h5⟩:=h.ex
 obtain⟨a1,c1,rfl,_⟩:=h1.open
 obtain⟨a2,c2,rfl,_⟩:=h4.open
 have hn:one nv=true:=by
  rcases h3 with ⟨⟨a,c,rfl,_⟩,_⟩| ⟨a,c,rfl,_⟩<;>rfl
 refine⟨rfl,fun v hv=>?_⟩
 simp at hv
 rcases hv with rfl|rfl|rfl|rfl|rfl
 ·rfl
 ·rfl
 ·exact hn
 ·rfl
 ·rfl
def zea(R:List RecL):Prop:=∀r∈R,∀n∈r.dat.names,NmG n
theorem zeA{R:List RecL}{n:Nm}{t:Int}{d:DatL}(h:d∈datC R n t):∃r∈R,r.dat=d:=by
 unfold datC at h
 obtain⟨x,hx,rfl⟩:=List.mem_map.1 h
 have:∀x∈ofC R n t,∃r∈R,r.dat=x.dat:=by
  unfold ofC
  exact zbG (Q:=fun x=>∃r∈R,r.dat=x.dat) (fun a b h=>h) (fun x hx=>⟨x,(List.mem_filter.1 hx).1,rfl⟩)
 exact this x hx
theorem zbJ{R:List RecL}(hR:zea R){n:Nm}{t u:Int}{ds:List DatL}(hds:∀d∈ds,d∈datC R n t):∀x∈zau u ds,NmG x:=by
 intro x hx
 unfold zau at hx
 split at hx
 ·obtain⟨d,hd,hn⟩:=List.mem_filterMap.1 hx
  obtain⟨r,hr,rfl⟩:=zeA (hds d hd)
  exact hR r hr x (List.mem_of_mem_head? hn)
 ·cases hx
theorem zb9{R:List RecL}{n:Nm}{t:Int}:(datC R n t).length≤R.length:=by
 unfold datC ofC
 rw[List.length_map]
 exact Nat.le_trans (zc7 _) (List.length_filter_le _ _)
theorem zh0{R:List RecL}{n:Nm}{t:Int}:ofC R n t≠ []↔datC R n t≠ []:=by
 unfold datC
 rw[ne_eq,ne_eq,List.map_eq_nil_iff]
def toN(t:Int)(ds:List DatL):Nm:=(zbB t ds).getLast?.getD []
theorem ziS{w0 w:World}{ov lv nv:Value}{o n:Nm}{R:List RecL}{t:Int}(hz:ZnAt w0 w ov lv o R)(hR:zea R)(hn:Row w nv (n.map vs))(hok:NmS n):
  Fn Tryz.prog 248 #[.agg #[ov,lv],nv,vi t] w (fun v w'=>Ext w w'∧∃dv tv,v= .tuple #[dv,tv,.bool (decide (datC R n t≠ []))]∧Rows 5 (DatAt w0) w' dv ((datC R n t).take 1)∧BlkB w.heap.size w' dv∧Row w0 tv ((toN t ((datC R n t).take 1)).map vs)):=by
 obtain⟨ao,co,hov,_⟩:=id hz.org
 obtain⟨al,cl,hlv,_⟩:=hz.recs.open
 rw[hov,hlv]
 refine enter Tryz.func248 Tryz.ntmps248 rfl rfl ?_
 repeat refine c_r ?_
 refine rg0 ?_
 repeat refine c_r ?_
 rw[←hov,←hlv]
 refine zaB ?_
 intro w1 hE1 hs1 hA
 have p1:zae w1 (some ⟨w.heap.size,1,Option.none⟩)=some lv:=zab hA rfl
 have hz1:=hz.ext hE1
 refine rq ?_;intro gd K hgd hK
 try simp (disch:=first|omega|assumption|rfl) only[go_sem,p1,Nat.zero_add]
 refine Fn.mono (Of_ok hz1.e0 hz1.recs (hn.ext hE1) hok.lb (by have:=hok.len;omega) hz.ok hz.rl) ?_
 rintro _ w2 ⟨hE2,ow,ty,tl,dv,rfl,how,hty,hdv,hdb⟩
 have hdd:(ofC R n t).map RecL.dat=datC R n t:=rfl
 rw[hdd]at hdv
 obtain⟨bb,hbb⟩:∃bb:Bool,decide (datC R n t≠ [])=bb:=⟨_,rfl⟩
 rw[show decide (ofC R n t≠ [])=bb from by rw[←hbb];exact decide_eq_decide.2 (zh0 (R:=R) (n:=n) (t:=t))]
 try simp only[go_sem]
 have hB3:=zas w2 (.cells #[.slice Option.none 0 0,vi 0,v32 0,.slice Option.none 0 0] 340 (0,0))
 have hE4:=Ext.alloc w2 (.cells #[.slice Option.none 0 0,vi 0,v32 0,.slice Option.none 0 0] 340 (0,0))
 have hs4:=zai w2 (.cells #[.slice Option.none 0 0,vi 0,v32 0,.slice Option.none 0 0] 340 (0,0))
 revert hB3 hE4 hs4
 generalize w2.alloc (.cells #[.slice Option.none 0 0,vi 0,v32 0,.slice Option.none 0 0] 340 (0,0))=w3
 intro hB3 hE4 hs4
 obtain⟨ad,cd,hdv',hcd,_⟩:=hdv.open
 refine zaK (P:=Tryz.prog) (t:=340) (l:=[ow,vi ty,v32 tl,dv]) hB3 rfl (fun v h=>by
  simp at h
  rcases h with rfl|rfl|rfl|rfl
  ·exact how
  ·rfl
  ·rfl
  ·rw[hdv'];rfl) rfl rfl ?_
 intro w4 hs5 hB5 hk5
 try simp only[go_sem]
 refine hK _ _ ?_;clear hK hgd;clear K;try clear gd
 have hE5:Ext w2 w4:=Keep.to_ext hE4 rfl (fun b hb=>by omega) hk5
 have hE14:=hE2.trans hE5
 have hEw4:=hE1.trans hE14
 have q3:zae w4 (some ⟨w2.heap.size,3,Option.none⟩)=some dv:=zce hB5 rfl
 have hdv4:=hdv.ext hE5
 have hdb4:BlkB w.heap.size w4 dv:=(hdb.ext hE5.size).mono hE1.size
 repeat refine c_r ?_
 refine rg0 ?_
 repeat refine c_r ?_
 by_cases hne:datC R n t≠ []
 ·rw[decide_eq_true hne]at hbb
  subst hbb
  refine zaG (t:=false) (vq0) (fun h=>by cases h) ?_
  intro _
  have hpos:0<(datC R n t).length:=List.length_pos_iff.2 hne
  have htk:((datC R n t).take 1).length=1:=by rw[List.length_take];omega
  rw[hdv']at hdv4 hdb4 q3
  have hcd':=hdv4.len.2
  have hd1:Rows 5 (DatAt w0) w4 (.slice ad 1 cd) ((datC R n t).take 1):=hdv4.take (by omega) (by omega)
  have h01:(0:Int)≤1:=by omega
  have h11:(1:Int)≤(cd:Int):=by omega
  repeat refine c_r ?_
  refine rg0 ?_
  refine zaB ?_
  intro w5 hE6 hs6 hA6
  have q3':=zaa hE6 q3
  have t1:Int.toNat 1=1:=rfl
  repeat refine c_r ?_
  refine rq ?_;intro gd K hgd hK
  try simp (disch:=first|omega|assumption|rfl) only[go_sem,q3',Nat.zero_add,h01,h11,t1,Nat.sub_zero,Nat.zero_mul,zaz,ite_self]
  refine⟨by kernel_rfl,?_⟩
  rw[show bdV Tryz.prog 340 [(1,vi t),(3,.slice ad 1 cd)]=some (.agg #[.slice Option.none 0 0,vi t,v32 0,.slice ad 1 cd]) from by kernel_rfl]
  try simp only[go_sem]
  refine Fn.mono ziv ?_
  rintro _ w6 ⟨rfl,hE7,hs7,hb7⟩
  try simp only[go_sem]
  refine hK _ _ ?_;clear hK hgd;clear K;try clear gd
  have hE47:=hE6.trans hE7
  have hEw6:=hEw4.trans hE47
  have e1:=hE1.size
  have e2:=hE14.size
  have e3:=hz.e0.size
  have hit:=zkE (C:=fun b=>b=w4.heap.size) (hz.e0.trans hEw6) hb7 rfl rfl (hd1.ext hE47) (fun b hb=>by omega) (by rw[htk];decide) (zbJ hR (t:=t) (n:=n) (fun d hd=>List.mem_of_mem_take hd))
  have hA7:=hE7.at hA6
  repeat refine c_r ?_
  refine zdS (g:=282) (cap:=#[.pointer (some ⟨w5.heap.size,0,Option.none⟩)]) (vq0) rfl hit (Keep.refl _ _) (Nat.le_refl _) (fun b hb=>by omega)
   (fun x U B args h=>by obtain⟨v,h,_⟩:=h;rw[h];rfl)
   (fun pre U B=>(∀b,¬U b)∧Keep (fun b=>b=w4.heap.size) w6 B∧∃tv,B.heap[w4.heap.size]? =some (.cells #[tv] 27 (0,0))∧Row w0 tv ((pre.getLast?.getD []).map vs))
   (fun _ _ _=>False) ?_ (fun _ _ _ _ h _=>h.elim) ?_ ?_ ?_ (fun _ _ _ _ _ _ h _=>h.elim)
  ·rintro pre U A B ⟨hU,hk,tv,h1,h2⟩ _ hk2
   have hk3:Keep (fun b=>b=w4.heap.size) w6 B:=⟨hk2.os.trans hk.os,hk2.tape.trans hk.tape,hk2.output.trans hk.output,Nat.le_trans hk.size hk2.size,fun b hb hne=>(hk2.block b (by have:=hk.size;omega) (by unfold span;omega)).trans (hk.block b hb hne),Nat.le_trans hk.drawn hk2.drawn⟩
   exact⟨hU,hk3,tv,(hk2.block _ (Array.getElem?_eq_some_iff.1 h1).1 (by unfold span;omega)).trans h1,h2⟩
  ·exact⟨fun b h=>h,Keep.refl _ _,_,hA7,⟨Option.none,0,rfl,Nat.le_refl _,fun j h=>absurd h (by simp)⟩⟩
  ·rintro lp pre U x A args ⟨suf,hxs⟩ hszA ⟨hU,hk,tv,h1,h2⟩ _ ⟨xv,rfl,hxr⟩
   obtain⟨ax,cx,hxv,_⟩:=id hxr
   refine rq ?_;intro gd K hgd hK
   try simp only[go_sem]
   refine hK _ _ ?_;clear hK hgd;clear K;try clear gd
   refine zap ?_
   refine⟨rfl,Keep.refl _ _,fun Y hY=>?_⟩
   have h1Y:=(hY.block _ (Array.getElem?_eq_some_iff.1 h1).1 (by unfold two;omega)).trans h1
   have hkY:Keep (fun b=>b=w4.heap.size) w6 Y:=⟨hY.os.trans hk.os,hY.tape.trans hk.tape,hY.output.trans hk.output,Nat.le_trans hk.size hY.size,fun b hb hne=>(hY.block b (by have:=hk.size;omega) (by unfold two;omega)).trans (hk.block b hb hne),Nat.le_trans hk.drawn hY.drawn⟩
   repeat refine c_r ?_
   refine rq ?_;intro gd K hgd hK
   try simp only[go_sem]
   refine zaR (P:=Tryz.prog) (t:=27) (j:=0) (l:=[tv]) h1Y (by simp) (by rw[hxv];rfl) rfl rfl ?_
   intro z hz' hbz hkz
   try simp only[go_sem]
   refine hK _ _ ?_;clear hK hgd;clear K;try clear gd
   simp only[List.set_cons_zero]at hbz
   repeat refine c_r ?_
   exact⟨U,⟨hU,hkY.trans hkz,xv,hbz,by simpa using hxr⟩,fun b hb=> .inl hb,hkz.mono (fun b _ h=> .inl h)⟩
  ·rintro xs U B rfl hszB _ ⟨hU,hk,tv,h1,h2⟩ hD
   have hdB:Rows 5 (DatAt w0) B (.slice ad 1 cd) ((datC R n t).take 1):=(hd1.ext hE47).blocks fun a m c hv=>by
    injection hv with g1
    subst g1
    have:=hdb4 a _ _ rfl
    exact hk.block _ (by have:=hE47.size;omega) (by omega)
   have hB5':B.heap[w2.heap.size]? =some (.cells [ow,vi ty,v32 tl,dv].toArray 340 (0,0)):=(hk.block _ (by have:=hE5.size;have:=hE47.size;omega) (by omega)).trans (Ext.at hE47 hB5)
   have q3B:zae B (some ⟨w2.heap.size,3,Option.none⟩)=some (.slice ad (datC R n t).length cd):=zce hB5' (by rw[hdv'];rfl)
   have q4B:zae B (some ⟨w4.heap.size,0,Option.none⟩)=some tv:=zab h1 rfl
   repeat refine c_r ?_
   refine zaH (fun _=>false) [(0,true),(1,true),(2,true),(4,true),(3,false),(5,true),(6,true),(7,true)] NoS mixed (by kernel_rfl) ?_;intro gd K x hgd hx hxe hK;clear hxe
   have r1:=zaa hx q3B
   have r2:=zaa hx q4B
   simp (disch:=first|omega|assumption|rfl) only[go_sem,r1,r2,Nat.zero_add,h01,h11,t1,Nat.sub_zero,Nat.zero_mul,zaz,ite_self]
   refine Fn.mono (P_cd.Clip_ok (by omega)) ?_
   rintro _ y0 ⟨rfl,hy0⟩
   refine⟨.inr (by rw[hy0];exact Keep.refl _ _),?_⟩
   rw[hy0]
   clear hy0 y0
   simp (disch:=first|omega|assumption|rfl) only[go_sem,r1,r2,Nat.zero_add]
   refine hK _ _ ?_;clear hK hgd;clear K;try clear gd
   repeat refine c_r ?_
   refine zba (.inr rfl) Tryz.ntmps248 rfl (Ext.at hx hD) ?_
   intro Z hkZ hsZ
   have hEwB:Ext w B:=Keep.to_ext hEw6 rfl (fun b hb=>by omega) hk
   have hDlt:w6.heap.size<B.heap.size:=(Array.getElem?_eq_some_iff.1 hD).1
   have hrx:Rows 5 (DatAt w0) x (.slice ad 1 1) ((datC R n t).take 1):=by
    have h9:=(hdB.ext hx).take (m:=1) (c2:=1) (Nat.le_refl 1) (Nat.le_refl 1)
    rw[List.take_take]at h9
    exact h9
   refine⟨_,zak (v:= .slice ad 1 1) (vr0) (zak (v:=tv) (vr0) (zak (v:= .bool true) (vr0) zav)),Keep.to_ext (hEwB.trans hx) rfl (fun b hb=>by have:=hE47.size;omega) hkZ,_,tv,by rw[decide_eq_true hne];rfl,?_,?_,?_⟩
   ·exact hrx.blocks fun a m c hv=>by
     injection hv with g1
     subst g1
     have:=hdb4 a _ _ rfl
     exact hkZ.block _ (by have:=hx.size;have:=hk.size;have:=hE47.size;omega) (by have:=hE47.size;omega)
   ·exact(hdb4.same.ext (by have:=hx.size;have:=hk.size;have:=hE47.size;omega))
   ·exact h2
 ·have hnil:datC R n t=[]:=by simpa using hne
  rw[decide_eq_false hne]at hbb
  subst hbb
  refine zaG (t:=true) (vq0) ?_ (fun h=>by cases h)
  intro _
  repeat refine c_r ?_
  refine rg0 ?_
  repeat refine c_r ?_
  refine zaC (.inr rfl) Tryz.ntmps248 rfl (zak (v:= .slice Option.none 0 0) (vr0) (zak (v:= .slice Option.none 0 0) (vr0) (zak (v:= .bool false) (vr0) zav))) ?_
  refine⟨hEw4,_,_,by rw[decide_eq_false hne];rfl,by rw[hnil];exact Rows.nil _ _ _,BlkB.nil,?_⟩
  have h0:toN t (List.take 1 (datC R n t))=[]:=by
   rw[hnil]
   unfold toN zbB zau
   split<;>rfl
  rw[h0]
  exact⟨Option.none,0,rfl,Nat.le_refl _,fun j h=>absurd h (by simp)⟩
theorem zgT{y:Addr}{n:Nat}(h:y.block<n):offS (zd8 n) (some y):=fun a ha hb=>by
 cases ha
 unfold zd8 at hb
 exact absurd (show n≤y.block from hb) (by omega)
theorem zfC(n:Nm)(k:Nat):zaw (n.drop k)=(zaw n).drop k:=by unfold zaw;rw[List.map_drop]
theorem ziW{n o:Nm}{i:Nat}(hi:i≤n.length):za6 (n.drop i) o=(decide (i≤n.length - o.length) && za6 n o):=by
 unfold za6
 rw[Bool.eq_iff_iff]
 simp only[Bool.and_eq_true,decide_eq_true_eq,List.length_drop,List.drop_drop]
 constructor
 ·rintro⟨h1,h2⟩
  refine⟨by omega,by omega,?_⟩
  rw[show n.length - o.length=i+(n.length - i - o.length) from by omega];exact h2
 ·rintro⟨h1,h2,h3⟩
  refine⟨by omega,?_⟩
  rw[show i+(n.length - i - o.length)=n.length - o.length from by omega];exact h3
def zfB(R:List RecL)(hs:List Nm):List (Nm×List DatL):=hs.filterMap fun h=>if zct R h=[] then Option.none else some (h,zct R h)
def zeP(R:List RecL)(cut:Nm):ResL:=⟨4,datC R cut 2,cut,false,zfB R (zbB 2 (datC R cut 2))⟩
theorem zfA(R:List RecL)(a:List Nm)(h:Nm):zfB R (a++ [h])=zfB R a++(if zct R h=[] then [] else [(h,zct R h)]):=by
 unfold zfB
 rw[List.filterMap_append]
 congr 1
 by_cases hg:zct R h=[]
 ·simp[hg]
 ·simp[hg]
abbrev GlX:=(Nm×List DatL)×(Value×Value)
def glC(cs:List Value)(x:GlX):Prop:=cs=[x.2.1,x.2.2]∧one x.2.1=true∧one x.2.2=true
theorem zix:zeq 2 glC:=by
 refine⟨fun h=>?_,fun h=>?_⟩
 ·rw[h.1];rfl
 ·intro q hq
  rw[h.1]at hq
  simp at hq
  rcases hq with rfl|rfl
  ·exact h.2.1
  ·exact h.2.2
theorem zeI(t:Int)(ds:List DatL):(zau t ds).length≤ds.length:=by
 unfold zau
 split
 ·exact List.length_filterMap_le _ _
 ·simp
theorem zbR:∀(had:List (List UInt8)) (l:List Nm),∀x∈zbt had l,x∈l
 |_,[],x,h=>by cases h
 |had,y::l,x,h=>by
  unfold zbt at h
  split at h
  ·exact List.mem_cons_of_mem _ (zbR had l x h)
  ·rcases List.mem_cons.1 h with rfl|h
   ·exact List.mem_cons_self ..
   ·exact List.mem_cons_of_mem _ (zbR _ l x h)
theorem zc3:∀(had:List (List UInt8)) (l:List Nm),(zbt had l).length≤l.length
 |_,[]=>Nat.le_refl _
 |had,y::l=>by
  unfold zbt
  split
  ·have:=zc3 had l;rw[List.length_cons];omega
  ·have:=zc3 (zbh y::had) l;rw[List.length_cons,List.length_cons];omega
theorem zfz(R:List RecL)(hs:List Nm):(zfB R hs).length≤hs.length:=List.length_filterMap_le _ _
theorem Rows.mapM{α β:Type}{k:Nat}{C:List Value→α→Prop}{C':List Value→β→Prop}{w:World}{v:Value}{xs:List α}(h:Rows k C w v xs)(f:α→β)(hC:∀cs x,x∈xs→C cs x→C' cs (f x)):Rows k C' w v (xs.map f):=by
 obtain⟨L,h1,h2,h3⟩:=h
 refine⟨L,h1,by rw[List.length_map];exact h2,fun i h h'=>?_⟩
 rw[List.length_map]at h'
 rw[List.getElem_map]
 exact hC _ _ (List.getElem_mem h') (h3 i h h')
structure RfI(w0 w:World)(D b2 b4 b7:Nat)(ov lv dv sv:Value)(cut:Nm)(R:List RecL)(ds:List DatL)(pre:List Nm)(U:Nat→Prop)(A:World):Prop where
 e:Ext w A
 sz:D≤A.heap.size
 z:A.heap[b2]? =some (.cells #[ov,lv] 122 (0,0))
 c:A.heap[b4]? =some (.cells #[vi 0,.slice Option.none 0 0,.slice Option.none 0 0,.bool false,.slice Option.none 0 0] 184 (0,0))
 d:Rows 5 (DatAt w0) A dv ds
 s:Row A sv (cut.map vs)
 g:∃gv,∃G:List GlX,A.heap[b7]? =some (.cells #[vi 4,dv,sv,.bool false,gv] 184 (0,0))∧G.map Prod.fst=zfB R pre∧Owns 2 glC (D+3) A 382 gv G∧(∀x∈G,Row w0 x.2.1 (x.1.1.map vs)∧Rows 5 (DatAt w0) A x.2.2 x.1.2∧BlkB (D+3) A x.2.2∧∀a n c,x.2.2= .slice (some a) n c→some a.block≠gv.ownBlock)∧∀b,U b↔some b=gv.ownBlock
theorem Refer_ok{w0 w:World}{ov lv nv:Value}{o cut:Nm}{R:List RecL}(hz:ZnAt w0 w ov lv o R)(hR:zea R)(hn:Row w nv (cut.map vs))(hok:NmS cut):
  Fn Tryz.prog 198 #[.agg #[ov,lv],nv] w (fun v w'=>Ext w w'∧∃cs,v= .agg cs.toArray∧ResB w0 w.heap.size w' cs (zeP R cut)):=by
 obtain⟨ao,co,hov,_⟩:=id hz.org
 obtain⟨al,cl,hlv,_⟩:=hz.recs.open
 rw[hov,hlv]
 refine enter Tryz.func198 Tryz.ntmps198 rfl rfl ?_
 repeat refine c_r ?_
 refine rg0 ?_
 repeat refine c_r ?_
 rw[←hov,←hlv]
 rw[zai]
 refine zaM ?_
 intro w1 hE1 hs1 hA hC
 have p1:zae w1 (some ⟨w.heap.size,1,Option.none⟩)=some lv:=zab hA rfl
 have hz1:=hz.ext hE1
 refine rq ?_;intro gd K hgd hK
 try simp (disch:=first|omega|assumption|rfl) only[go_sem,p1,Nat.zero_add]
 refine Fn.mono (Of_ok hz1.e0 hz1.recs (hn.ext hE1) hok.lb (by have:=hok.len;omega) hz.ok hz.rl) ?_
 rintro _ w2 ⟨hE2,ow,ty,tl,dv,rfl,how,hty,hdv,hdb⟩
 have hdd:(ofC R cut 2).map RecL.dat=datC R cut 2:=rfl
 rw[hdd]at hdv
 obtain⟨bb,hbb⟩:∃bb:Bool,decide (ofC R cut 2≠ [])=bb:=⟨_,rfl⟩
 rw[hbb]
 try simp only[go_sem]
 have hB3:=zas w2 (.cells #[.slice Option.none 0 0,vi 0,v32 0,.slice Option.none 0 0] 340 (0,0))
 have hE4:=Ext.alloc w2 (.cells #[.slice Option.none 0 0,vi 0,v32 0,.slice Option.none 0 0] 340 (0,0))
 have hs4:=zai w2 (.cells #[.slice Option.none 0 0,vi 0,v32 0,.slice Option.none 0 0] 340 (0,0))
 revert hB3 hE4 hs4
 generalize w2.alloc (.cells #[.slice Option.none 0 0,vi 0,v32 0,.slice Option.none 0 0] 340 (0,0))=w3
 intro hB3 hE4 hs4
 obtain⟨ad,cd,hdv',hcd,_⟩:=hdv.open
 refine zaK (P:=Tryz.prog) (t:=340) (l:=[ow,vi ty,v32 tl,dv]) hB3 rfl (fun v h=>by
  simp at h
  rcases h with rfl|rfl|rfl|rfl
  ·exact how
  ·rfl
  ·rfl
  ·rw[hdv'];rfl) rfl rfl ?_
 intro w4 hs5 hB5 hk5
 try simp only[go_sem]
 refine hK _ _ ?_;clear hK hgd;clear K;try clear gd
 have hE5:Ext w2 w4:=Keep.to_ext hE4 rfl (fun b hb=>by omega) hk5
 have hE14:=hE2.trans hE5
 have hEw4:=hE1.trans hE14
 have q3:zae w4 (some ⟨w2.heap.size,3,Option.none⟩)=some dv:=zce hB5 rfl
 have hdv4:=hdv.ext hE5
 have hdb4:BlkB w.heap.size w4 dv:=(hdb.ext hE5.size).mono hE1.size
 have e1:=hE1.size
 have e2:=hE14.size
 clear hB3 hE4 hs4 hk5 hs5
 repeat refine c_r ?_
 refine zaA (Q:=fun e σ' ds' v'=>e= .normal∧ds'=[]∧σ' 2= .pointer (some ⟨w.heap.size,0,Option.none⟩)∧σ' 4= .pointer (some ⟨w.heap.size+1,0,Option.none⟩)∧σ' 5= .pointer (some ⟨w2.heap.size,0,Option.none⟩)∧Ext w4 v'∧∃b7 sv,σ' 7= .pointer (some ⟨b7,0,Option.none⟩)∧w4.heap.size≤b7∧v'.heap[b7]? =some (.cells #[vi 4,dv,sv,.bool false,.slice Option.none 0 0] 184 (0,0))∧Row v' sv (cut.map vs)∧BlkB w4.heap.size v' sv∧∀a n c,sv= .slice (some a) n c→a.block≠b7) ?_ ?_
 ·refine ziM (fun i=>i==7) (.run [(0,true),(3,true),(4,true)] (.fork 4 [1,6] (fun i=>if i=1 then(.run [] (.fork 3 [2,6] (fun i=>if i=2 then(.run [(5,true),(6,false),(7,false)] .fin) else(.run [(2,false),(5,true),(7,false)] .fin)))) else(.run [(1,false),(2,false),(5,true),(7,false)] .fin)))) NoS mixed (by kernel_rfl) ?_;intro gd K x hgd hx hxe hK;clear hxe
  have q3x:=zaa hx q3
  simp (disch:=first|omega|assumption|rfl) only[go_sem,q3x,Nat.zero_add]
  simp only[zbM,zca];refine⟨?_,?_⟩
  ·simp (disch:=first|omega|assumption|rfl) only[go_sem]
   refine Fn.mono (zcY (hn.ext (hEw4.trans (hx))) hok.len) ?_
   rintro u y1 ⟨hou,hy1⟩
   refine⟨.inr hy1,?_⟩
   obtain⟨au,cu,hu'⟩:=hou.slice
   have hur:=hou.row
   have hub:=hou.blk
   rw[hu']at hur hub
   rw[List.length_map]at hu' hur hub
   rw[hu']
   obtain⟨_,_,he,hcc,hgg⟩:=id hur
   injection he with g1 g2 g3
   subst g1 g3
   rw[List.length_map]at hcc
   have hrc:Row y1 (.slice au cut.length cut.length) (cut.map vs):=⟨au,cut.length,by rw[List.length_map],by rw[List.length_map];exact Nat.le_refl _,hgg⟩
   have hrb:BlkB x.heap.size y1 (.slice au cut.length cut.length):=hub.same
   have hys1:=hy1.size
   simp (disch:=first|omega|assumption|rfl) only[go_sem]
   simp only[zbM,zca];refine⟨?_,?_⟩
   ·simp (disch:=first|omega|assumption|rfl) only[go_sem]
    refine Fn.mono (P_cs.Clip_ok hcc) ?_
    rintro _ z0 ⟨rfl,hz0⟩
    refine⟨.inr (by rw[hz0];exact Keep.refl _ _),?_⟩
    rw[hz0]
    clear hz0 z0
    simp (disch:=first|omega|assumption|rfl) only[go_sem]
    refine⟨by kernel_rfl,?_⟩
    rw[hdv',show bdV Tryz.prog 184 [(0,vi 4),(2,.slice au cut.length cut.length),(1,.slice ad (datC R cut 2).length cd)]=some (.agg #[vi 4,.slice ad (datC R cut 2).length cd,.slice au cut.length cut.length,.bool false,.slice Option.none 0 0]) from by kernel_rfl]
    try simp (disch:=first|omega|assumption|rfl) only[go_sem]
    refine⟨.inr (Ext.alloc y1 _),?_⟩
    have hB7:=zas y1 (.cells #[vi 0,.slice Option.none 0 0,.slice Option.none 0 0,.bool false,.slice Option.none 0 0] 184 (0,0))
    have hy3:=Ext.alloc y1 (.cells #[vi 0,.slice Option.none 0 0,.slice Option.none 0 0,.bool false,.slice Option.none 0 0] 184 (0,0))
    have hs7:=zai y1 (.cells #[vi 0,.slice Option.none 0 0,.slice Option.none 0 0,.bool false,.slice Option.none 0 0] 184 (0,0))
    revert hB7 hy3 hs7
    generalize y1.alloc (.cells #[vi 0,.slice Option.none 0 0,.slice Option.none 0 0,.bool false,.slice Option.none 0 0] 184 (0,0))=y3
    intro hB7 hy3 hs7
    have hys3:=hy3.size
    try simp (disch:=first|omega|assumption|rfl) only[go_sem]
    refine zaK (P:=Tryz.prog) (t:=184) (l:=[vi 4,.slice ad (datC R cut 2).length cd,.slice au cut.length cut.length,.bool false,.slice Option.none 0 0]) hB7 rfl (fun v h=>by simp at h;rcases h with rfl|rfl|rfl|rfl|rfl<;>rfl) rfl rfl ?_
    intro z hz' hbz hkz
    refine⟨.inl rfl,?_⟩
    simp (disch:=first|omega|assumption|rfl) only[go_sem]
    have hxs:=hx.size
    have hav:∀a n c,Value.slice au cut.length cut.length= .slice (some a) n c→a.block≠y1.heap.size:=fun a n c hv=>by have h1:=hrb a n c hv;omega
    exact hK _ _ ⟨rfl,rfl,vq0,vq0,vq0,Keep.to_ext (((hx).trans hy1).trans hy3) rfl (fun b hb=>by omega) hkz,y1.heap.size,.slice au cut.length cut.length,vq0,by omega,by rw[hdv'];exact hbz,(hrc.ext hy3).blocks (fun a n c hv=>hkz.block _ (by have h1:=(hrb.ext (hy3).size) a n c hv;omega) (hav a n c hv)),(((hrb.ext (hy3).size)).ext (by omega)).mono (by omega),hav⟩
   ·simp (disch:=first|omega|assumption|rfl) only[go_sem]
    refine⟨.inr (Ext.alloc y1 _),?_⟩
    have hB7:=zas y1 (.cells #[vi 0,.slice Option.none 0 0,.slice Option.none 0 0,.bool false,.slice Option.none 0 0] 184 (0,0))
    have hy2:=Ext.alloc y1 (.cells #[vi 0,.slice Option.none 0 0,.slice Option.none 0 0,.bool false,.slice Option.none 0 0] 184 (0,0))
    have hs7:=zai y1 (.cells #[vi 0,.slice Option.none 0 0,.slice Option.none 0 0,.bool false,.slice Option.none 0 0] 184 (0,0))
    revert hB7 hy2 hs7
    generalize y1.alloc (.cells #[vi 0,.slice Option.none 0 0,.slice Option.none 0 0,.bool false,.slice Option.none 0 0] 184 (0,0))=y2
    intro hB7 hy2 hs7
    have hys2:=hy2.size
    try simp (disch:=first|omega|assumption|rfl) only[go_sem]
    refine Fn.mono (P_cs.Clip_ok hcc) ?_
    rintro _ z0 ⟨rfl,hz0⟩
    refine⟨.inr (by rw[hz0];exact Keep.refl _ _),?_⟩
    rw[hz0]
    clear hz0 z0
    simp (disch:=first|omega|assumption|rfl) only[go_sem]
    refine⟨by kernel_rfl,?_⟩
    rw[hdv',show bdV Tryz.prog 184 [(0,vi 4),(2,.slice au cut.length cut.length),(1,.slice ad (datC R cut 2).length cd)]=some (.agg #[vi 4,.slice ad (datC R cut 2).length cd,.slice au cut.length cut.length,.bool false,.slice Option.none 0 0]) from by kernel_rfl]
    try simp (disch:=first|omega|assumption|rfl) only[go_sem]
    refine zaK (P:=Tryz.prog) (t:=184) (l:=[vi 4,.slice ad (datC R cut 2).length cd,.slice au cut.length cut.length,.bool false,.slice Option.none 0 0]) hB7 rfl (fun v h=>by simp at h;rcases h with rfl|rfl|rfl|rfl|rfl<;>rfl) rfl rfl ?_
    intro z hz' hbz hkz
    refine⟨.inl rfl,?_⟩
    simp (disch:=first|omega|assumption|rfl) only[go_sem]
    have hxs:=hx.size
    have hav:∀a n c,Value.slice au cut.length cut.length= .slice (some a) n c→a.block≠y1.heap.size:=fun a n c hv=>by have h1:=hrb a n c hv;omega
    exact hK _ _ ⟨rfl,rfl,vq0,vq0,vq0,Keep.to_ext (((hx).trans hy1).trans hy2) rfl (fun b hb=>by omega) hkz,y1.heap.size,.slice au cut.length cut.length,vq0,by omega,by rw[hdv'];exact hbz,(hrc.ext hy2).blocks (fun a n c hv=>hkz.block _ (by have h1:=(hrb.ext (hy2).size) a n c hv;omega) (hav a n c hv)),(((hrb.ext (hy2).size)).ext (by omega)).mono (by omega),hav⟩
  ·simp (disch:=first|omega|assumption|rfl) only[go_sem]
   refine⟨.inr (Ext.alloc x _),?_⟩
   have hB7:=zas x (.cells #[vi 0,.slice Option.none 0 0,.slice Option.none 0 0,.bool false,.slice Option.none 0 0] 184 (0,0))
   have hy1:=Ext.alloc x (.cells #[vi 0,.slice Option.none 0 0,.slice Option.none 0 0,.bool false,.slice Option.none 0 0] 184 (0,0))
   have hs7:=zai x (.cells #[vi 0,.slice Option.none 0 0,.slice Option.none 0 0,.bool false,.slice Option.none 0 0] 184 (0,0))
   revert hB7 hy1 hs7
   generalize x.alloc (.cells #[vi 0,.slice Option.none 0 0,.slice Option.none 0 0,.bool false,.slice Option.none 0 0] 184 (0,0))=y1
   intro hB7 hy1 hs7
   have hys1:=hy1.size
   try simp (disch:=first|omega|assumption|rfl) only[go_sem]
   refine Fn.mono (zcY (hn.ext (hEw4.trans ((hx).trans hy1))) hok.len) ?_
   rintro u y2 ⟨hou,hy2⟩
   refine⟨.inr hy2,?_⟩
   obtain⟨au,cu,hu'⟩:=hou.slice
   have hur:=hou.row
   have hub:=hou.blk
   rw[hu']at hur hub
   rw[List.length_map]at hu' hur hub
   rw[hu']
   obtain⟨_,_,he,hcc,hgg⟩:=id hur
   injection he with g1 g2 g3
   subst g1 g3
   rw[List.length_map]at hcc
   have hrc:Row y2 (.slice au cut.length cut.length) (cut.map vs):=⟨au,cut.length,by rw[List.length_map],by rw[List.length_map];exact Nat.le_refl _,hgg⟩
   have hrb:BlkB y1.heap.size y2 (.slice au cut.length cut.length):=hub.same
   have hys2:=hy2.size
   simp (disch:=first|omega|assumption|rfl) only[go_sem]
   refine Fn.mono (P_cs.Clip_ok hcc) ?_
   rintro _ z0 ⟨rfl,hz0⟩
   refine⟨.inr (by rw[hz0];exact Keep.refl _ _),?_⟩
   rw[hz0]
   clear hz0 z0
   simp (disch:=first|omega|assumption|rfl) only[go_sem]
   refine⟨by kernel_rfl,?_⟩
   rw[hdv',show bdV Tryz.prog 184 [(0,vi 4),(2,.slice au cut.length cut.length),(1,.slice ad (datC R cut 2).length cd)]=some (.agg #[vi 4,.slice ad (datC R cut 2).length cd,.slice au cut.length cut.length,.bool false,.slice Option.none 0 0]) from by kernel_rfl]
   try simp (disch:=first|omega|assumption|rfl) only[go_sem]
   refine zaK (P:=Tryz.prog) (t:=184) (l:=[vi 4,.slice ad (datC R cut 2).length cd,.slice au cut.length cut.length,.bool false,.slice Option.none 0 0]) (Ext.at hy2 hB7) rfl (fun v h=>by simp at h;rcases h with rfl|rfl|rfl|rfl|rfl<;>rfl) rfl rfl ?_
   intro z hz' hbz hkz
   refine⟨.inl rfl,?_⟩
   simp (disch:=first|omega|assumption|rfl) only[go_sem]
   have hxs:=hx.size
   have hav:∀a n c,Value.slice au cut.length cut.length= .slice (some a) n c→a.block≠x.heap.size:=fun a n c hv=>by have h1:=hrb a n c hv;omega
   exact hK _ _ ⟨rfl,rfl,vq0,vq0,vq0,Keep.to_ext (((hx).trans hy1).trans hy2) rfl (fun b hb=>by omega) hkz,x.heap.size,.slice au cut.length cut.length,vq0,by omega,by rw[hdv'];exact hbz,hrc.blocks (fun a n c hv=>hkz.block _ (by have h1:=hrb a n c hv;omega) (hav a n c hv)),((hrb).ext (by omega)).mono (by omega),hav⟩
 rintro _ σ1 _ w5 ⟨rfl,rfl,h2,h4,h5,hE6,b7,sv,h7,hb7,hB7,hsv,hsb,hsne⟩
 have hEw5:=hEw4.trans hE6
 have d5:=zah (n:=4) (Ext.at hE6 hB5) rfl
 have hdv5:=hdv4.ext hE6
 have hb7l:b7<w5.heap.size:=(Array.getElem?_eq_some_iff.1 hB7).1
 have hsA5:=Ext.at (hE14.trans hE6) hA
 have hsC5:=Ext.at (hE14.trans hE6) hC
 have e3:=hz.e0.size
 have e6:=hE6.size
 have hdlow:∀a n c,dv= .slice (some a) n c→a.block<w4.heap.size:=fun a n c hv=>(hdb4 a n c hv).2
 repeat refine c_r ?_
 refine rq ?_;intro gd K hgd hK
 try simp (disch:=first|omega|assumption|rfl) only[go_sem,h5,d5]
 refine Fn.mono ziv ?_
 rintro _ w6 ⟨rfl,hE7,hs7,hb8⟩
 try simp only[go_sem]
 refine hK _ _ ?_;clear hK hgd;clear K;try clear gd
 have hEw6:=hEw5.trans hE7
 have tyEq:datC R cut 2≠ []→ty=2:=fun h=>hty (zh0.2 h)
 -- the hosts,whatever the type says of no records
 have hH:zbB ty (datC R cut 2)=zbB 2 (datC R cut 2):=by
  by_cases hne:datC R cut 2=[]
  ·rw[hne];unfold zbB zau;split<;>split<;>rfl
  ·rw[tyEq hne]
 have hit:=zkE (C:=fun b=>b=b7) (hz.e0.trans hEw6) hb8 how rfl (hdv5.ext hE7) (fun b hb=>by omega) (by have:=zb9 (R:=R) (n:=cut) (t:=2);have:=hz.rl;omega) (zbJ hR (t:=2) (n:=cut) (fun d hd=>hd))
 rw[hH]at hit
 obtain⟨D,hD⟩:∃D,w6.heap.size=D:=⟨_,rfl⟩
 have hHl:(zbB 2 (datC R cut 2)).length≤1000000000:=by
  have h1:=zc3 [] (zau 2 (datC R cut 2))
  have h2:=zeI 2 (datC R cut 2)
  have h3:=zb9 (R:=R) (n:=cut) (t:=2)
  have h4:=hz.rl
  unfold zbB;omega
 have hHg:∀x∈zbB 2 (datC R cut 2),NmG x:=fun x hx=>zbJ hR (t:=2) (n:=cut) (fun d hd=>hd) x (zbR _ _ x hx)
 have hslow:∀a n c,sv= .slice (some a) n c→a.block<w5.heap.size:=fun a n c hv=>(hsb a n c hv).2
 repeat refine c_r ?_
 refine zdS (g:=282) (cap:=#[.pointer (some ⟨w5.heap.size,0,Option.none⟩)]) (vq0) rfl hit (Keep.refl _ _) (Nat.le_refl _) (fun b hb=>by omega)
  (fun x U B args h=>by obtain⟨v,h,_⟩:=h;rw[h];rfl)
  (RfI w0 w D w.heap.size (w.heap.size+1) b7 ov lv dv sv cut R (datC R cut 2))
  (fun _ _ _=>False) ?_ (fun _ _ _ _ h _=>h.elim) ?_ ?_ ?_ (fun _ _ _ _ _ _ h _=>h.elim)
 ·rintro pre U A B ⟨i1,isz,i2,i3,i4,i5,gv,G,i6,i7,i8,i9,i10⟩ hU hk
  have hsA:=(Array.getElem?_eq_some_iff.1 i6).1
  have hks:=hk.size
  have hlow:∀b,b<D→¬span w6.heap.size (2+1) b:=fun b hb=>by unfold span;omega
  refine⟨Keep.to_ext i1 rfl (fun b hb=>by unfold span at hb;omega) hk,by omega,(hk.block _ (Array.getElem?_eq_some_iff.1 i2).1 (hlow _ (by omega))).trans i2,(hk.block _ (Array.getElem?_eq_some_iff.1 i3).1 (hlow _ (by omega))).trans i3,?_,?_,gv,G,(hk.block _ hsA (hlow _ (by omega))).trans i6,i7,i8.keep hk (fun b hb h=>by have:=(i8.ge hb).1;unfold span at h;omega),fun x hx=>?_,i10⟩
  ·exact i4.blocks fun a n c hv=>by
    have h1:=hdlow a n c hv
    exact hk.block _ (by have:=i1.size;omega) (hlow _ (by omega))
  ·exact i5.blocks fun a n c hv=>by
    have h1:=hslow a n c hv
    exact hk.block _ (by omega) (hlow _ (by omega))
  ·obtain⟨j1,j2,j3,j4⟩:=i9 x hx
   exact⟨j1,j2.keep hk j3 (fun b hb _=>by unfold span;omega),j3.ext hk.size,j4⟩
 ·exact⟨hEw6,by omega,Ext.at hE7 hsA5,Ext.at hE7 hsC5,hdv5.ext hE7,hsv.ext hE7,.slice Option.none 0 0,[],Ext.at hE7 hB7,rfl,Owns.nil _ _ _ _ _,fun x h=>absurd h (by simp),fun b=>⟨fun h=>h.elim,fun h=>by cases h⟩⟩
 ·rintro lp pre U x A args ⟨suf,hxs⟩ hszA ⟨i1,isz,i2,i3,i4,i5,gv,G,i6,i7,i8,i9,i10⟩ hUb ⟨xv,rfl,hxr⟩
  obtain⟨ax,cx,hxv,_⟩:=id hxr
  have hxg:NmG x:=hHg x (by rw[hxs];simp)
  have hpl:pre.length+1≤(zbB 2 (datC R cut 2)).length:=by rw[hxs];simp
  refine rq ?_;intro gd K hgd hK
  try simp only[go_sem]
  refine hK _ _ ?_;clear hK hgd;clear K;try clear gd
  refine zap ?_
  refine⟨rfl,Keep.refl _ _,fun Y hY=>?_⟩
  have hlow:∀b,b<D→¬two w6.heap.size b:=fun b hb=>by unfold two;omega
  have hhigh:∀b,D+2≤b→¬two w6.heap.size b:=fun b hb=>by unfold two;omega
  have hYs:=hY.size
  have k2:=(hY.block _ (Array.getElem?_eq_some_iff.1 i2).1 (hlow _ (by omega))).trans i2
  have k3:=(hY.block _ (Array.getElem?_eq_some_iff.1 i3).1 (hlow _ (by omega))).trans i3
  have k6:=(hY.block _ (Array.getElem?_eq_some_iff.1 i6).1 (hlow _ (by omega))).trans i6
  have k4:Rows 5 (DatAt w0) Y dv (datC R cut 2):=i4.blocks fun a n c hv=>hY.block _ (by have:=hdlow a n c hv;omega) (hlow _ (by have:=hdlow a n c hv;omega))
  have k5:Row Y sv (cut.map vs):=i5.blocks fun a n c hv=>hY.block _ (by have:=hslow a n c hv;omega) (hlow _ (by have:=hslow a n c hv;omega))
  have k8:=i8.keep hY (fun b hb=>hhigh b (by have:=(i8.ge hb).1;omega))
  have k9:∀x∈G,Row w0 x.2.1 (x.1.1.map vs)∧Rows 5 (DatAt w0) Y x.2.2 x.1.2∧BlkB (D+3) Y x.2.2∧∀a n c,x.2.2= .slice (some a) n c→some a.block≠gv.ownBlock:=fun x hx=>by
   obtain⟨j1,j2,j3,j4⟩:=i9 x hx
   exact⟨j1,j2.keep hY j3 (fun b hb _=>hhigh b (by omega)),j3.ext hYs,j4⟩
  have hwY:Ext w Y:=Keep.to_ext i1 rfl (fun b hb=>by unfold two at hb;omega) hY
  have hw0Y:=hz.e0.trans hwY
  have d2:=zah (n:=2) (l:=[ov,lv]) k2 rfl
  have hzY:=hz.ext hwY
  clear i1 i2 i3 i4 i5 i6 i8 i9
  repeat refine c_r ?_
  refine rq ?_;intro gd K hgd hK
  try simp (disch:=first|omega|assumption|rfl) only[go_sem,h2,d2]
  refine Fn.mono (Glue_ok hzY (hxr.ext hw0Y) hxg.m.s) ?_
  rintro gl Y1 ⟨hY1,hgr,hgb⟩
  obtain⟨ag,cg,hgv,hcg,_⟩:=hgr.open
  try simp only[go_sem]
  refine hK _ _ ?_;clear hK hgd;clear K;try clear gd
  have hY1s:=hY1.size
  repeat refine c_r ?_
  refine rg1 hgv ?_
  repeat refine c_r ?_
  refine wc0 ?_ ?_
  ·intro hlt
   simp only[decide_eq_true_eq]at hlt
   have hgne:zct R x≠ []:=List.length_pos_iff.1 (by omega)
   have k61:=Ext.at hY1 k6
   have g4:zae Y1 (some ⟨b7,4,Option.none⟩)=some gv:=zce (l:=[vi 4,dv,sv,.bool false,gv]) k61 rfl
   have hgx:one xv=true:=by rw[hxv];rfl
   have hgo:one gl=true:=by rw[hgv];rfl
   repeat refine c_r ?_
   refine rq ?_;intro gd K hgd hK
   try simp (disch:=first|omega|assumption|rfl) only[go_sem,h7,g4,Nat.zero_add]
   rw[hxv]
   refine⟨by kernel_rfl,?_⟩
   rw[show bdV Tryz.prog 382 [(0,.slice ax (x.map vs).length cx),(1,.slice ag (zct R x).length cg)]=some (.agg #[.slice ax (x.map vs).length cx,.slice ag (zct R x).length cg]) from by kernel_rfl]
   rw[←hxv,←hgv]
   try simp (disch:=first|omega|assumption|rfl) only[go_sem,h7,g4,Nat.zero_add]
   refine za9 (a:=((x,zct R x),(xv,gl))) (l:=[xv,gl]) zix (by rfl) (by rfl) (by rfl) (by rfl) ⟨rfl,hgx,hgo⟩ (by decide) ?_
   intro Y2 hY2 hsY2 hoY2
   try simp (disch:=first|omega|assumption|rfl) only[go_sem,h7,g4,Nat.zero_add]
   have hGl:G.length≤pre.length:=by
    have h1:=congrArg List.length i7
    rw[List.length_map]at h1
    have h2:=zfz R pre
    omega
   refine zaT zix ((k8.ext hY1).ext hY2) hoY2.rows (by rfl) (by rfl) (by rfl) (by rfl) (by rfl) (by rfl) (by decide) (vr0) (vr0) (by rw[List.length_singleton];omega) (by decide) (by omega) ?_
   intro gv' Y3 hgv' _ hkY3 hfr
   try simp (disch:=first|omega|assumption|rfl) only[go_sem,h7,Nat.zero_add]
   have hown:∀b,some b=gv.ownBlock→D+3≤b∧b<Y.heap.size:=fun b hb=>k8.ge hb
   have hb7o:¬some b7=gv.ownBlock:=fun h=>by have:=hown b7 h;omega
   have k63:=(hkY3.block b7 (by omega) hb7o).trans (Ext.at hY2 k61)
   obtain⟨ag',cg',hgv'',_⟩:=hgv'.rows.open
   refine zaR (P:=Tryz.prog) (t:=182) (j:=4) (l:=[vi 4,dv,sv,.bool false,gv]) k63 (by simp) (by rw[hgv''];rfl) rfl rfl ?_
   intro Y4 hsY4 hbY4 hkY4
   try simp only[go_sem]
   refine hK _ _ ?_;clear hK hgd;clear K;try clear gd
   have hY2s:=hY2.size
   have hY3s:=hkY3.size
   have hown':∀b,some b=gv'.ownBlock→D+3≤b∧b<Y3.heap.size:=fun b hb=>hgv'.ge hb
   have hb7o':¬some b7=gv'.ownBlock:=fun h=>by have:=hown' b7 h;omega
   -- from Y2 on:the row of one's own and b7 alone
   have hk24:Keep (fun b=>b=b7∨some b=gv.ownBlock) Y2 Y4:=(hkY3.mono (fun b _ h=> .inr h)).trans (hkY4.mono (fun b _ h=> .inl h))
   have hYY2:=hY1.trans hY2
   have hYY4:Keep (fun b=>b=b7∨some b=gv.ownBlock) Y Y4:=(hYY2.mono (fun b _ h=>h.elim)).trans hk24
   have hlow2:∀b,b<D→b≠b7→¬(b=b7∨some b=gv.ownBlock):=fun b hb hne h=>by
    rcases h with h|h
    ·exact hne h
    ·have:=hown b h;omega
   have hlowd:∀{v:Value} {L:Nat},L≤D→(∀a n c,v= .slice (some a) n c→a.block<L∧a.block≠b7)→∀a n c,v= .slice (some a) n c→Y4.heap[a.block]? =Y.heap[a.block]?:=fun {v L} hL h a n c hv=>by
    have h1:=h a n c hv
    exact hYY4.block _ (by omega) (hlow2 _ (by omega) h1.2)
   have dq:∀(q:Value) (yw:World),(∀a n c,q= .slice (some a) n c→a.block<Y2.heap.size∧a.block≠b7∧some a.block≠gv.ownBlock)→∀a n c,q= .slice (some a) n c→Y4.heap[a.block]? =Y2.heap[a.block]?:=fun q yw h a n c hv=>by
    obtain⟨h1,h2,h3⟩:=h a n c hv
    exact hk24.block _ h1 (fun h=>by
     rcases h with h|h
     ·exact h2 h
     ·exact h3 h)
   repeat refine c_r ?_
   refine⟨fun b=>some b=gv'.ownBlock,⟨Keep.to_ext hwY rfl (fun b hb=>by
     rcases hb with hb|hb
     ·omega
     ·have:=hown b hb;omega) hYY4,by have:=hYY4.size;omega,(hYY4.block _ (by omega) (hlow2 _ (by omega) (by omega))).trans k2,(hYY4.block _ (by omega) (hlow2 _ (by omega) (by omega))).trans k3,?_,?_,gv',G++ [((x,zct R x),(xv,gl))],by simpa using hbY4,?_,hgv'.keep hkY4 (fun b hb h=>hb7o' (h▸hb)),fun y hy=>?_,fun b=>Iff.rfl⟩,fun b hb=>?_,?_⟩
   ·exact k4.blocks (hlowd (L:=w4.heap.size) (by omega) fun a n c hv=>⟨hdlow a n c hv,by have:=hdlow a n c hv;omega⟩)
   ·exact k5.blocks (hlowd (L:=w5.heap.size) (by omega) fun a n c hv=>⟨hslow a n c hv,hsne a n c hv⟩)
   ·rw[List.map_append,i7,zfA,if_neg hgne];rfl
   ·rcases List.mem_append.1 hy with hy|hy
    ·obtain⟨j1,j2,j3,j4⟩:=k9 y hy
     have j3':BlkB (D+3) Y2 y.2.2:=(j3.ext hY1s).ext hY2s
     refine⟨j1,((j2.ext hY1).ext hY2).blocks (dq _ Y (fun a n c hv=>⟨(j3' a n c hv).2,by have:=j3' a n c hv;omega,j4 a n c hv⟩)),j3'.ext (by omega),fun a n c hv hb=>?_⟩
     rcases hfr _ hb with h|h
     ·exact j4 a n c hv h
     ·have:=(j3' a n c hv).2;omega
    ·rw[List.mem_singleton.1 hy]
     have hgb2:BlkB Y.heap.size Y2 gl:=hgb.ext hY2s
     refine⟨hxr,(hgr.ext hY2).blocks (dq _ Y (fun a n c hv=>⟨(hgb2 a n c hv).2,by have:=hgb2 a n c hv;omega,fun h=>by have:=hgb2 a n c hv;have:=hown _ h;omega⟩)),(hgb2.ext (by omega)).mono (by omega),fun a n c hv hb=>?_⟩
     have h1:=hgb2 a n c hv
     rcases hfr _ hb with h|h
     ·have:=hown _ h;omega
     ·omega
   ·rcases hfr b hb with h|h
    ·exact .inl ((i10 b).2 h)
    ·exact .inr ⟨by omega,by have:=(hown' b hb).2;omega⟩
   ·exact hYY4.mono (fun b _ h=>h.imp id (fun h=>(i10 b).2 h))
  ·intro hge
   simp only[decide_eq_false_iff_not]at hge
   have hgnil:zct R x=[]:=List.length_eq_zero_iff.1 (by omega)
   repeat refine c_r ?_
   refine⟨U,⟨hwY.trans hY1,by omega,Ext.at hY1 k2,Ext.at hY1 k3,k4.ext hY1,k5.ext hY1,gv,G,Ext.at hY1 k6,by rw[zfA,if_pos hgnil,List.append_nil];exact i7,k8.ext hY1,fun y hy=>?_,i10⟩,fun b hb=> .inl hb,hY1.mono (fun _ _ h=>h.elim)⟩
   obtain⟨j1,j2,j3,j4⟩:=k9 y hy
   exact⟨j1,j2.ext hY1,j3.ext hY1s,j4⟩
 ·rintro xs U B rfl hszB hUb ⟨i1,isz,i2,i3,i4,i5,gv,G,i6,i7,i8,i9,i10⟩ hDB
  have d5':=zah (n:=5) (l:=[vi 4,dv,sv,.bool false,gv]) i6 rfl
  obtain⟨agl,cgl,hgle,_⟩:=i8.rows.open
  obtain⟨asv,csv,hsve,_⟩:=id i5
  have hDlt:w6.heap.size<B.heap.size:=(Array.getElem?_eq_some_iff.1 hDB).1
  repeat refine c_r ?_
  refine rq ?_;intro gd K hgd hK
  try simp (disch:=first|omega|assumption|rfl) only[go_sem,h7,h4,d5']
  refine zaK (P:=Tryz.prog) (t:=184) (l:=[vi 4,dv,sv,.bool false,gv]) i3 rfl (fun v h=>by
   simp at h
   rcases h with rfl|rfl|rfl|rfl|rfl
   ·rfl
   ·rw[hdv'];rfl
   ·rw[hsve];rfl
   ·rfl
   ·rw[hgle];rfl) rfl rfl ?_
  intro z hz' hbz hkz
  try simp only[go_sem]
  refine hK _ _ ?_;clear hK hgd;clear K;try clear gd
  repeat refine c_r ?_
  refine zba (.inr rfl) Tryz.ntmps198 rfl ((hkz.block _ (by omega) (by omega)).trans hDB) ?_
  intro Z hkZ hsZ
  have hBZ:Keep (fun b=>b=w.heap.size+1∨b=w6.heap.size) B Z:=(hkz.mono (fun b _ h=> .inl h)).trans (hkZ.mono (fun b _ h=> .inr h))
  refine⟨_,zaX (x:=⟨w.heap.size+1,0,Option.none⟩) (k:=5) ((vq1 h4)) rfl rfl (zah (l:=[vi 4,dv,sv,.bool false,gv]) ((hkZ.block _ (by omega) (by omega)).trans hbz) rfl) zav,Keep.to_ext i1 rfl (fun b hb=>by omega) hBZ,_,rfl,dv,sv,gv,rfl,?_,?_,?_,?_,?_⟩
  ·exact i4.blocks fun a n c hv=>hBZ.block _ (by have:=hdlow a n c hv;omega) (by have h1:=hdb4 a n c hv;have:=hdlow a n c hv;have h3:=hdb a n c hv;omega)
  ·exact hdb4.ext (by have:=hBZ.size;omega)
  ·refine .inl ⟨i5.blocks fun a n c hv=>hBZ.block _ (by have:=hslow a n c hv;omega) (by have h1:=hsb a n c hv;omega),(hsb.ext (by have:=hBZ.size;omega)).mono (by omega)⟩
  ·have hgZ:Rows 2 glC Z gv G:=i8.rows.blocks fun a n c hv=>hBZ.block _ (i8.blk a n c hv).2 (by have:=i8.blk a n c hv;omega)
   have hgl:=hgZ.mapM (C':=GlB w0 w.heap.size Z) Prod.fst (fun cs x hx hc=>by
    obtain⟨j1,j2,j3,j4⟩:=i9 x hx
    exact⟨x.2.1,x.2.2,hc.1,j1,j2.blocks fun a n c hv=>hBZ.block _ (j3 a n c hv).2 (by have:=j3 a n c hv;omega),(j3.ext hBZ.size).mono (by omega)⟩)
   rw[i7]at hgl
   exact hgl
  ·exact(i8.blk.ext hBZ.size).mono (by omega)
def zeroRes:ResL:=⟨0,[],[],false,[]⟩
def zaN(R:List RecL)(q n:Nm):Option ResL:=
 if datC R n 39=[] then Option.none
 else if zaE (zcF q n (toN 39 ((datC R n 39).take 1)))=0 then some ⟨5,(datC R n 39).take 1,zcF q n (toN 39 ((datC R n 39).take 1)),false,[]⟩
 else some ⟨6,[],[],false,[]⟩
def atL(R:List RecL)(n:Nm)(t:Int)(wild:Bool):ResL:=
 if datC R n t≠ [] then⟨1,datC R n t,[],wild,[]⟩
 else if datC R n 5≠ [] then⟨5,(datC R n 5).take 1,toN 5 ((datC R n 5).take 1),wild,[]⟩
 else⟨2,[],[],wild,[]⟩
theorem toN_m{R:List RecL}(hR:zea R){n:Nm}{t u:Int}:NmM (toN u ((datC R n t).take 1)):=by
 unfold toN
 cases hq:(zbB u ((datC R n t).take 1)).getLast? with
 |none=>exact⟨fun l h=>(by cases h),by simp⟩
 |some x=>
  have h1:=List.mem_of_getLast? hq
  exact(zbJ hR (t:=t) (n:=n) (fun d hd=>List.mem_of_mem_take hd) x (zbR _ _ x h1)).m
theorem za8(w:World):Row w (.slice Option.none 0 0) (([]:Nm).map vs):=⟨Option.none,0,rfl,Nat.le_refl _,fun j h=>absurd h (by simp)⟩
abbrev zR:List Value:=[vi 0,.slice Option.none 0 0,.slice Option.none 0 0,.bool false,.slice Option.none 0 0]
theorem zjB{w0 w:World}{ov lv qv nv:Value}{o q n:Nm}{R:List RecL}(hz:ZnAt w0 w ov lv o R)(hR:zea R)(hq:Row w qv (q.map vs))(hn:Row w nv (n.map vs))(mq:NmM q)(mn:NmM n)(hu:za6 q n=true):
  Fn Tryz.prog 199 #[.agg #[ov,lv],qv,nv] w (fun v w'=>Ext w w'∧∃cs,v= .tuple #[.agg cs.toArray,.bool (zaN R q n).isSome]∧ResB w0 w.heap.size w' cs ((zaN R q n).getD zeroRes)):=by
 obtain⟨ao,co,hov,_⟩:=id hz.org
 obtain⟨al,cl,hlv,_⟩:=hz.recs.open
 rw[hov,hlv]
 refine enter Tryz.func199 Tryz.ntmps199 rfl rfl ?_
 repeat refine c_r ?_
 refine rg0 ?_
 repeat refine c_r ?_
 rw[←hov,←hlv]
 rw[zai]
 refine zaM ?_
 intro w1 hE1 hs1 hA hC
 have d2:=zah (n:=2) (l:=[ov,lv]) hA rfl
 have hz1:=hz.ext hE1
 refine rq ?_;intro gd K hgd hK
 try simp (disch:=first|omega|assumption|rfl) only[go_sem,d2]
 refine Fn.mono (ziS hz1 hR (hn.ext hE1) mn.s) ?_
 rintro _ w2 ⟨hE2,dv,tv,rfl,hdv,hdb,htv⟩
 obtain⟨bb,hbb⟩:∃bb:Bool,decide (datC R n 39≠ [])=bb:=⟨_,rfl⟩
 rw[hbb]
 try simp only[go_sem]
 refine hK _ _ ?_;clear hK hgd;clear K;try clear gd
 have hC2:=hE2.at hC
 have s2:=hE2.size
 have hEw2:=hE1.trans hE2
 repeat refine c_r ?_
 refine rg0 ?_
 repeat refine c_r ?_
 by_cases hne:datC R n 39≠ []
 ·rw[decide_eq_true hne]at hbb
  subst hbb
  refine zaG (t:=false) (vq0) (fun h=>by cases h) ?_
  intro _
  repeat refine c_r ?_
  refine rq ?_;intro gd K hgd hK
  try simp only[go_sem]
  refine Fn.mono (NSwap_ok w2 qv nv tv q n (toN 39 ((datC R n 39).take 1)) (hq.ext hEw2) (hn.ext hEw2) (htv.ext (hz.e0.trans hEw2)) mq mn (toN_m hR) hu) ?_
  rintro v w3 ⟨hE3,hgood,hbad⟩
  have hC3:=hE3.at hC2
  have s3:=hE3.size
  by_cases hck:zaE (zcF q n (toN 39 ((datC R n 39).take 1)))=0
  ·obtain⟨sv,rfl,hsv,hsvb⟩:=hgood hck
   obtain⟨as1,cs1,hsv',_⟩:=id hsv
   obtain⟨ad,cd,hdv',_⟩:=hdv.open
   have hren:zaN R q n=some ⟨5,(datC R n 39).take 1,zcF q n (toN 39 ((datC R n 39).take 1)),false,[]⟩:=by unfold zaN;rw[if_neg hne,if_pos hck]
   try simp only[go_sem]
   refine hK _ _ ?_;clear hK hgd;clear K;try clear gd
   repeat refine c_r ?_
   refine rg0 ?_
   repeat refine c_r ?_
   refine wc0 ?_ ?_
   ·intro h;simp at h
   intro _
   repeat refine c_r ?_
   refine rq ?_;intro gd K hgd hK
   try simp only[go_sem]
   rw[hsv',hdv']
   refine⟨by kernel_rfl,?_⟩
   rw[show bdV Tryz.prog 184 [(0,vi 5),(2,.slice as1 ((zcF q n (toN 39 ((datC R n 39).take 1))).map vs).length cs1),(1,.slice ad ((datC R n 39).take 1).length cd)]=some (.agg #[vi 5,.slice ad ((datC R n 39).take 1).length cd,.slice as1 ((zcF q n (toN 39 ((datC R n 39).take 1))).map vs).length cs1,.bool false,.slice Option.none 0 0]) from by kernel_rfl]
   try simp only[go_sem]
   refine zaK (P:=Tryz.prog) (t:=184) (l:=[vi 5,.slice ad ((datC R n 39).take 1).length cd,.slice as1 ((zcF q n (toN 39 ((datC R n 39).take 1))).map vs).length cs1,.bool false,.slice Option.none 0 0]) hC3 rfl (fun v h=>by simp at h;rcases h with rfl|rfl|rfl|rfl|rfl<;>rfl) rfl rfl ?_
   intro z hz' hbz hkz
   try simp only[go_sem]
   refine hK _ _ ?_;clear hK hgd;clear K;try clear gd
   repeat refine c_r ?_
   refine zaC (.inr rfl) Tryz.ntmps199 rfl (zaX (x:=⟨w.heap.size+1,0,Option.none⟩) (k:=5) (vq0) rfl rfl (zah hbz rfl) (zak (v:= .bool true) (vr0) zav)) ?_
   refine⟨Keep.to_ext (hEw2.trans hE3) rfl (fun b hb=>by omega) hkz,_,by rw[hren];rfl,?_⟩
   rw[hren]
   refine⟨_,_,_,rfl,?_,?_,.inl ⟨?_,?_⟩,Rows.nil _ _ _,BlkB.nil⟩
   ·rw[←hdv']
    exact(hdv.ext hE3).keep hkz (hdb.ext hE3.size) (fun b hb _=>by omega)
   ·rw[←hdv']
    exact(hdb.ext (by omega)).mono (by omega)
   ·rw[←hsv']
    exact hsv.keepB hkz hsvb (fun b hb _=>by omega)
   ·rw[←hsv']
    exact(hsvb.ext (by omega)).mono (by omega)
  ·have hv:=hbad hck
   subst hv
   have hren:zaN R q n=some ⟨6,[],[],false,[]⟩:=by unfold zaN;rw[if_neg hne,if_neg hck]
   try simp only[go_sem]
   refine hK _ _ ?_;clear hK hgd;clear K;try clear gd
   repeat refine c_r ?_
   refine rg0 ?_
   repeat refine c_r ?_
   refine wc0 ?_ ?_
   ·intro _
    repeat refine c_r ?_
    refine rq ?_;intro gd K hgd hK
    try simp only[go_sem]
    refine⟨by kernel_rfl,?_⟩
    rw[show bdV Tryz.prog 184 [(0,vi 6)]=some (.agg #[vi 6,.slice Option.none 0 0,.slice Option.none 0 0,.bool false,.slice Option.none 0 0]) from by kernel_rfl]
    try simp only[go_sem]
    refine zaK (P:=Tryz.prog) (t:=184) (l:=[vi 6,.slice Option.none 0 0,.slice Option.none 0 0,.bool false,.slice Option.none 0 0]) hC3 rfl (fun v h=>by simp at h;rcases h with rfl|rfl|rfl|rfl|rfl<;>rfl) rfl rfl ?_
    intro z hz' hbz hkz
    try simp only[go_sem]
    refine hK _ _ ?_;clear hK hgd;clear K;try clear gd
    repeat refine c_r ?_
    refine zaC (.inr rfl) Tryz.ntmps199 rfl (zaX (x:=⟨w.heap.size+1,0,Option.none⟩) (k:=5) (vq0) rfl rfl (zah hbz rfl) (zak (v:= .bool true) (vr0) zav)) ?_
    exact⟨Keep.to_ext (hEw2.trans hE3) rfl (fun b hb=>by omega) hkz,_,by rw[hren];rfl,by rw[hren];exact⟨_,_,_,rfl,Rows.nil _ _ _,BlkB.nil,.inr (za8 _),Rows.nil _ _ _,BlkB.nil⟩⟩
   ·intro h;simp at h
 ·have hnil:datC R n 39=[]:=by simpa using hne
  have hren:zaN R q n=Option.none:=by unfold zaN;rw[if_pos hnil]
  rw[decide_eq_false hne]at hbb
  subst hbb
  refine zaG (t:=true) (vq0) ?_ (fun h=>by cases h)
  intro _
  repeat refine c_r ?_
  refine rq ?_;intro gd K hgd hK
  try simp only[go_sem]
  refine⟨by kernel_rfl,?_⟩
  rw[show bdV Tryz.prog 184 []=some (.agg #[vi 0,.slice Option.none 0 0,.slice Option.none 0 0,.bool false,.slice Option.none 0 0]) from by kernel_rfl]
  try simp only[go_sem]
  refine zaK (P:=Tryz.prog) (t:=184) (l:=zR) hC2 rfl (fun v h=>by simp at h;rcases h with rfl|rfl|rfl|rfl|rfl<;>rfl) rfl rfl ?_
  intro z hz' hbz hkz
  try simp only[go_sem]
  refine hK _ _ ?_;clear hK hgd;clear K;try clear gd
  repeat refine c_r ?_
  refine zaC (.inr rfl) Tryz.ntmps199 rfl (zaX (x:=⟨w.heap.size+1,0,Option.none⟩) (k:=5) (vq0) rfl rfl (zah hbz rfl) (zak (v:= .bool false) (vr0) zav)) ?_
  exact⟨Keep.to_ext hEw2 rfl (fun b hb=>by omega) hkz,_,by rw[hren];rfl,by rw[hren];exact⟨_,_,_,rfl,Rows.nil _ _ _,BlkB.nil,.inr (za8 _),Rows.nil _ _ _,BlkB.nil⟩⟩
theorem At_ok{w0 w:World}{ov lv nv:Value}{o n:Nm}{R:List RecL}{t:Int}{wild:Bool}(hz:ZnAt w0 w ov lv o R)(hR:zea R)(hn:Row w nv (n.map vs))(mn:NmS n):
  Fn Tryz.prog 201 #[.agg #[ov,lv],nv,vi t,.bool wild] w (fun v w'=>Ext w w'∧∃cs,v= .agg cs.toArray∧ResB w0 w.heap.size w' cs (atL R n t wild)):=by
 obtain⟨ao,co,hov,_⟩:=id hz.org
 obtain⟨al,cl,hlv,_⟩:=hz.recs.open
 rw[hov,hlv]
 refine enter Tryz.func201 Tryz.ntmps201 rfl rfl ?_
 repeat refine c_r ?_
 refine rg0 ?_
 repeat refine c_r ?_
 rw[←hov,←hlv]
 rw[zai]
 refine zaM ?_
 intro w1 hE1 hs1 hA hC
 have p1:zae w1 (some ⟨w.heap.size,1,Option.none⟩)=some lv:=zab hA rfl
 have hz1:=hz.ext hE1
 refine rq ?_;intro gd K hgd hK
 try simp (disch:=first|omega|assumption|rfl) only[go_sem,p1,Nat.zero_add]
 refine Fn.mono (Of_ok hz1.e0 hz1.recs (hn.ext hE1) mn.lb (by have:=mn.len;omega) hz.ok hz.rl) ?_
 rintro _ w2 ⟨hE2,ow,ty,tl,dv,rfl,how,hty,hdv,hdb⟩
 have hdd:(ofC R n t).map RecL.dat=datC R n t:=rfl
 rw[hdd]at hdv
 obtain⟨bb,hbb⟩:∃bb:Bool,decide (datC R n t≠ [])=bb:=⟨_,rfl⟩
 rw[show decide (ofC R n t≠ [])=bb from by rw[←hbb];exact decide_eq_decide.2 (zh0 (R:=R) (n:=n) (t:=t))]
 try simp only[go_sem]
 have hB3:=zas w2 (.cells #[.slice Option.none 0 0,vi 0,v32 0,.slice Option.none 0 0] 340 (0,0))
 have hE4:=Ext.alloc w2 (.cells #[.slice Option.none 0 0,vi 0,v32 0,.slice Option.none 0 0] 340 (0,0))
 have hs4:=zai w2 (.cells #[.slice Option.none 0 0,vi 0,v32 0,.slice Option.none 0 0] 340 (0,0))
 revert hB3 hE4 hs4
 generalize w2.alloc (.cells #[.slice Option.none 0 0,vi 0,v32 0,.slice Option.none 0 0] 340 (0,0))=w3
 intro hB3 hE4 hs4
 obtain⟨ad,cd,hdv',hcd,_⟩:=hdv.open
 refine zaK (P:=Tryz.prog) (t:=340) (l:=[ow,vi ty,v32 tl,dv]) hB3 rfl (fun v h=>by
  simp at h
  rcases h with rfl|rfl|rfl|rfl
  ·exact how
  ·rfl
  ·rfl
  ·rw[hdv'];rfl) rfl rfl ?_
 intro w4 hs5 hB5 hk5
 try simp only[go_sem]
 refine hK _ _ ?_;clear hK hgd;clear K;try clear gd
 have hE5:Ext w2 w4:=Keep.to_ext hE4 rfl (fun b hb=>by omega) hk5
 have hE14:=hE2.trans hE5
 have hEw4:=hE1.trans hE14
 have q3:zae w4 (some ⟨w2.heap.size,3,Option.none⟩)=some dv:=zce hB5 rfl
 have hdv4:=hdv.ext hE5
 have hdb4:BlkB w1.heap.size w4 dv:=hdb.ext hE5.size
 have hA4:=Ext.at hE14 hA
 have hC4:=Ext.at hE14 hC
 have e2:=hE14.size
 clear hB3 hE4 hs4 hk5 hs5
 repeat refine c_r ?_
 refine rg0 ?_
 repeat refine c_r ?_
 by_cases hne:datC R n t≠ []
 ·rw[decide_eq_true hne]at hbb
  subst hbb
  have hat:atL R n t wild=⟨1,datC R n t,[],wild,[]⟩:=by unfold atL;rw[if_pos hne]
  refine zaG (t:=true) (vq0) ?_ (fun h=>by cases h)
  intro _
  repeat refine c_r ?_
  refine rq ?_;intro gd K hgd hK
  try simp (disch:=first|omega|assumption|rfl) only[go_sem,q3,Nat.zero_add]
  rw[hdv']
  refine⟨by kernel_rfl,?_⟩
  rw[show bdV Tryz.prog 184 [(0,vi 1),(1,.slice ad (datC R n t).length cd),(3,.bool wild)]=some (.agg #[vi 1,.slice ad (datC R n t).length cd,.slice Option.none 0 0,.bool wild,.slice Option.none 0 0]) from by kernel_rfl]
  try simp only[go_sem]
  refine zaK (P:=Tryz.prog) (t:=184) (l:=[vi 1,.slice ad (datC R n t).length cd,.slice Option.none 0 0,.bool wild,.slice Option.none 0 0]) hC4 rfl (fun v h=>by simp at h;rcases h with rfl|rfl|rfl|rfl|rfl<;>rfl) rfl rfl ?_
  intro z hz' hbz hkz
  try simp only[go_sem]
  refine hK _ _ ?_;clear hK hgd;clear K;try clear gd
  repeat refine c_r ?_
  refine zaC (.inr rfl) Tryz.ntmps201 rfl (zaX (x:=⟨w.heap.size+1,0,Option.none⟩) (k:=5) (vq0) rfl rfl (zah hbz rfl) zav) ?_
  refine⟨Keep.to_ext hEw4 rfl (fun b hb=>by omega) hkz,_,rfl,?_⟩
  rw[hat]
  refine⟨_,_,_,rfl,?_,?_,.inr (za8 _),Rows.nil _ _ _,BlkB.nil⟩
  ·rw[←hdv']
   exact hdv4.keep hkz hdb4 (fun b hb _=>by omega)
  ·rw[←hdv']
   exact(hdb4.ext (by omega)).mono (by omega)
 ·have hnil:datC R n t=[]:=by simpa using hne
  rw[decide_eq_false hne]at hbb
  subst hbb
  refine zaG (t:=false) (vq0) (fun h=>by cases h) ?_
  intro _
  have d2:=zah (n:=2) (l:=[ov,lv]) hA4 rfl
  have hz4:=hz.ext hEw4
  repeat refine c_r ?_
  refine rq ?_;intro gd K hgd hK
  try simp (disch:=first|omega|assumption|rfl) only[go_sem,d2]
  refine Fn.mono (ziS hz4 hR (hn.ext hEw4) mn) ?_
  rintro _ w5 ⟨hE6,fv,tv,rfl,hfv,hfb,htv⟩
  obtain⟨b5,hb5⟩:∃bb:Bool,decide (datC R n 5≠ [])=bb:=⟨_,rfl⟩
  rw[hb5]
  try simp only[go_sem]
  refine hK _ _ ?_;clear hK hgd;clear K;try clear gd
  have hC5:=Ext.at hE6 hC4
  have e6:=hE6.size
  have hEw5:=hEw4.trans hE6
  repeat refine c_r ?_
  refine rg0 ?_
  repeat refine c_r ?_
  by_cases hne5:datC R n 5≠ []
  ·rw[decide_eq_true hne5]at hb5
   subst hb5
   obtain⟨af,cf,hfv',_⟩:=hfv.open
   obtain⟨at1,ct1,htv',_⟩:=id htv
   have hat:atL R n t wild=⟨5,(datC R n 5).take 1,toN 5 ((datC R n 5).take 1),wild,[]⟩:=by unfold atL;rw[if_neg hne,if_pos hne5]
   refine zaG (t:=true) (vq0) ?_ (fun h=>by cases h)
   intro _
   repeat refine c_r ?_
   refine rq ?_;intro gd K hgd hK
   try simp only[go_sem]
   rw[hfv',htv']
   refine⟨by kernel_rfl,?_⟩
   rw[show bdV Tryz.prog 184 [(0,vi 5),(2,.slice at1 ((toN 5 ((datC R n 5).take 1)).map vs).length ct1),(1,.slice af ((datC R n 5).take 1).length cf),(3,.bool wild)]=some (.agg #[vi 5,.slice af ((datC R n 5).take 1).length cf,.slice at1 ((toN 5 ((datC R n 5).take 1)).map vs).length ct1,.bool wild,.slice Option.none 0 0]) from by kernel_rfl]
   try simp only[go_sem]
   refine zaK (P:=Tryz.prog) (t:=184) (l:=[vi 5,.slice af ((datC R n 5).take 1).length cf,.slice at1 ((toN 5 ((datC R n 5).take 1)).map vs).length ct1,.bool wild,.slice Option.none 0 0]) hC5 rfl (fun v h=>by simp at h;rcases h with rfl|rfl|rfl|rfl|rfl<;>rfl) rfl rfl ?_
   intro z hz' hbz hkz
   try simp only[go_sem]
   refine hK _ _ ?_;clear hK hgd;clear K;try clear gd
   repeat refine c_r ?_
   refine zaC (.inr rfl) Tryz.ntmps201 rfl (zaX (x:=⟨w.heap.size+1,0,Option.none⟩) (k:=5) (vq0) rfl rfl (zah hbz rfl) zav) ?_
   have hEz:Ext w z:=Keep.to_ext hEw5 rfl (fun b hb=>by omega) hkz
   refine⟨hEz,_,rfl,?_⟩
   rw[hat]
   refine⟨_,_,_,rfl,?_,?_,.inr ?_,Rows.nil _ _ _,BlkB.nil⟩
   ·rw[←hfv']
    exact hfv.keep hkz hfb (fun b hb _=>by omega)
   ·rw[←hfv']
    exact(hfb.ext (by omega)).mono (by omega)
   ·rw[←htv']
    exact htv
  ·rw[decide_eq_false hne5]at hb5
   subst hb5
   have hat:atL R n t wild=⟨2,[],[],wild,[]⟩:=by unfold atL;rw[if_neg hne,if_neg hne5]
   refine zaG (t:=false) (vq0) (fun h=>by cases h) ?_
   intro _
   repeat refine c_r ?_
   refine rq ?_;intro gd K hgd hK
   try simp only[go_sem]
   refine⟨by kernel_rfl,?_⟩
   rw[show bdV Tryz.prog 184 [(0,vi 2),(3,.bool wild)]=some (.agg #[vi 2,.slice Option.none 0 0,.slice Option.none 0 0,.bool wild,.slice Option.none 0 0]) from by kernel_rfl]
   try simp only[go_sem]
   refine zaK (P:=Tryz.prog) (t:=184) (l:=[vi 2,.slice Option.none 0 0,.slice Option.none 0 0,.bool wild,.slice Option.none 0 0]) hC5 rfl (fun v h=>by simp at h;rcases h with rfl|rfl|rfl|rfl|rfl<;>rfl) rfl rfl ?_
   intro z hz' hbz hkz
   try simp only[go_sem]
   refine hK _ _ ?_;clear hK hgd;clear K;try clear gd
   repeat refine c_r ?_
   refine zaC (.inr rfl) Tryz.ntmps201 rfl (zaX (x:=⟨w.heap.size+1,0,Option.none⟩) (k:=5) (vq0) rfl rfl (zah hbz rfl) zav) ?_
   refine⟨Keep.to_ext hEw5 rfl (fun b hb=>by omega) hkz,_,rfl,?_⟩
   rw[hat]
   exact⟨_,_,_,rfl,Rows.nil _ _ _,BlkB.nil,.inr (za8 _),Rows.nil _ _ _,BlkB.nil⟩
def goL(o:Nm)(R:List RecL)(q:Nm):List Nm→Option ResL
 | []=>Option.none
 |n::l=>if cutP o R n=true then some (zeP R n) else if n.length=q.length then Option.none else match zaN R q n with
  |some r=>some r
  |Option.none=>goL o R q l
def zbp(o:Nm)(R:List RecL)(q:Nm)(t:Int):ResL:=
 if za6 q o=false then⟨7,[],[],false,[]⟩ else match goL o R q (zbq o q) with
 |some r=>r
 |Option.none=>if zbk o R q=true then atL R q t false else match zbN o R q with
  |some s=>atL R s t true
  |Option.none=>⟨3,[],[],false,[]⟩
def passL(o:Nm)(R:List RecL)(q n:Nm):Prop:=cutP o R n=false∧n.length≠q.length∧zaN R q n=Option.none
theorem zez{o:Nm}{R:List RecL}{q:Nm}:∀{pre l:List Nm},(∀n∈pre,passL o R q n)→goL o R q (pre++l)=goL o R q l
 | [],_,_=>rfl
 |n::pre,l,h=>by
  obtain⟨h1,h2,h3⟩:=h n (List.mem_cons_self ..)
  rw[List.cons_append]
  simp only[goL]
  rw[h1,if_neg Bool.false_ne_true,if_neg h2,h3]
  exact zez (fun m hm=>h m (List.mem_cons_of_mem _ hm))
theorem zgt{o:Nm}{R:List RecL}{n:Nm}:zeE o R n=0↔za6 n o=false:=by
 unfold zeE
 by_cases h:za6 n o=true
 ·rw[if_pos h,h]
  constructor
  ·intro h2
   split at h2
   ·cases h2
   ·split at h2<;>cases h2
  ·intro h2;cases h2
 ·rw[if_neg h]
  simp at h
  simp[h]
theorem ziV{q:Nm}{k:Nat}(hk:k≤q.length):za6 q (q.drop k)=true:=by
 unfold za6
 rw[Bool.and_eq_true,decide_eq_true_eq,decide_eq_true_eq]
 refine⟨by simp,?_⟩
 rw[List.length_drop,show q.length - (q.length - k)=k from by omega]
theorem NmM.drop{n:Nm}(h:NmM n)(k:Nat):NmM (n.drop k):=⟨fun l hl=>h.lb l (List.drop_subset _ _ hl),by have:=h.len;simp;omega⟩
theorem Zone_ok{w0 w:World}{ov lv qv:Value}{o q:Nm}{R:List RecL}{t:Int}(hz:ZnAt w0 w ov lv o R)(hR:zea R)(hq:Row w qv (q.map vs))(mq:NmM q):
  Fn Tryz.prog 149 #[.agg #[ov,lv],qv,vi t] w (fun v w'=>Ext w w'∧∃cs,v= .agg cs.toArray∧ResB w0 w.heap.size w' cs (zbp o R q t)):=by
 obtain⟨ao,co,hov,_⟩:=id hz.org
 obtain⟨al,cl,hlv,_⟩:=hz.recs.open
 obtain⟨aq,cq,hqv,_⟩:=id hq
 rw[List.length_map]at hov hqv
 rw[hov,hlv,hqv]
 refine enter Tryz.func149 Tryz.ntmps149 rfl rfl ?_
 repeat refine c_r ?_
 refine rg0 ?_
 repeat refine c_r ?_
 rw[←hov,←hlv,←hqv]
 simp only[zai]
 refine zcz ?_
 intro w1 hE1 hs1 hA hB hC
 have d2:=zah (n:=2) (l:=[ov,lv]) hA rfl
 have dq:zae w1 (some ⟨w.heap.size+1,0,Option.none⟩)=some qv:=zab hB rfl
 have hz1:=hz.ext hE1
 have ql:=mq.len
 have hqo:(q.map vs).length=q.length:=List.length_map ..
 refine rq ?_;intro gd K hgd hK
 try simp (disch:=first|omega|assumption|rfl) only[go_sem,d2,dq]
 refine Fn.mono (Where_ok hz1 (hq.ext hE1) mq.s) ?_
 rintro _ w2 ⟨rfl,hE2⟩
 try simp only[go_sem]
 refine hK _ _ ?_;clear hK hgd;clear K;try clear gd
 have hEw2:=hE1.trans hE2
 have hA2:=hE2.at hA
 have hB2:=hE2.at hB
 have hC2:=hE2.at hC
 have s2:=hE2.size
 -- a result into its variable,and the end
 repeat refine c_r ?_
 refine wc0 ?_ ?_
 ·intro hw
  simp only[decide_eq_true_eq]at hw
  have hu:=zgt.1 hw
  have hlk:zbp o R q t=⟨7,[],[],false,[]⟩:=by unfold zbp;rw[if_pos hu]
  repeat refine c_r ?_
  refine rq ?_;intro gd K hgd hK
  try simp only[go_sem]
  refine⟨by kernel_rfl,?_⟩
  rw[show bdV Tryz.prog 184 [(0,vi 7)]=some (.agg #[vi 7,.slice Option.none 0 0,.slice Option.none 0 0,.bool false,.slice Option.none 0 0]) from by kernel_rfl]
  try simp only[go_sem]
  refine zaK (P:=Tryz.prog) (t:=184) (l:=[vi 7,.slice Option.none 0 0,.slice Option.none 0 0,.bool false,.slice Option.none 0 0]) hC2 rfl (fun v h=>by simp at h;rcases h with rfl|rfl|rfl|rfl|rfl<;>rfl) rfl rfl ?_
  intro z hz' hbz hkz
  try simp only[go_sem]
  refine hK _ _ ?_;clear hK hgd;clear K;try clear gd
  repeat refine c_r ?_
  refine zaC (.inr rfl) Tryz.ntmps149 rfl (zaX (x:=⟨w.heap.size+1+1,0,Option.none⟩) (k:=5) (vq0) rfl rfl (zah hbz rfl) zav) ?_
  exact⟨Keep.to_ext hEw2 rfl (fun b hb=>by omega) hkz,_,rfl,by rw[hlk];exact⟨_,_,_,rfl,Rows.nil _ _ _,BlkB.nil,.inr (za8 _),Rows.nil _ _ _,BlkB.nil⟩⟩
 intro hw
 simp only[decide_eq_false_iff_not]at hw
 have hu:za6 q o=true:=by
  cases h:za6 q o with
  |true=>rfl
  |false=>exact absurd (zgt.2 h) hw
 have d2':=zah (n:=2) (l:=[ov,lv]) hA2 rfl
 have dq':zae w2 (some ⟨w.heap.size+1,0,Option.none⟩)=some qv:=zab hB2 rfl
 repeat refine c_r ?_
 refine rq ?_;intro gd K hgd hK
 try simp (disch:=first|omega|assumption|rfl) only[go_sem,d2',dq']
 refine Fn.mono (zic ⟨_,_,_,hqv⟩) ?_
 rintro _ w3 ⟨rfl,hE3,hs3,hbz,hbn⟩
 try simp only[go_sem]
 refine hK _ _ ?_;clear hK hgd;clear K;try clear gd
 have hEw3:=hEw2.trans hE3
 have hz3:=hz.ext hEw3
 have hq3:=hq.ext hEw3
 have hA3:=hE3.at hA2
 have hB3:=hE3.at hB2
 have hC3:=hE3.at hC2
 obtain⟨D,hD⟩:∃D,w3.heap.size=D:=⟨_,rfl⟩
 have hdm:∀{x},x∈zbq o q→∃k,k≤q.length∧x=q.drop k:=fun {x} hx=>by
  unfold zbq at hx
  split at hx
  ·obtain⟨i,hi,h⟩:=zbu.1 hx
   exact⟨i,by omega,h⟩
  ·cases hx
 repeat refine c_r ?_
 refine zaA (Q:=fun e σ' ds' v'=>((e= .normal∨e= .exit 0)∧ds'=[{target:= .collected w3.heap.size,args:=#[]}]∧v'.heap[w3.heap.size]? =some (.deferred (some []))∧σ' 3= .pointer (some ⟨w.heap.size,0,Option.none⟩)∧σ' 4= .pointer (some ⟨w.heap.size+1,0,Option.none⟩)∧σ' 6= .pointer (some ⟨w.heap.size+1+1,0,Option.none⟩)∧σ' 2=vi t∧Ext w3 v'∧goL o R q (zbq o q)=Option.none)∨
   (e= .ret∧ds'=[{target:= .collected w3.heap.size,args:=#[]}]∧v'.heap[w3.heap.size]? =some (.deferred (some []))∧σ' 6= .pointer (some ⟨w.heap.size+1+1,0,Option.none⟩)∧Ext w v'∧∃r cs,goL o R q (zbq o q)=some r∧v'.heap[w.heap.size+1+1]? =some (.cells cs.toArray 184 (0,0))∧ResB w0 (w3.heap.size+2) v' cs r)) ?_ ?_
 ·refine zdu (g:=242) (cap:=#[.pointer (some ⟨w2.heap.size+1,0,Option.none⟩),.pointer (some ⟨w2.heap.size,0,Option.none⟩)]) (vq0) rfl (zkY (C:=fun b=>b=w.heap.size+1+1) hbn hbz hq hz3.org (by omega) (by omega) hz.ol (by omega)) (Keep.refl _ _) (Nat.le_refl _) (fun b hb=>by omega)
   (fun x B args h=>by obtain⟨v,h,_⟩:=h;rw[h];rfl)
   (fun pre B=>Ext w3 B∧∀x∈pre,passL o R q x)
   (fun c pre B=>(c= .exit 0∧Ext w3 B∧∃pre' x,pre=pre'++ [x]∧(∀y∈pre',passL o R q y)∧cutP o R x=false∧x.length=q.length)∨
    (c= .ret∧Ext w B∧∃pre' x r cs,pre=pre'++ [x]∧(∀y∈pre',passL o R q y)∧(∀l,goL o R q (x::l)=some r)∧B.heap[w.heap.size+1+1]? =some (.cells cs.toArray 184 (0,0))∧ResB w0 (w3.heap.size+2) B cs r)) ?_ ?_ ?_ ?_ ?_ ?_
  ·rintro pre B B' ⟨hEB,hp⟩ hk
   exact⟨Keep.to_ext hEB rfl (fun b hb=>by unfold two at hb;omega) hk,hp⟩
  ·rintro c pre B B' h hk
   rcases h with ⟨rfl,hEB,h⟩| ⟨rfl,hEB,pre',x,r,cs,h1,h2,h3,h4,h5⟩
   ·exact .inl ⟨rfl,Keep.to_ext hEB rfl (fun b hb=>by unfold two at hb;omega) hk,h⟩
   ·exact .inr ⟨rfl,Keep.to_ext hEB rfl (fun b hb=>by unfold two at hb;omega) hk,pre',x,r,cs,h1,h2,h3,(hk.block _ (Array.getElem?_eq_some_iff.1 h4).1 (by unfold two;omega)).trans h4,h5.keep hk (fun b hb _=>by unfold two;omega)⟩
  ·exact⟨Keep.refl _ _,fun x h=>absurd h (by simp)⟩
  ·rintro lp pre x suf B args hxs hszB ⟨hEB,hp⟩ ⟨xv,rfl,hxr⟩
   obtain⟨kx,hkx,hxk⟩:=hdm (x:=x) (by rw[hxs];simp)
   have mx:NmM x:=hxk▸mq.drop kx
   have hux:za6 q x=true:=by rw[hxk];exact ziV hkx
   have hxl:=mx.len
   obtain⟨ax,cx,hxv,_⟩:=id hxr
   rw[List.length_map]at hxv
   have hol:=hz.ol
   refine rq ?_;intro gd K hgd hK
   try simp only[go_sem]
   refine hK _ _ ?_;clear hK hgd;clear K;try clear gd
   refine zap ?_
   refine⟨rfl,KeepB.refl _ _ _,fun Y hY=>?_⟩
   have hEY:Ext w3 Y:=Keep.to_ext hEB rfl (fun b hb=>by unfold two at hb;omega) hY
   have hzY:=hz3.ext hEY
   have p0:zae Y (some ⟨w.heap.size,0,Option.none⟩)=some ov:=zab (hEY.at hA3) rfl
   have d2:=zah (n:=2) (l:=[ov,lv]) (hEY.at hA3) rfl
   have dq:zae Y (some ⟨w.heap.size+1,0,Option.none⟩)=some qv:=zab (hEY.at hB3) rfl
   have hYs:=hY.size
   have hxY:Row Y xv (x.map vs):=hxr.ext (hEw3.trans hEY)
   have hqY:=hq3.ext hEY
   have hCY:=hEY.at hC3
   rw[hov]at p0
   repeat refine c_r ?_
   refine zaA (Q:=fun e σ' ds' v'=>e= .normal∧ds'=[]∧σ' 7=xv∧σ' 3= .pointer (some ⟨w.heap.size,0,Option.none⟩)∧σ' 4= .pointer (some ⟨w.heap.size+1,0,Option.none⟩)∧σ' 6= .pointer (some ⟨w.heap.size+1+1,0,Option.none⟩)∧Ext Y v'∧σ' 31= .bool (cutP o R x)) ?_ ?_
   ·by_cases hl:(o.length:Int)<(x.length:Int)
    ·refine rq ?_;intro gd K hgd hK
     have hg6:∀n σ b,zat gd n σ (some (6,b))=zaj (ev n σ (.tmp 27)) b:=(fun n σ b=>by rw[zad,show gd 6=some 27 from(by rw[hgd];rfl)];rfl)
     try simp (disch:=first|omega|assumption|rfl) only[go_sem,hxv,p0,d2,decide_eq_true hl,Nat.add_zero,↓hg6]
     rw[←hxv]
     refine Fn.mono (Has_ok hzY hxY mx.s) ?_
     rintro _ Y2 ⟨rfl,hY2⟩
     try simp only[go_sem]
     refine hK _ _ ?_;clear hK hgd;clear K;try clear gd
     refine⟨rfl,rfl,vq0,vq0,vq0,vq0,hY2,?_⟩
     unfold cutP hasL
     rw[show decide (o.length<x.length)=true from decide_eq_true (by omega),Bool.true_and]
     simp only[go_sem]
    ·refine rq ?_;intro gd K hgd hK
     have hg6:∀n σ b,zat gd n σ (some (6,b))=zaj (ev n σ (.tmp 27)) b:=(fun n σ b=>by rw[zad,show gd 6=some 27 from(by rw[hgd];rfl)];rfl)
     try simp (disch:=first|omega|assumption|rfl) only[go_sem,hxv,p0,decide_eq_false hl,Nat.add_zero,↓hg6]
     rw[←hxv]
     refine hK _ _ ?_;clear hK hgd;clear K;try clear gd
     refine⟨rfl,rfl,vq0,vq0,vq0,vq0,Keep.refl _ _,?_⟩
     unfold cutP hasL
     rw[show decide (o.length<x.length)=false from decide_eq_false (by omega),Bool.false_and]
     simp only[go_sem]
   rintro _ σ1 _ Y1 ⟨rfl,rfl,h7,h3,h4,h6,hY1,h31⟩
   have hEY1:=hEY.trans hY1
   have hY1s:=hY1.size
   repeat refine c_r ?_
   refine zaG (t:=cutP o R x) ((vq1 h31)) ?_ ?_
   ·intro ht
    have d2':=zac hY1 d2
    repeat refine c_r ?_
    refine rq ?_;intro gd K hgd hK
    try simp (disch:=first|omega|assumption|rfl) only[go_sem,h3,h7,d2']
    refine Fn.mono (Refer_ok (hzY.ext hY1) hR (hxY.ext hY1) mx.s) ?_
    rintro _ Y2 ⟨hY2,cs,rfl,hres⟩
    try simp (disch:=first|omega|assumption|rfl) only[go_sem,h6]
    have hY2s:=hY2.size
    refine zaK (P:=Tryz.prog) (t:=184) (l:=cs) (Ext.at (hY1.trans hY2) hCY) hres.cells.1 hres.cells.2 (by rw[hres.cells.1];rfl) rfl ?_
    intro z hz' hbz2 hkz
    try simp only[go_sem]
    refine hK _ _ ?_;clear hK hgd;clear K;try clear gd
    repeat refine c_r ?_
    exact⟨.inr ⟨rfl,Keep.to_ext (hEw3.trans (hEY1.trans hY2)) rfl (fun b hb=>by omega) hkz,pre,x,zeP R x,cs,rfl,hp,fun l=>by simp only[goL];rw[if_pos ht],hbz2,(hres.keep hkz (fun b hb _=>by omega)).mono (by omega)⟩,((hY1.trans hY2).toB (by omega) (fun _ _ h=>h.elim)).trans (hkz.toB (by omega) (fun i _ h=>h))⟩
   intro ht
   have dq':=zaa hY1 dq
   rw[hqv]at dq'
   repeat refine c_r ?_
   refine rg4 h7 h4 hxv dq' ?_
   repeat refine c_r ?_
   refine wc0 ?_ ?_
   ·intro hl
    simp only[decide_eq_true_eq]at hl
    repeat refine c_r ?_
    exact⟨.inl ⟨rfl,hEY1,pre,x,rfl,hp,ht,by omega⟩,hY1.toB (by omega) (fun _ _ h=>h.elim)⟩
   intro hl
   simp only[decide_eq_false_iff_not]at hl
   have d2':=zac hY1 d2
   have dq'':=zaa hY1 dq
   repeat refine c_r ?_
   refine rq ?_;intro gd K hgd hK
   try simp (disch:=first|omega|assumption|rfl) only[go_sem,h3,h4,h7,d2',dq'']
   refine Fn.mono (zjB (hzY.ext hY1) hR (hqY.ext hY1) (hxY.ext hY1) mq mx hux) ?_
   rintro _ Y2 ⟨hY2,cs,rfl,hres⟩
   try simp only[go_sem]
   have hB8:=zas Y2 (.cells #[vi 0,.slice Option.none 0 0,.slice Option.none 0 0,.bool false,.slice Option.none 0 0] 184 (0,0))
   have hE8:=Ext.alloc Y2 (.cells #[vi 0,.slice Option.none 0 0,.slice Option.none 0 0,.bool false,.slice Option.none 0 0] 184 (0,0))
   have hs8:=zai Y2 (.cells #[vi 0,.slice Option.none 0 0,.slice Option.none 0 0,.bool false,.slice Option.none 0 0] 184 (0,0))
   revert hB8 hE8 hs8
   generalize Y2.alloc (.cells #[vi 0,.slice Option.none 0 0,.slice Option.none 0 0,.bool false,.slice Option.none 0 0] 184 (0,0))=Y3
   intro hB8 hE8 hs8
   refine zaK (P:=Tryz.prog) (t:=184) (l:=cs) hB8 hres.cells.1 hres.cells.2 (by rw[hres.cells.1];rfl) rfl ?_
   intro Y4 hs9 hB9 hk9
   try simp only[go_sem]
   refine hK _ _ ?_;clear hK hgd;clear K;try clear gd
   have hE24:Ext Y2 Y4:=Keep.to_ext hE8 rfl (fun b hb=>by omega) hk9
   have hY4:=hY2.trans hE24
   have hY4s:=hY4.size
   have hres4:=hres.keep hE24 (fun b hb _ h=>h)
   have d9:=zah (n:=5) hB9 hres.cells.1.symm
   repeat refine c_r ?_
   refine rg0 ?_
   repeat refine c_r ?_
   refine zaG (t:=(zaN R q x).isSome) (vq0) ?_ ?_
   ·intro hs
    obtain⟨r,hr⟩:=Option.isSome_iff_exists.1 hs
    rw[hr]at hres4
    repeat refine c_r ?_
    refine rq ?_;intro gd K hgd hK
    try simp (disch:=first|omega|assumption|rfl) only[go_sem,d9,h6]
    refine zaK (P:=Tryz.prog) (t:=184) (l:=cs) (Ext.at (hY1.trans hY4) hCY) hres.cells.1 hres.cells.2 (by rw[hres.cells.1];rfl) rfl ?_
    intro z hz' hbz2 hkz
    try simp only[go_sem]
    refine hK _ _ ?_;clear hK hgd;clear K;try clear gd
    repeat refine c_r ?_
    exact⟨.inr ⟨rfl,Keep.to_ext (hEw3.trans (hEY1.trans hY4)) rfl (fun b hb=>by omega) hkz,pre,x,r,cs,rfl,hp,fun l=>by simp only[goL];rw[ht,if_neg Bool.false_ne_true,if_neg (by omega),hr],hbz2,(hres4.keep hkz (fun b hb _=>by omega)).mono (by omega)⟩,((hY1.trans hY4).toB (by omega) (fun _ _ h=>h.elim)).trans (hkz.toB (by omega) (fun i _ h=>h))⟩
   ·intro hs
    have hnone:zaN R q x=Option.none:=by simpa using hs
    repeat refine c_r ?_
    refine⟨⟨hEY1.trans hY4,fun y hy=>?_⟩,(hY1.trans hY4).toB (by omega) (fun _ _ h=>h.elim)⟩
    rcases List.mem_append.1 hy with hy|hy
    ·exact hp y hy
    ·rw[List.mem_singleton.1 hy];exact⟨ht,by omega,hnone⟩
  ·intro B hszB ⟨hEB,hp⟩ hDB
   refine .inl ⟨.inl rfl,rfl,hDB,vq0,vq0,vq0,vq0,hEB,?_⟩
   have:=zez (l:=[]) hp
   rw[List.append_nil]at this
   rw[this];rfl
  ·rintro c pre x0 suf B hszB hxs h hDB
   rcases h with ⟨rfl,hEB,pre',x,hpre,h1,h2,h3⟩| ⟨rfl,hEB,pre',x,r,cs,hpre,h1,h2,h3,h4⟩
   ·obtain⟨rfl,h5⟩:=List.append_inj' hpre rfl
    have hx0:x0=x:=by simpa using h5
    subst hx0
    refine zfg ?_
    refine .inl ⟨.inr rfl,rfl,hDB,vq0,vq0,vq0,vq0,hEB,?_⟩
    rw[hxs,zez h1]
    simp only[goL]
    rw[h2,if_neg Bool.false_ne_true,if_pos h3]
   ·obtain⟨rfl,h5⟩:=List.append_inj' hpre rfl
    have hx0:x0=x:=by simpa using h5
    subst hx0
    refine zjz ?_
    refine .inr ⟨rfl,rfl,hDB,vq0,hEB,r,cs,?_,h3,h4⟩
    rw[hxs,zez h1,h2]
 ·intro e σ1 ds1 v1 hcase
  rcases hcase with ⟨he,rfl,hDv,h3,h4,h6,h2,hEv,hgo⟩| ⟨rfl,rfl,hDv,h6,hEv,r,cs,hgo,hbv,hres⟩
  ·refine zdR he ?_
   have hlk:zbp o R q t=if zbk o R q=true then atL R q t false else match zbN o R q with
     |some s=>atL R s t true
     |Option.none=>⟨3,[],[],false,[]⟩:=by
    unfold zbp
    rw[if_neg (by rw[hu];decide),hgo]
   have hEwv:=hEw3.trans hEv
   have hzv:=hz3.ext hEv
   have hqv':=hq3.ext hEv
   have hCv:=Ext.at hEv hC3
   have d2v:=zah (n:=2) (l:=[ov,lv]) (Ext.at hEv hA3) rfl
   have dqv:zae v1 (some ⟨w.heap.size+1,0,Option.none⟩)=some qv:=zab (Ext.at hEv hB3) rfl
   have hvs:=hEv.size
   have hDlt:w3.heap.size<v1.heap.size:=(Array.getElem?_eq_some_iff.1 hDv).1
   -- a result laid into its variable,and the end
   have fin:∀{Y z:World} {cs:List Value} {r:ResL} {σ':Sto},Ext v1 Y→ResB w0 v1.heap.size Y cs r→r=zbp o R q t→z.heap.size=Y.heap.size→z.heap[w.heap.size+1+1]? =some (.cells cs.toArray 184 (0,0))→Keep (fun i=>i=w.heap.size+1+1) Y z→σ' 6= .pointer (some ⟨w.heap.size+1+1,0,Option.none⟩)→
     z.heap[w3.heap.size]? =some (.deferred (some []))∧∀Z,Keep (fun b=>b=w3.heap.size) z Z→Z.heap.size=z.heap.size→∃rs,resV Tryz.prog 68 σ' Z [.cell 6 184]=some rs∧(Ext w Z∧∃cs,resT rs= .agg cs.toArray∧ResB w0 w.heap.size Z cs (zbp o R q t)):=fun {Y z cs r σ'} hY hres hr hzs hbz hkz h6'=>by
    have hYs:=hY.size
    refine⟨(hkz.block _ (by omega) (by omega)).trans (Ext.at hY hDv),fun Z hkZ hsZ=>⟨_,zaX (x:=⟨w.heap.size+1+1,0,Option.none⟩) (k:=5) ((vq1 h6')) rfl rfl (zah ((hkZ.block _ (by omega) (by omega)).trans hbz) hres.cells.1.symm) zav,?_,_,rfl,?_⟩⟩
    ·exact Keep.to_ext (Keep.to_ext (hEwv.trans hY) rfl (fun b hb=>by omega) hkz) rfl (fun b hb=>by omega) hkZ
    ·rw[←hr]
     exact(((hres.keep hkz (fun b hb _=>by omega)).keep hkZ (fun b hb _=>by omega))).mono (by omega)
   repeat refine c_r ?_
   refine rq ?_;intro gd K hgd hK
   try simp (disch:=first|omega|assumption|rfl) only[go_sem,h3,h4,d2v,dqv]
   refine Fn.mono (zhy hzv hqv' mq.s) ?_
   rintro _ Y1 ⟨rfl,hY1⟩
   try simp only[go_sem]
   refine hK _ _ ?_;clear hK hgd;clear K;try clear gd
   have hzY1:=hzv.ext hY1
   have d2y:=zac hY1 d2v
   have dqy:=zaa hY1 dqv
   have hY1s:=hY1.size
   repeat refine c_r ?_
   refine zaG (t:=zbk o R q) (vq0) ?_ ?_
   ·intro hex
    rw[hex,if_pos rfl]at hlk
    repeat refine c_r ?_
    refine rq ?_;intro gd K hgd hK
    try simp (disch:=first|omega|assumption|rfl) only[go_sem,h3,h4,h2,d2y,dqy]
    refine Fn.mono (At_ok hzY1 hR (hqv'.ext hY1) mq.s) ?_
    rintro _ Y2 ⟨hY2,cs,rfl,hres⟩
    try simp (disch:=first|omega|assumption|rfl) only[go_sem,h6]
    have hY2s:=hY2.size
    refine zaK (P:=Tryz.prog) (t:=184) (l:=cs) (Ext.at (hY1.trans hY2) hCv) hres.cells.1 hres.cells.2 (by rw[hres.cells.1];rfl) rfl ?_
    intro z hz' hbz2 hkz
    try simp only[go_sem]
    refine hK _ _ ?_;clear hK hgd;clear K;try clear gd
    repeat refine c_r ?_
    obtain⟨f1,f2⟩:=fin (hY1.trans hY2) (hres.mono hY1s) hlk.symm hz' hbz2 hkz h6
    refine zba (.inr rfl) Tryz.ntmps149 rfl f1 ?_
    intro Z hkZ hsZ
    exact f2 Z hkZ hsZ
   intro hex
   rw[hex,if_neg Bool.false_ne_true]at hlk
   repeat refine c_r ?_
   refine rq ?_;intro gd K hgd hK
   try simp (disch:=first|omega|assumption|rfl) only[go_sem,h3,h4,d2y,dqy]
   refine Fn.mono (zld hzY1 (hqv'.ext hY1) mq.s ql) ?_
   rintro _ Y2 ⟨hY2,sv,rfl,hsv⟩
   try simp only[go_sem]
   refine hK _ _ ?_;clear hK hgd;clear K;try clear gd
   have hY2s:=hY2.size
   have hzY2:=hzY1.ext hY2
   have d2z:=zac hY2 d2y
   have dqz:=zaa hY2 dqy
   repeat refine c_r ?_
   refine rg0 ?_
   repeat refine c_r ?_
   refine zaG (t:=(zbN o R q).isSome) (vq0) ?_ ?_
   ·intro hs
    obtain⟨s0,hs0⟩:=Option.isSome_iff_exists.1 hs
    rw[hs0]at hlk hsv
    have hsn:s0=zcp o R q:=by
     unfold zbN at hs0
     split at hs0
     ·exact(Option.some.inj hs0).symm
     ·cases hs0
    have hss:NmS s0:=by rw[hsn];exact zjO mq.s ql
    repeat refine c_r ?_
    refine rq ?_;intro gd K hgd hK
    try simp (disch:=first|omega|assumption|rfl) only[go_sem,h3,h2,d2z]
    refine Fn.mono (At_ok hzY2 hR hsv hss) ?_
    rintro _ Y3 ⟨hY3,cs,rfl,hres⟩
    try simp (disch:=first|omega|assumption|rfl) only[go_sem,h6]
    have hY3s:=hY3.size
    refine zaK (P:=Tryz.prog) (t:=184) (l:=cs) (Ext.at ((hY1.trans hY2).trans hY3) hCv) hres.cells.1 hres.cells.2 (by rw[hres.cells.1];rfl) rfl ?_
    intro z hz' hbz2 hkz
    try simp only[go_sem]
    refine hK _ _ ?_;clear hK hgd;clear K;try clear gd
    repeat refine c_r ?_
    obtain⟨f1,f2⟩:=fin ((hY1.trans hY2).trans hY3) (hres.mono (by omega)) hlk.symm hz' hbz2 hkz h6
    refine zba (.inr rfl) Tryz.ntmps149 rfl f1 ?_
    intro Z hkZ hsZ
    exact f2 Z hkZ hsZ
   ·intro hs
    have hs0:zbN o R q=Option.none:=by simpa using hs
    rw[hs0]at hlk
    repeat refine c_r ?_
    refine rq ?_;intro gd K hgd hK
    try simp (disch:=first|omega|assumption|rfl) only[go_sem,h6]
    refine⟨by kernel_rfl,?_⟩
    rw[show bdV Tryz.prog 184 [(0,vi 3)]=some (.agg #[vi 3,.slice Option.none 0 0,.slice Option.none 0 0,.bool false,.slice Option.none 0 0]) from by kernel_rfl]
    try simp (disch:=first|omega|assumption|rfl) only[go_sem,h6]
    refine zaK (P:=Tryz.prog) (t:=184) (l:=[vi 3,.slice Option.none 0 0,.slice Option.none 0 0,.bool false,.slice Option.none 0 0]) (Ext.at (hY1.trans hY2) hCv) rfl (fun v h=>by simp at h;rcases h with rfl|rfl|rfl|rfl|rfl<;>rfl) rfl rfl ?_
    intro z hz' hbz2 hkz
    try simp only[go_sem]
    refine hK _ _ ?_;clear hK hgd;clear K;try clear gd
    repeat refine c_r ?_
    obtain⟨f1,f2⟩:=fin (r:=⟨3,[],[],false,[]⟩) (hY1.trans hY2) ⟨_,_,_,rfl,Rows.nil _ _ _,BlkB.nil,.inr (za8 _),Rows.nil _ _ _,BlkB.nil⟩ hlk.symm hz' hbz2 hkz h6
    refine zba (.inr rfl) Tryz.ntmps149 rfl f1 ?_
    intro Z hkZ hsZ
    exact f2 Z hkZ hsZ
  ·have hlk:zbp o R q t=r:=by
    unfold zbp
    rw[if_neg (by rw[hu];decide),hgo]
   have hDlt:w3.heap.size<v1.heap.size:=(Array.getElem?_eq_some_iff.1 hDv).1
   repeat refine c_r ?_
   refine zba (.inr rfl) Tryz.ntmps149 rfl hDv ?_
   intro Z hkZ hsZ
   refine⟨_,zaX (x:=⟨w.heap.size+1+1,0,Option.none⟩) (k:=5) ((vq1 h6)) rfl rfl (zah ((hkZ.block _ (by have:=hE3.size;omega) (by omega)).trans hbv) hres.cells.1.symm) zav,Keep.to_ext hEv rfl (fun b hb=>by omega) hkZ,_,rfl,?_⟩
   rw[hlk]
   exact(hres.keep hkZ (fun b hb _=>by omega)).mono (by omega)
def LeadR(R:List RecL):Prop:=∀r∈R,(r.dat.ty=2∨r.dat.ty=5∨r.dat.ty=39)→r.dat.names≠ []
theorem zgh{R:List RecL}{n:Nm}{t:Int}{d:DatL}(h:d∈datC R n t):d.ty=t:=by
 unfold datC at h
 obtain⟨x,hx,rfl⟩:=List.mem_map.1 h
 have:=ofC_is x hx
 unfold isL at this
 simp only[Bool.and_eq_true,decide_eq_true_eq]at this
 exact this.1.symm
theorem zlb{w0 w:World}(hE0:Ext w0 w){ov lv:Value}{o:Nm}{R:List RecL}(ho:Row w ov (o.map vs))(hl:Rows 7 (RecAt w0) w lv R)(hok:∀r∈R,zbm r)(hlen:R.length≤1000000000):
  Fn Tryz.prog 111 #[ov,lv] w (fun v w'=>Ext w w'∧∃cv,v= .agg #[ov,cv]∧Rows 7 (RecAt w0) w' cv (zaZ R)):=by
 obtain⟨ao,co,hov,_⟩:=id ho
 obtain⟨no,hno⟩:∃no,(o.map vs).length=no:=⟨_,rfl⟩
 rw[hno]at hov
 refine enter Tryz.func111 Tryz.ntmps111 rfl rfl ?_
 repeat refine c_r ?_
 refine rg0 ?_
 repeat refine c_r ?_
 refine zaB ?_
 intro w1 hE1 hs1 hA
 refine rq ?_;intro gd K hgd hK
 try simp only[go_sem]
 refine Fn.mono (ziT w0 w1 (hE0.trans hE1) (hl.ext hE1) hok hlen) ?_
 rintro cv w2 ⟨hcv,hE2,hcb⟩
 obtain⟨ac,cc,hcve,_⟩:=hcv.open
 try simp only[go_sem]
 refine⟨by kernel_rfl,?_⟩
 rw[hov,hcve,show bdV Tryz.prog 122 [(0,.slice ao no co),(1,.slice ac (zaZ R).length cc)]=some (.agg #[.slice ao no co,.slice ac (zaZ R).length cc]) from by kernel_rfl]
 try simp only[go_sem]
 refine zaK (P:=Tryz.prog) (t:=122) (l:=[.slice ao no co,.slice ac (zaZ R).length cc]) (Ext.at hE2 hA) rfl (fun v h=>by simp at h;rcases h with rfl|rfl<;>rfl) rfl rfl ?_
 intro z hz' hbz hkz
 try simp only[go_sem]
 refine hK _ _ ?_;clear hK hgd;clear K;try clear gd
 repeat refine c_r ?_
 refine zaC (.inr rfl) Tryz.ntmps111 rfl (zaX (x:=⟨w.heap.size,0,Option.none⟩) (k:=2) (vq0) rfl rfl (zah hbz rfl) zav) ?_
 refine⟨Keep.to_ext (hE1.trans hE2) rfl (fun b hb=>by omega) hkz,.slice ac (zaZ R).length cc,by rw[hov];rfl,?_⟩
 rw[←hcve]
 exact hcv.keep hkz hcb (fun b hb _=>by omega)
theorem RZNew_ok{w0 w:World}(hE0:Ext w0 w){ov lv:Value}{o:Nm}{R:List RecL}(ho:Row w ov (o.map vs))(hl:Rows 7 (RecAt w0) w lv R)(hok:∀r∈R,zbm r)(hlen:R.length≤1000000000):
  Fn Tryz.prog 65 #[ov,lv] w (fun v w'=>Ext w w'∧∃cv,v= .agg #[ov,cv]∧Rows 7 (RecAt w0) w' cv (zaZ R)):=by
 obtain⟨ao,co,hov,_⟩:=id ho
 obtain⟨no,hno⟩:∃no,(o.map vs).length=no:=⟨_,rfl⟩
 rw[hno]at hov
 refine enter Tryz.func65 Tryz.ntmps65 rfl rfl ?_
 repeat refine c_r ?_
 refine rg0 ?_
 repeat refine c_r ?_
 refine zaB ?_
 intro w1 hE1 hs1 hA
 refine rq ?_;intro gd K hgd hK
 try simp only[go_sem]
 refine Fn.mono (zlk w0 w1 (hE0.trans hE1) (hl.ext hE1) hok hlen) ?_
 rintro cv w2 ⟨hcv,hE2⟩
 obtain⟨ac,cc,hcve,_⟩:=hcv.rows.open
 try simp only[go_sem]
 refine⟨by kernel_rfl,?_⟩
 rw[hov,hcve,show bdV Tryz.prog 128 [(0,.slice ao no co),(1,.slice ac (zaZ R).length cc)]=some (.agg #[.slice ao no co,.slice ac (zaZ R).length cc]) from by kernel_rfl]
 try simp only[go_sem]
 refine zaK (P:=Tryz.prog) (t:=128) (l:=[.slice ao no co,.slice ac (zaZ R).length cc]) (Ext.at hE2 hA) rfl (fun v h=>by simp at h;rcases h with rfl|rfl<;>rfl) rfl rfl ?_
 intro z hz' hbz hkz
 try simp only[go_sem]
 refine hK _ _ ?_;clear hK hgd;clear K;try clear gd
 repeat refine c_r ?_
 refine zaC (.inr rfl) Tryz.ntmps65 rfl (zaX (x:=⟨w.heap.size,0,Option.none⟩) (k:=2) (vq0) rfl rfl (zah hbz rfl) zav) ?_
 refine⟨Keep.to_ext (hE1.trans hE2) rfl (fun b hb=>by omega) hkz,.slice ac (zaZ R).length cc,by rw[hov];rfl,?_⟩
 rw[←hcve]
 exact hcv.rows.keep hkz hcv.blk (fun b hb _=>by omega)
end Go.Proofs.YtahbdamijngmmaaGreat
