/-
  Texts of a proof, joined: B6, M5cm, E8, B0, L2, B1, B2, B3, E9, E10, F2, Y4, F3, F4, Y5, F5.
  Conditions: none.
-/
import Derived.Test.YtahbdamijngmmaaGreatJRW06
import Derived.Test.YtahbdamijngmmaaGreatJRW02
import Derived.Test.YtahbdamijngmmaaGreatJRW03
import Derived.Test.YtahbdamijngmmaaGreatProg
import Derived.Shelf.Small.Strs
import Derived.Shelf.Strings.Builder1
import Derived.Test.YtahbdamijngmmaaGreatJRW05
set_option linter.unusedVariables false
set_option linter.unusedSimpArgs false
set_option linter.defProp false
set_option linter.unnecessarySimpa false
set_option maxHeartbeats 8000000
namespace Go.Proofs.YtahbdamijngmmaaGreat
open Go
set_option maxRecDepth 10000
theorem zgn{n:Nm}{i:Nat}(hi:i<n.length)(h:∀j (h:j<n.length),j<i→errL n[j]=0)(he:errL n[i]≠0):zaD n=errL n[i]:=by
 unfold zaD
 have:n.find? (fun l=>decide (errL l≠0))=some n[i]:=by
  refine zjj (pre:=n.take i) (suf:=n.drop (i+1)) (zde hi) (fun y hy=>?_) (by simpa using he)
  obtain⟨j,hj,rfl⟩:=List.getElem_of_mem hy
  rw[List.getElem_take]
  simp at hj
  simpa using h j (by omega) (by omega)
 rw[this]
theorem zfB{n:Nm}(h:∀j (h:j<n.length),errL n[j]=0):zaD n=if 255<lenN n then 3 else 0:=by
 unfold zaD
 have:n.find? (fun l=>decide (errL l≠0))=Option.none:=zgf (fun y hy=>by
  obtain⟨j,hj,rfl⟩:=List.getElem_of_mem hy
  simpa using h j hj)
 rw[this]
theorem zbH(w:World)(nv:Value)(n:Nm)(hn:Row w nv (n.map vs))(hl:∀l∈n,l.length≤1000000000)(hnl:n.length≤1000000000):
  Fn Tryz.prog 49 #[nv] w (fun v w'=>v=vi (zaD n)∧Ext w w'):=by
 have hn0:=hn
 obtain⟨an,cn,rfl,hcn,hgn⟩:=hn
 simp only[List.length_map]at hcn hgn hn0
 rw[List.length_map]
 refine enter Tryz.func49 Tryz.ntmps49 rfl rfl ?_
 repeat refine c_r ?_
 refine rg0 ?_
 repeat refine c_r ?_
 refine rg0 ?_
 repeat refine c_r ?_
 refine zam (fun m σ ds A=>ds=[]∧∃(i:Nat),i+m=n.length∧σ 3=vi i∧σ 0= .slice an n.length cn∧Ext w A∧∀j (h:j<n.length),j<i→errL n[j]=0) n.length ?_ ?_
 ·exact⟨rfl,0,by omega,vr0,vq0,Keep.refl _ _,fun j h hj=>absurd hj (by omega)⟩
 rintro m σ ds A ⟨rfl,i,him,h3,h0,hEA,hlow⟩
 repeat refine c_r ?_
 refine rg2 h3 h0 ?_
 repeat refine c_r ?_
 refine wc0 ?_ ?_
 ·intro hlt
  simp only[decide_eq_true_eq]at hlt
  have hi:i<n.length:=by omega
  have hi0:(0:Int)≤(i:Int):=by omega
  have hi1:(i:Int)<(n.length:Int):=by omega
  have hi1':(i:Int)+1=((i+1:Nat):Int):=by push_cast;rfl
  have hg:=zaa hEA (hgn i (by simpa using hi))
  rw[List.getElem_map]at hg
  obtain⟨xn,rfl⟩:=Option.isSome_iff_exists.1 (zag hg)
  repeat refine c_r ?_
  refine rq ?_;intro gd K hgd hK
  try simp (disch:=first|omega|assumption|rfl) only[go_sem,h0,h3,hi0,hi1,hg]
  refine Fn.mono (zf0 A n[i] (by have:=hl n[i] (List.getElem_mem hi);omega)) ?_
  rintro _ A1 ⟨rfl,hE1⟩
  try simp only[go_sem]
  refine hK _ _ ?_;clear hK hgd;clear K;try clear gd
  repeat refine c_r ?_
  refine rg0 ?_
  repeat refine c_r ?_
  refine wc0 ?_ ?_
  ·intro hne
   simp only[Bool.not_eq_true',decide_eq_false_iff_not]at hne
   repeat (first|refine c_r ?_|refine rg0 ?_)
   refine rt0 Tryz.ntmps49 ?_
   exact⟨by rw[zgn hi hlow hne],hEA.trans hE1⟩
  ·intro heq
   simp only[Bool.not_eq_false',decide_eq_true_eq]at heq
   repeat refine c_r ?_
   refine rg2 h3 hi1' ?_
   repeat refine c_r ?_
   refine⟨m - 1,by omega,rfl,i+1,by omega,vq0,(vq1 h0),hEA.trans hE1,fun j hj hji=>?_⟩
   by_cases hj2:j=i
   ·subst hj2;exact heq
   ·exact hlow j hj (by omega)
 ·intro hge
  simp only[decide_eq_false_iff_not]at hge
  have hgood:=zfB (n:=n) (fun j hj=>hlow j hj (by omega))
  repeat refine c_r ?_
  refine rq ?_;intro gd K hgd hK
  try simp (disch:=first|omega|assumption|rfl) only[go_sem,h0]
  refine Fn.mono (RLen_ok A _ n (hn0.ext hEA) hl hnl) ?_
  rintro _ A1 ⟨rfl,hE1⟩
  try simp only[go_sem]
  refine hK _ _ ?_;clear hK hgd;clear K;try clear gd
  repeat refine c_r ?_
  refine wc0 ?_ ?_
  ·intro hb
   simp only[decide_eq_true_eq]at hb
   repeat (first|refine c_r ?_|refine rg0 ?_)
   refine rt0 Tryz.ntmps49 ?_
   exact⟨by rw[hgood,if_pos (by omega)],hEA.trans hE1⟩
  ·intro hb
   simp only[decide_eq_false_iff_not]at hb
   repeat (first|refine c_r ?_|refine rg0 ?_)
   refine rt0 Tryz.ntmps49 ?_
   exact⟨by rw[hgood,if_neg (by omega)],hEA.trans hE1⟩
theorem zmd(w:World)(nv:Value)(n:Nm)(hn:Row w nv (n.map vs))(hl:∀l∈n,l.length≤1000000000)(hnl:n.length≤1000000000):
  Fn Tryz.prog 72 #[nv] w (fun v w'=>v=vi (zaD n)∧Ext w w'):=by
 have hn0:=hn
 obtain⟨an,cn,rfl,hcn,hgn⟩:=hn
 simp only[List.length_map]at hcn hgn hn0
 rw[List.length_map]
 refine enter Tryz.func72 Tryz.ntmps72 rfl rfl ?_
 repeat refine c_r ?_
 refine rg0 ?_
 repeat refine c_r ?_
 refine rg0 ?_
 repeat refine c_r ?_
 refine zam (fun m σ ds A=>ds=[]∧∃(i:Nat),i+m=n.length∧σ 8=vi i∧σ 7=vi n.length∧σ 6= .slice an n.length cn∧σ 0= .slice an n.length cn∧Ext w A∧∀j (h:j<n.length),j<i→errL n[j]=0) n.length ?_ ?_
 ·exact⟨rfl,0,by omega,vr0,vq0,vq0,vq0,Keep.refl _ _,fun j h hj=>absurd hj (by omega)⟩
 rintro m σ ds A ⟨rfl,i,him,h8,h7,h6,h0,hEA,hlow⟩
 repeat refine c_r ?_
 refine rg2 h8 h7 ?_
 repeat refine c_r ?_
 refine wc0 ?_ ?_
 ·intro hlt
  simp only[decide_eq_true_eq]at hlt
  have hi:i<n.length:=by omega
  have hi0:(0:Int)≤(i:Int):=by omega
  have hi1:(i:Int)<(n.length:Int):=by omega
  have hi1':(i:Int)+1=((i+1:Nat):Int):=by push_cast;rfl
  have hg:=zaa hEA (hgn i (by simpa using hi))
  rw[List.getElem_map]at hg
  obtain⟨xn,rfl⟩:=Option.isSome_iff_exists.1 (zag hg)
  repeat refine c_r ?_
  refine rg5 h6 h8 hi0 hi1 hg ?_
  repeat refine c_r ?_
  refine rq ?_;intro gd K hgd hK
  try simp only[go_sem]
  refine Fn.mono (zmf A n[i] (by have:=hl n[i] (List.getElem_mem hi);omega)) ?_
  rintro _ A1 ⟨rfl,hE1⟩
  try simp only[go_sem]
  refine hK _ _ ?_;clear hK hgd;clear K;try clear gd
  repeat refine c_r ?_
  refine rg0 ?_
  repeat refine c_r ?_
  refine wc0 ?_ ?_
  ·intro hne
   simp only[Bool.not_eq_true',decide_eq_false_iff_not]at hne
   repeat (first|refine c_r ?_|refine rg0 ?_)
   refine rt0 Tryz.ntmps72 ?_
   exact⟨by rw[zgn hi hlow hne],hEA.trans hE1⟩
  ·intro heq
   simp only[Bool.not_eq_false',decide_eq_true_eq]at heq
   repeat refine c_r ?_
   refine rg2 h8 hi1' ?_
   repeat refine c_r ?_
   refine⟨m - 1,by omega,rfl,i+1,by omega,vq0,(vq1 h7),(vq1 h6),(vq1 h0),hEA.trans hE1,fun j hj hji=>?_⟩
   by_cases hj2:j=i
   ·subst hj2;exact heq
   ·exact hlow j hj (by omega)
 ·intro hge
  simp only[decide_eq_false_iff_not]at hge
  have hgood:=zfB (n:=n) (fun j hj=>hlow j hj (by omega))
  repeat refine c_r ?_
  refine rq ?_;intro gd K hgd hK
  try simp (disch:=first|omega|assumption|rfl) only[go_sem,h0]
  refine Fn.mono (NLen_ok A _ n (hn0.ext hEA) hl hnl) ?_
  rintro _ A1 ⟨rfl,hE1⟩
  try simp only[go_sem]
  refine hK _ _ ?_;clear hK hgd;clear K;try clear gd
  repeat refine c_r ?_
  refine wc0 ?_ ?_
  ·intro hb
   simp only[decide_eq_true_eq]at hb
   repeat (first|refine c_r ?_|refine rg0 ?_)
   refine rt0 Tryz.ntmps72 ?_
   exact⟨by rw[hgood,if_pos (by omega)],hEA.trans hE1⟩
  ·intro hb
   simp only[decide_eq_false_iff_not]at hb
   repeat (first|refine c_r ?_|refine rg0 ?_)
   refine rt0 Tryz.ntmps72 ?_
   exact⟨by rw[hgood,if_neg (by omega)],hEA.trans hE1⟩
def zbK(q f t:Nm):Nm:=q.take (q.length - f.length)++t
structure NmM(n:Nm):Prop where
 lb:∀l∈n,l.length≤1000000
 len:n.length≤1000000
theorem NmM.LB{n:Nm}(h:NmM n):LB n:=fun l hl=>by have:=h.lb l hl;omega
theorem NmM.s{n:Nm}(h:NmM n):NmS n:=⟨h.LB,by have:=h.len;omega⟩
theorem swap_m{q f t:Nm}(hq:NmM q)(ht:NmM t):(∀l∈zbK q f t,l.length≤1000000000)∧(zbK q f t).length≤2000000:=by
 refine⟨fun l hl=>?_,?_⟩
 ·rcases List.mem_append.1 hl with h|h
  ·have:=hq.lb l (List.mem_of_mem_take h);omega
  ·have:=ht.lb l h;omega
 ·unfold zbK
  rw[List.length_append,List.length_take]
  have:=hq.len
  have:=ht.len
  omega
theorem NSwap_ok(w:World)(qv fv tv:Value)(q f t:Nm)(hq:Row w qv (q.map vs))(hf:Row w fv (f.map vs))(ht:Row w tv (t.map vs))(mq:NmM q)(mf:NmM f)(mt:NmM t)(hu:zaQ q f=true):
  Fn Tryz.prog 134 #[qv,fv,tv] w (fun v w'=>Ext w w'∧(zaD (zbK q f t)=0→∃sv,v= .tuple #[sv,vi 0]∧Row w' sv ((zbK q f t).map vs)∧BlkB w.heap.size w' sv)∧(zaD (zbK q f t)≠0→v= .tuple #[.slice Option.none 0 0,vi 7])):=by
 have hul:=zhg hu
 obtain⟨aq,cq,hqv,hcq,hgq⟩:=id hq
 obtain⟨af,cf,hfv,_⟩:=id hf
 rw[List.length_map]at hqv hcq hfv
 have hfr:Row w (.slice aq (q.length - f.length) cq) ((q.take (q.length - f.length)).map vs):=by
  have hl:((q.take (q.length - f.length)).map vs).length=q.length - f.length:=by rw[List.length_map,List.length_take];omega
  refine⟨aq,cq,by rw[hl],by omega,fun j hj=>?_⟩
  have:=hgq j (by rw[List.length_map];omega)
  rw[this];simp
 have hm:=swap_m (f:=f) mq mt
 have bq:=mq.len
 have bf:=mf.len
 have bt:=mt.len
 refine enter Tryz.func134 Tryz.ntmps134 rfl rfl ?_
 repeat refine c_r ?_
 refine rg0 ?_
 repeat refine c_r ?_
 refine rq ?_;intro gd K hgd hK
 try simp only[go_sem]
 refine Fn.mono (zcN _ _ _ _ _ hq hf mq.LB mf.LB (by have:=mq.len;omega) (by have:=mf.len;omega)) ?_
 rintro _ w1 ⟨rfl,hE1⟩
 try simp only[go_sem]
 refine hK _ _ ?_;clear hK hgd;clear K;try clear gd
 rw[hu]
 repeat refine c_r ?_
 refine wc0 ?_ ?_
 ·intro h;cases h
 intro _
 have e1:(q.length:Int) - (f.length:Int)=((q.length - f.length:Nat):Int):=by omega
 have e2:(0:Int)≤((q.length - f.length:Nat):Int):=by omega
 have e3:((q.length - f.length:Nat):Int)≤(cq:Int):=by omega
 repeat refine c_r ?_
 refine rq ?_;intro gd K hgd hK
 try simp (disch:=first|omega|assumption|rfl) only[go_sem,hqv,hfv,e1,e2,e3,Nat.sub_zero,zaA,ite_self]
 refine Fn.mono (zdc (hfr.ext hE1) (by rw[List.length_take];have:=mq.len;omega)) ?_
 rintro u w2 ⟨hou,hE2⟩
 try simp only[go_sem]
 have hl2:((q.take (q.length - f.length)).map vs).length+(t.map vs).length≤1000000000000:=by
  rw[List.length_map,List.length_map,List.length_take];have:=mq.len;have:=mt.len;omega
 refine zd0 hou (ht.ext (hE1.trans hE2)) (by rfl) (by rfl) (by rfl) (by rfl) (by rfl) (by rfl) (by rfl) (by rfl) (ziz _) hl2 (by decide) hE2.size ?_
 intro sv w3 hs hE3 _ _
 try simp only[go_sem]
 refine hK _ _ ?_;clear hK hgd;clear K;try clear gd
 have hE13:=hE3 w (hE1.trans hE2) hE1.size
 rw[←List.map_append]at hs
 have hsr:Row w3 sv ((zbK q f t).map vs):=hs.row
 obtain⟨as1,cs1,hsv,hcs,hgs⟩:=id hsr
 rw[List.length_map]at hsv hcs
 repeat refine c_r ?_
 refine rq ?_;intro gd K hgd hK
 try simp only[go_sem]
 refine Fn.mono (zmd w3 _ (zbK q f t) hsr hm.1 (by have:=hm.2;omega)) ?_
 rintro _ w4 ⟨rfl,hE4⟩
 try simp only[go_sem]
 refine hK _ _ ?_;clear hK hgd;clear K;try clear gd
 repeat refine c_r ?_
 refine wc0 ?_ ?_
 ·intro hne
  simp only[Bool.not_eq_true',decide_eq_false_iff_not]at hne
  repeat (first|refine c_r ?_|refine rg0 ?_)
  refine zaE (.inr rfl) Tryz.ntmps134 rfl (zat (v:= .slice Option.none 0 0) (vr0) (zat (v:=vi 7) (vr0) zaz)) ?_
  exact⟨hE13.trans hE4,fun h=>absurd h hne,fun _=>rfl⟩
 ·intro heq
  simp only[Bool.not_eq_false',decide_eq_true_eq]at heq
  repeat refine c_r ?_
  refine rq ?_;intro gd K hgd hK
  try simp only[go_sem]
  rw[hsv]
  refine Fn.mono (P_cs.Clip_ok hcs) ?_
  rintro _ y0 ⟨rfl,hy0⟩
  try simp only[go_sem]
  rw[hy0]
  clear hy0 y0
  refine hK _ _ ?_;clear hK hgd;clear K;try clear gd
  repeat refine c_r ?_
  refine zaE (.inr rfl) Tryz.ntmps134 rfl (zat (v:= .slice as1 (zbK q f t).length (zbK q f t).length) (vr0) (zat (v:=vi 0) (vr0) zaz)) ?_
  have hbs:=hs.blk
  rw[hsv]at hbs
  refine⟨hE13.trans hE4,fun _=>⟨_,rfl,?_,(hbs.same.ext hE4.size).mono hE1.size⟩,fun h=>absurd heq h⟩
  exact Row.ext (w:=w3) ⟨as1,(zbK q f t).length,by rw[List.length_map],by rw[List.length_map];exact Nat.le_refl _,hgs⟩ hE4
end Go.Proofs.YtahbdamijngmmaaGreat
namespace Go.Proofs.YtahbdamijngmmaaGreat.P_cm
open Go Go.Proofs.YtahbdamijngmmaaGreat
set_option maxRecDepth 10000
theorem Clip_ok{w:World}{a:Option Addr}{n c:Nat}(hc:n≤c):Fn Tryz.prog 137 #[.slice a n c] w (fun u w'=>u= .slice a n n∧w'=w):=by
 refine enter Tryz.func137 Tryz.ntmps137 rfl rfl ?_
 repeat refine c_r ?_
 refine rg0 ?_
 repeat refine c_r ?_
 refine rq ?_;intro gd K hgd hK
 try simp only[go_sem]
 have hcl:slD Tryz.prog (some (TypeDesc.slice 27)) (Value.slice a n c) Option.none (some (Value.int IntKind.i64 ↑n)) (some (Value.int IntKind.i64 ↑n))=some (.slice a n n):=zdU hc (by rfl)
 rw[hcl]
 try simp only[go_sem]
 refine hK _ _ ?_;clear hK hgd;clear K;try clear gd
 repeat refine c_r ?_
 refine rt0 Tryz.ntmps137 ?_
 exact⟨rfl,rfl⟩
end Go.Proofs.YtahbdamijngmmaaGreat.P_cm
namespace Go.Proofs.YtahbdamijngmmaaGreat
open Go
set_option maxRecDepth 10000
def NmC(w0:World)(cs:List Value)(n:Nm):Prop:=∃v,cs=[v]∧Row w0 v (n.map vs)
theorem nm_shape(w:World):zeQ 1 (NmC w):=by
 refine⟨fun h=>?_,fun h=>?_⟩
 ·obtain⟨v,rfl,_⟩:=h;rfl
 ·obtain⟨v,rfl,a,c,rfl,_⟩:=h
  intro q hq;rw[List.mem_singleton.1 hq];rfl
theorem Own.k1{B:Nat}{w:World}{e:TypeId}{v:Value}{l:List Value}(h:Own B w e v l)(h1:∀q∈l,one q=true):OwnK 1 B w e v (l.map fun q=>[q]):=by
 have hf:∀l:List Value,(l.map fun q=>[q]).flatten=l:=fun l=>by
  induction l with
  |nil=>rfl
  |cons x l ih=>rw[List.map_cons,List.flatten_cons,ih];rfl
 refine⟨by rw[hf,List.length_map];exact h,fun x hx=>?_,fun x hx q hq=>?_⟩
 ·obtain⟨q,_,rfl⟩:=List.mem_map.1 hx;rfl
 ·obtain⟨q',hq',rfl⟩:=List.mem_map.1 hx
  rw[List.mem_singleton.1 hq];exact h1 _ hq'
def zfr(t:Int):Bool:=decide (t=2)|| (decide (t=5)|| (decide (t=12)|| (decide (t=39)||decide (t=15))))
def zaw(t:Int)(ds:List DatL):List Nm:=if zfr t then ds.filterMap fun d=>d.names.head? else []
theorem DatAt.cells{w0:World}{cs:List Value}{d:DatL}(h:DatAt w0 cs d):∃nm,cs[0]? =some (vi d.ty)∧cs[1]? =some nm∧NamesAt w0 nm d.names:=by
 obtain⟨nm,nu,tx,rw',rfl,h1,_⟩:=h.ex
 exact⟨nm,rfl,rfl,h1⟩
theorem zax{w:World}{p:Option Addr}{k j:Nat}{cs:List Value}{u:Value}(h:zas w p k=some cs)(hj:cs[j]? =some u):zae w (adr p j)=some u:=by
 obtain⟨hj1,hj2⟩:=List.getElem?_eq_some_iff.1 hj
 have:=zb8 h hj1
 rw[hj2]at this;exact this
theorem zgq{w0 w:World}(hE0:Ext w0 w){ow tl dv:Value}{t:Int}{ds:List DatL}(how:one ow=true)(htl:one tl=true)(hd:Rows 5 (DatAt w0) w dv ds)(hlen:ds.length≤1000000000):
  Fn Tryz.prog 204 #[.agg #[ow,vi t,tl,dv]] w (fun v w'=>Ext w w'∧Rows 1 (NmC w0) w' v (zaw t ds)∧BlkB w.heap.size w' v):=by
 obtain⟨aD,cD,hdv,hcD,hgD⟩:=hd.open
 refine enter Tryz.func204 Tryz.ntmps204 rfl rfl ?_
 repeat refine c_r ?_
 refine rg0 ?_
 repeat refine c_r ?_
 refine zaB ?_
 intro w1 hE1 hs1 hA
 have p1:zae w1 (some ⟨w.heap.size,1,Option.none⟩)=some (vi t):=zab hA rfl
 have p3:zae w1 (some ⟨w.heap.size,3,Option.none⟩)=some dv:=zab hA rfl
 rw[hdv]at p3
 refine rg0 ?_
 repeat refine c_r ?_
 refine rg2 p1 Nat.zero_add ?_
 refine zau ?_
 refine zay (Q:=fun e σ' ds' v'=>e= .normal∧ds'=[]∧Ext w1 v'∧∃ov,σ' 3=ov∧Owns 1 (NmC w0) w1.heap.size v' 27 ov (zaw t ds)) ?_ ?_
 ·refine zl1 ?_
  refine zfY ?_
  refine zay (Q:=fun e σ' ds' v'=>e= .normal∧ds'=[]∧v'=w1∧σ' 1= .pointer (some ⟨w.heap.size,0,Option.none⟩)∧σ' 3= .slice Option.none 0 0∧σ' 8= .bool (zfr t)) ?_ ?_
  ·have lead:∀{σ':Sto} {b:Bool},b=zfr t→σ' 8= .bool b→σ' 8= .bool (zfr t):=fun h h2=>h▸h2
   refine zfY ?_
   refine rg0 ?_
   refine zau ?_
   refine wc0 ?_ ?_
   ·intro h
    repeat refine c_r ?_
    refine⟨rfl,rfl,rfl,vq0,vq0,lead (b:=true) ?_ (by simp only[go_sem];rw[h])⟩
    unfold zfr;rw[h];rfl
   intro h1
   repeat refine c_r ?_
   refine rg0 ?_
   refine zau ?_
   refine wc0 ?_ ?_
   ·intro h
    repeat refine c_r ?_
    refine⟨rfl,rfl,rfl,vq0,vq0,lead (b:=true) ?_ (by simp only[go_sem];rw[h])⟩
    unfold zfr;rw[h1,h];rfl
   intro h2
   repeat refine c_r ?_
   refine rg0 ?_
   refine zau ?_
   refine wc0 ?_ ?_
   ·intro h
    repeat refine c_r ?_
    refine⟨rfl,rfl,rfl,vq0,vq0,lead (b:=true) ?_ (by simp only[go_sem];rw[h])⟩
    unfold zfr;rw[h1,h2,h];rfl
   intro h3
   repeat refine c_r ?_
   refine rg0 ?_
   refine zau ?_
   refine wc0 ?_ ?_
   ·intro h
    repeat refine c_r ?_
    refine⟨rfl,rfl,rfl,vq0,vq0,lead (b:=true) ?_ (by simp only[go_sem];rw[h])⟩
    unfold zfr;rw[h1,h2,h3,h];rfl
   intro h4
   repeat refine c_r ?_
   refine rg0 ?_
   refine⟨rfl,rfl,rfl,vq0,vq0,?_⟩
   rw[show zfr t=decide (t=15) from by unfold zfr;rw[h1,h2,h3,h4];rfl]
   simp only[go_sem]
  rintro _ σ1 _ v1 ⟨rfl,rfl,hv1,h1,h3,h8⟩
  rw[hv1]
  clear hv1 v1
  refine zau ?_
  refine zaH (t:=zfr t) ((vq1 h8)) ?_ ?_
  ·intro hl
   have htg:∀ds:List DatL,zaw t ds=ds.filterMap fun d=>d.names.head?:=fun ds=>by unfold zaw;rw[if_pos hl]
   repeat refine c_r ?_
   refine rg3 h1 p3 Nat.zero_add ?_
   repeat refine c_r ?_
   refine zam (fun m σ ds' A=>ds'=[]∧∃(i:Nat) (ov:Value),i+m=ds.length∧σ 17=vi i∧σ 16=vi ds.length∧σ 15= .slice aD ds.length cD∧σ 3=ov∧Ext w1 A∧Owns 1 (NmC w0) w1.heap.size A 27 ov (zaw t (ds.take i))) ds.length ?_ ?_
   ·exact⟨rfl,0,.slice Option.none 0 0,by omega,vr0,vr0,vq0,(vq1 h3),Keep.refl _ _,by rw[htg];exact Owns.nil _ _ _ _ _⟩
   rintro m σ ds' A ⟨rfl,i,ov,him,h17,h16,h15,h3,hEA,hov⟩
   repeat refine c_r ?_
   refine rg2 h17 h16 ?_
   repeat refine c_r ?_
   refine wc0 ?_ ?_
   ·intro hlt
    simp only[decide_eq_true_eq]at hlt
    have hi:i<ds.length:=by omega
    have hi0:(0:Int)≤(i:Int):=by omega
    have hi1:(i:Int)<(ds.length:Int):=by omega
    have hi1':(i:Int)+1=((i+1:Nat):Int):=by push_cast;rfl
    obtain⟨cd,hcd,hDd⟩:=hgD i hi
    obtain⟨xD,rfl⟩:=Option.isSome_iff_exists.1 (zaq hcd)
    have hcdA:=zad (hE1.trans hEA) hcd
    obtain⟨nm,nu,tx,rw',hcs,n1,_⟩:=hDd.ex
    obtain⟨vals,⟨an,cn,rfl,hcn,hgn⟩,hvl,hvr⟩:=n1
    have hcd1:=(zc5 w0).ones hDd
    have hcdl:=(zc5 w0).len hDd
    have htk:zaw t (ds.take (i+1))=zaw t (ds.take i)++(ds[i].names.head?).toList:=by
     rw[htg,htg,zap hi,List.filterMap_append]
     congr 1
    repeat refine c_r ?_
    refine rq ?_;intro gd K hgd hK
    try simp (disch:=first|omega|assumption|rfl) only[go_sem,h15,h17,hi0,hi1,hcdA]
    have hB3:=zao A (.cells #[vi 0,.slice Option.none 0 0,.slice Option.none 0 0,.slice Option.none 0 0,.slice Option.none 0 0] 197 (0,0))
    have hE4:=Ext.alloc A (.cells #[vi 0,.slice Option.none 0 0,.slice Option.none 0 0,.slice Option.none 0 0,.slice Option.none 0 0] 197 (0,0))
    have hs4:=zai A (.cells #[vi 0,.slice Option.none 0 0,.slice Option.none 0 0,.slice Option.none 0 0,.slice Option.none 0 0] 197 (0,0))
    revert hB3 hE4 hs4
    generalize A.alloc (.cells #[vi 0,.slice Option.none 0 0,.slice Option.none 0 0,.slice Option.none 0 0,.slice Option.none 0 0] 197 (0,0))=A2
    intro hB3 hE4 hs4
    refine zaM (P:=Tryz.prog) (t:=197) (l:=cd) hB3 hcdl hcd1 (by rw[hcdl];rfl) rfl ?_
    intro A3 hs5 hB5 hk5
    try simp only[go_sem]
    refine hK _ _ ?_;clear hK hgd;clear K;try clear gd
    have hE5:Ext A A3:=Keep.to_ext hE4 rfl (fun b hb=>by omega) hk5
    have q1:zae A3 (some ⟨A.heap.size,1,Option.none⟩)=some (.slice an vals.length cn):=zcs hB5 (by rw[hcs];rfl)
    have hEA3:=hEA.trans hE5
    repeat refine c_r ?_
    refine rg2 q1 Nat.zero_add ?_
    repeat refine c_r ?_
    refine wc0 ?_ ?_
    ·intro hgt
     simp only[decide_eq_true_eq]at hgt
     have hv0:0<vals.length:=by omega
     have hg0:=hgn 0 hv0
     obtain⟨xN,rfl⟩:=Option.isSome_iff_exists.1 (zag hg0)
     have hw03:Ext w0 A3:=hE0.trans (hE1.trans hEA3)
     have hg0':=zaa hw03 hg0
     rw[zaA]at hg0'
     obtain⟨n0,hn0⟩:∃n0,ds[i].names.head? =some n0∧Row w0 (vals[0]) (n0.map vs):=by
      have h1:=hvr 0 hv0 (by omega)
      refine⟨ds[i].names[0]'(by omega),?_,h1⟩
      rw[List.head?_eq_getElem?,List.getElem?_eq_getElem (by omega)]
     obtain⟨a0,c0,hv0e,_⟩:=id hn0.2
     have hz:(0:Int)≤0:=by omega
     repeat refine c_r ?_
     refine rq ?_;intro gd K hgd hK
     try simp (disch:=first|omega|assumption|rfl) only[go_sem,h3,q1,Nat.zero_add,hgt,hz,hg0',Int.toNat_zero,zaA]
     refine zed (z:= .slice Option.none 0 0) (v:=vals[0]) (by rfl) (by rfl) (by rfl) (by rfl) (by rw[hv0e];rfl) ?_
     intro A4 hE6 hs6 ho6
     try simp only[go_sem]
     have hrow:Rows 1 (NmC w0) A4 (.slice (some ⟨A3.heap.size,0,Option.none⟩) 1 1) [n0]:=by
      have h1:=ho6.k1 (fun q hq=>by rw[List.mem_singleton.1 hq,hv0e];rfl)
      exact⟨_,h1.rowK,rfl,fun j h h'=>by
       have:j=0:=by simp at h;omega
       subst this
       exact⟨_,rfl,hn0.2⟩⟩
     have htl2:(zaw t (ds.take i)).length≤ds.length:=by
      rw[htg]
      have:=List.length_filterMap_le (fun d:DatL=>d.names.head?) (ds.take i)
      rw[List.length_take]at this;omega
     refine zaV (nm_shape w0) ((hov.ext hE5).ext hE6) hrow (by rfl) (by rfl) (by rfl) (by rfl) (by rfl) (by rfl) (by decide) (vr0) (vr0) (by simp;omega) (by decide) (by have:=hEA3.size;have:=hE6.size;omega) ?_
     intro ov' A5 hov' hE7 _ _
     try simp only[go_sem]
     refine hK _ _ ?_;clear hK hgd;clear K;try clear gd
     repeat refine c_r ?_
     refine rg2 h17 hi1' ?_
     repeat refine c_r ?_
     exact⟨m - 1,by omega,rfl,i+1,ov',by omega,vq0,(vq1 h16),(vq1 h15),vq0,hE7 w1 (hEA3.trans hE6) (Nat.le_refl _),by rw[htk,hn0.1];exact hov'⟩
    ·intro hgt
     simp only[decide_eq_false_iff_not]at hgt
     have hnil:ds[i].names=[]:=List.length_eq_zero_iff.1 (by omega)
     repeat refine c_r ?_
     refine rg2 h17 hi1' ?_
     repeat refine c_r ?_
     exact⟨m - 1,by omega,rfl,i+1,ov,by omega,vq0,(vq1 h16),(vq1 h15),(vq1 h3),hEA3,by rw[htk,hnil];simpa using hov.ext hE5⟩
   ·intro hge
    simp only[decide_eq_false_iff_not]at hge
    rw[List.take_of_length_le (by omega)]at hov
    repeat refine c_r ?_
    exact⟨rfl,rfl,hEA,ov,h3,hov⟩
  ·intro hl
   have htg:zaw t ds=[]:=by unfold zaw;rw[hl];rfl
   repeat refine c_r ?_
   exact⟨rfl,rfl,Keep.refl _ _,_,h3,by rw[htg];exact Owns.nil _ _ _ _ _⟩
 ·rintro _ σ1 _ v1 ⟨rfl,rfl,hE2,ov,h3,hov⟩
  obtain⟨ag,cg,hov',hcg,_⟩:=hov.rows.open
  rw[hov']at hov
  repeat refine c_r ?_
  refine rq ?_;intro gd K hgd hK
  try simp (disch:=first|omega|assumption|rfl) only[go_sem,h3]
  rw[hov']
  refine Fn.mono (P_cm.Clip_ok hcg) ?_
  rintro _ y0 ⟨rfl,hy0⟩
  try simp only[go_sem]
  rw[hy0]
  clear hy0 y0
  refine hK _ _ ?_;clear hK hgd;clear K;try clear gd
  repeat refine c_r ?_
  refine rt0 Tryz.ntmps204 ?_
  have h4:=hov.rows.take (m:=(zaw t ds).length) (c2:=(zaw t ds).length) (Nat.le_refl _) (Nat.le_refl _)
  rw[List.take_length]at h4
  exact⟨hE1.trans hE2,h4,hov.blk.same.mono (by omega)⟩
structure Bld(B:Nat)(w:World)(b:Nat)(bs:List UInt8):Prop where
 ex:∃p v,(p= .pointer Option.none∨p= .pointer (some ⟨b,0,Option.none⟩))∧w.heap[b]? =some (.cells #[p,v] 282 (0,0))∧Own B w 5 v (bs.map zaf)
theorem zgD{B:Nat}{w:World}{e:TypeId}{v:Value}{l:List Value}(h:Own B w e v l){b:Nat}(hb:some b=v.ownBlock):∃cur fr,w.heap[b]? =some (.cells cur e fr):=by
 rcases h.2 with ⟨rfl,_⟩| ⟨g,cap,cur,rfl,_,hg,_⟩
 ·cases hb
 ·cases hb;exact⟨_,_,hg⟩
theorem bld_ne{B:Nat}{w:World}{v p:Value}{l:List Value}{b:Nat}(h:Own B w 5 v l)(hb:w.heap[b]? =some (.cells #[p,v] 282 (0,0))):some b≠v.ownBlock:=fun he=>by
 obtain⟨cur,fr,h1⟩:=zgD h he
 rw[hb]at h1
 injection h1 with h1
 injection h1 with _ h2
 revert h2;decide
theorem zk0(l:List UInt8):∀q∈l.map zaf,one q=true:=fun q hq=>by
 obtain⟨c,_,rfl⟩:=List.mem_map.1 hq;rfl
theorem zeH{w:World}{b:Nat}{p v:Value}(hp:p= .pointer Option.none∨p= .pointer (some ⟨b,0,Option.none⟩))(hb:w.heap[b]? =some (.cells #[p,v] 282 (0,0))):
  Fn Tryz.prog 208 #[.pointer (some ⟨b,0,Option.none⟩)] w (fun _ w'=>w'.heap[b]? =some (.cells #[.pointer (some ⟨b,0,Option.none⟩),v] 282 (0,0))∧Keep (fun i=>i=b) w w'∧w'.heap.size=w.heap.size):=by
 have c0:zae w (some ⟨b,0,Option.none⟩)=some p:=zab hb rfl
 obtain⟨j,hj,hjs⟩:∃j,Tryz.prog.info? 282=some j∧j.size≠0:=by
  have:(Tryz.prog.info? 282).map (·.size)=some 2:=by kernel_rfl
  obtain⟨j,h1,h2⟩:=Option.map_eq_some_iff.1 this
  exact⟨j,h1,by rw[h2];decide⟩
 rcases hp with rfl|rfl
 ·refine enter Tryz.func208 Tryz.ntmps208 rfl rfl ?_
  repeat refine c_r ?_
  refine rq ?_;intro gd K hgd hK
  try simp (disch:=first|omega|assumption|rfl) only[go_sem,c0,Nat.add_zero]
  refine hK _ _ ?_;clear hK hgd;clear K;try clear gd
  repeat refine c_r ?_
  refine wc0 ?_ ?_
  ·intro _
   have hsh:w.shape? b=some (282,2):=by simp[World.shape?,hb]
   repeat refine c_r ?_
   refine rq ?_;intro gd K hgd hK
   try simp only[go_sem]
   refine zkY (by rfl) (Lib.run_to_unsafe w ⟨b,0,Option.none⟩ (by rfl) (by rfl) hj hjs hsh (Nat.zero_lt_succ 1)) ?_
   try simp only[go_sem]
   refine⟨.pointer (some ⟨b,0,Option.none⟩),w,?_,?_⟩
   ·rw[run_callFunc_extern (show Tryz.prog.funcs[258]? =_ from Tryz.func258) (by kernel_rfl) (by kernel_rfl) (by kernel_rfl) (e:=Extern.AbiNoEscape.same) (by kernel_rfl)]
    rw[Lib.run_noEscape]
    rfl
   try simp only[go_sem]
   refine zkY (by rfl) (Lib.run_from_unsafe w ⟨b,0,Option.none⟩ (by rfl) (by rfl) hj hsh (by kernel_rfl)) ?_
   try simp only[go_sem]
   refine zaY (P:=Tryz.prog) (t:=280) (j:=0) (l:=[.pointer Option.none,v]) hb (by simp) rfl rfl rfl ?_
   intro w1 hs1 hb1 hk1
   try simp only[go_sem]
   refine hK _ _ ?_;clear hK hgd;clear K;try clear gd
   repeat refine c_r ?_
   exact zar (by simp) rfl ⟨by simpa using hb1,hk1,hs1⟩
  ·intro h;cases h
 ·refine enter Tryz.func208 Tryz.ntmps208 rfl rfl ?_
  repeat refine c_r ?_
  refine rq ?_;intro gd K hgd hK
  try simp (disch:=first|omega|assumption|rfl) only[go_sem,c0,Nat.add_zero]
  refine hK _ _ ?_;clear hK hgd;clear K;try clear gd
  repeat refine c_r ?_
  refine wc0 ?_ ?_
  ·intro h;cases h
  intro _
  repeat refine c_r ?_
  refine rq ?_;intro gd K hgd hK
  try simp (disch:=first|omega|assumption|rfl) only[go_sem,c0,Nat.add_zero]
  refine zhK (by rfl) hj (by rfl) (by rfl) ?_
  try simp only[go_sem]
  refine hK _ _ ?_;clear hK hgd;clear K;try clear gd
  repeat refine c_r ?_
  refine wc0 ?_ ?_
  ·intro h;cases h
  intro _
  repeat refine c_r ?_
  exact zar (by simp) rfl ⟨hb,Keep.refl _ _,rfl⟩
theorem zdD{B:Nat}{w:World}{b:Nat}{bs s:List UInt8}(h:Bld B w b bs)(hB:B≤w.heap.size)(hlen:bs.length+s.length≤100000000000):
  Fn Tryz.prog 155 #[.pointer (some ⟨b,0,Option.none⟩),vs s] w (fun _ w'=>Bld B w' b (bs++s)∧Keep (fun i=>i=b∨B≤i) w w'):=by
 obtain⟨p,v,hp,hb,hown⟩:=h.ex
 have hne:=bld_ne hown hb
 obtain⟨inf,hi,hz,hsz,hby⟩:=info_parts (P:=Tryz.prog) (e:=5) (z:= .int .u8 0) (size:=1) (bytes:=1) (by kernel_rfl)
 refine enter Tryz.func155 Tryz.ntmps155 rfl rfl ?_
 repeat refine c_r ?_
 refine rg0 ?_
 repeat refine c_r ?_
 refine rq ?_;intro gd K hgd hK
 try simp only[go_sem]
 refine Fn.mono (zeH hp hb) ?_
 rintro _ w1 ⟨hb1,hk1,hs1⟩
 try simp only[go_sem]
 refine hK _ _ ?_;clear hK hgd;clear K;try clear gd
 have hown1:=hown.keep hk1 (fun i hi he=>hne (he▸hi))
 have c1:zae w1 (some ⟨b,1,Option.none⟩)=some v:=zab hb1 rfl
 repeat refine c_r ?_
 refine rq ?_;intro gd K hgd hK
 try simp (disch:=first|omega|assumption|rfl) only[go_sem,c1,Nat.zero_add]
 refine op_appS hown1 (by rfl) (by rfl) hi hz hsz hby (by rfl) (by rfl) (by simpa using hlen) (by omega) ?_
 intro v2 w2 hown2 hk2
 try simp only[go_sem]
 have hb2:=(hk2.block b (Array.getElem?_eq_some_iff.1 hb1).1 hne).trans hb1
 have hne2:some b≠v2.ownBlock:=fun he=>by
  obtain⟨cur,fr,h1⟩:=zgD hown2 he
  rw[hb2]at h1
  injection h1 with h1
  injection h1 with _ h2
  revert h2;decide
 obtain⟨a2,c2,hv2⟩:=hown2.slice
 refine zaY (P:=Tryz.prog) (t:=90) (j:=1) (l:=[.pointer (some ⟨b,0,Option.none⟩),v]) hb2 (by simp) (by rw[hv2];rfl) rfl rfl ?_
 intro w3 hs3 hb3 hk3
 try simp only[go_sem]
 refine hK _ _ ?_;clear hK hgd;clear K;try clear gd
 have hown3:=hown2.keep hk3 (fun i hi he=>hne2 (he▸hi))
 repeat refine c_r ?_
 refine rg0 ?_
 repeat refine c_r ?_
 refine zaE (.inr rfl) Tryz.ntmps155 rfl (zat rfl (zat rfl zaz)) ?_
 refine⟨⟨⟨_,v2,.inr rfl,by simpa using hb3,by rw[List.map_append];exact hown3⟩⟩,?_⟩
 exact((hk1.mono (fun i _ h=> .inl h)).trans (hk2.mono (fun i _ h=> .inr (hown1.ge h).1))).trans (hk3.mono (fun i _ h=> .inl h))
theorem zeL{B:Nat}{w:World}{b:Nat}{bs:List UInt8}{c:UInt8}(h:Bld B w b bs)(hB:B≤w.heap.size)(hlen:bs.length+1≤100000000000):
  Fn Tryz.prog 211 #[.pointer (some ⟨b,0,Option.none⟩),zaf c] w (fun _ w'=>Bld B w' b (bs++ [c])∧Keep (fun i=>i=b∨B≤i) w w'):=by
 obtain⟨p,v,hp,hb,hown⟩:=h.ex
 have hne:=bld_ne hown hb
 refine enter Tryz.func211 Tryz.ntmps211 rfl rfl ?_
 repeat refine c_r ?_
 refine rg0 ?_
 repeat refine c_r ?_
 refine rq ?_;intro gd K hgd hK
 try simp only[go_sem]
 refine Fn.mono (zeH hp hb) ?_
 rintro _ w1 ⟨hb1,hk1,hs1⟩
 try simp only[go_sem]
 refine hK _ _ ?_;clear hK hgd;clear K;try clear gd
 have hown1:=hown.keep hk1 (fun i hi he=>hne (he▸hi))
 have c1:zae w1 (some ⟨b,1,Option.none⟩)=some v:=zab hb1 rfl
 repeat refine c_r ?_
 refine rq ?_;intro gd K hgd hK
 try simp (disch:=first|omega|assumption|rfl) only[go_sem,c1,Nat.zero_add]
 refine zed (z:= .int .u8 0) (v:=zaf c) (by rfl) (by rfl) (by rfl) (by rfl) (by rfl) ?_
 intro x1 hX1 hXs hXo
 try simp only[go_sem]
 refine zd0 (B:=B) (hown1.ext hX1) hXo.row (by rfl) (by rfl) (by rfl) (by rfl) (by rfl) (by rfl) (by rfl) (by rfl) (zk0 [c]) (by simp;omega) (by decide) (by have:=hX1.size;omega) ?_
 intro v2 w2 hown2 _ hk2 hfr
 try simp only[go_sem]
 have hb2:=(hk2.block b (by have:=(Array.getElem?_eq_some_iff.1 hb1).1;have:=hX1.size;omega) hne).trans (Ext.at hX1 hb1)
 have hne2:some b≠v2.ownBlock:=fun he=>by
  obtain⟨cur,fr,h1⟩:=zgD hown2 he
  rw[hb2]at h1
  injection h1 with h1
  injection h1 with _ h2
  revert h2;decide
 obtain⟨a2,c2,hv2⟩:=hown2.slice
 refine zaY (P:=Tryz.prog) (t:=90) (j:=1) (l:=[.pointer (some ⟨b,0,Option.none⟩),v]) hb2 (by simp) (by rw[hv2];rfl) rfl rfl ?_
 intro w3 hs3 hb3 hk3
 try simp only[go_sem]
 refine hK _ _ ?_;clear hK hgd;clear K;try clear gd
 have hown3:=hown2.keep hk3 (fun i hi he=>hne2 (he▸hi))
 repeat refine c_r ?_
 refine rg0 ?_
 repeat refine c_r ?_
 refine zaE (.inr rfl) Tryz.ntmps211 rfl (zat rfl zaz) ?_
 refine⟨⟨⟨_,v2,.inr rfl,by simpa using hb3,by rw[List.map_append];exact hown3⟩⟩,?_⟩
 exact(((hk1.mono (fun i _ h=> .inl h)).trans (hX1.mono (fun i _ h=>h.elim))).trans (hk2.mono (fun i _ h=> .inr (hown1.ge h).1))).trans (hk3.mono (fun i _ h=> .inl h))
theorem ziF(w:World)(p:Addr)(n:Nat):Keep (fun i=>i=p.block) w (w.freeze p n):=by
 unfold World.freeze
 split
 ·exact Keep.refl _ _
 ·exact⟨rfl,rfl,rfl,by simp,fun k hk hne=>by
   simp only[Array.getElem?_modify]
   rw[if_neg (fun h=>hne h.symm)],Nat.le_refl _⟩
theorem zie{B:Nat}{w:World}{b:Nat}{bs:List UInt8}(h:Bld B w b bs)(h0:bs≠ [])(hlen:bs.length≤100000000000):
  Fn Tryz.prog 157 #[.pointer (some ⟨b,0,Option.none⟩)] w (fun v w'=>v=vs bs∧Keep (fun i=>B≤i) w w'):=by
 obtain⟨p,v,hp,hb,hown⟩:=h.ex
 rcases hown.2 with ⟨rfl,hl⟩| ⟨g,cap,cur,rfl,hgB,hg,hn,hcap,hcs,hx⟩
 ·exact absurd (by simpa using hl) h0
 simp only[List.length_map,Nat.mul_one]at hn hx hb hcs
 have hlen0:0<bs.length:=List.length_pos_iff.2 h0
 refine enter Tryz.func157 Tryz.ntmps157 rfl rfl ?_
 repeat refine c_r ?_
 refine rg0 ?_
 repeat refine c_r ?_
 have hbg:b≠g:=fun he=>by
  subst he
  rw[hb]at hg
  injection hg with hg
  injection hg with _ h2
  revert h2;decide
 have hc0:cap≠0:=by omega
 refine zaJ (fun _=>false) [(0,true),(1,true),(2,true),(3,true),(5,true),(6,true),(7,true),(8,true),(9,true),(4,false),(10,false),(11,true)] ((fun i=>i=g)) mixed (by kernel_rfl) ?_;intro gd K x hgd hx hxe hK;have hx0:=zh2 hxe;clear hxe
 have c1:zae x (some ⟨b,1,Option.none⟩)=some (.slice (some ⟨g,0,Option.none⟩) bs.length cap):=zab (Ext.at hx0 hb) rfl
 have hgx:=Ext.at hx0 hg
 simp (disch:=first|omega|assumption|rfl) only[go_sem,c1,Nat.zero_add]
 refine⟨fun a ha hb=>(by cases ha;exact hbg hb),fun a ha hb=>(by cases ha;exact hbg hb),?_⟩
 refine zhB (u:= .slice (some ⟨g,0,Option.none⟩) bs.length cap) (vq0) (Lib.run_unsafeSliceData_row _ _ _ _ _ _ hc0) ?_
 refine⟨.inr (Keep.refl _ _),?_⟩
 refine zfo (u:= .pointer (some ⟨g,0,Option.none⟩)) (z:=vi bs.length) (vq0) (vq0) (Lib.run_unsafeString_row (P:=Tryz.prog) _ _ _ _ 5 (by rfl) (by rfl) g (cap*1) (by simp[World.shape?,hgx,hcs]) bs h0 (by omega) (by omega) ?_) ?_
 ·intro j y hj
  obtain⟨hj1,hj2⟩:=List.getElem?_eq_some_iff.1 hj
  have hcell:=hown.row
  obtain⟨a,c,e,hc,hgt⟩:=hcell.ext hx0
  injection e with e1 e2 e3
  have h2:=hgt j (by simpa using hj1)
  rw[←e1,List.getElem_map,hj2]at h2
  exact h2
 have hfk:Keep (fun i=>i=g) x (x.freeze ⟨g,0,Option.none⟩ bs.length):=ziF x ⟨g,0,Option.none⟩ bs.length
 refine⟨.inr hfk,?_⟩
 refine hK _ _ ?_;clear hK hgd;clear K;try clear gd
 repeat refine c_r ?_
 refine zaE (.inr rfl) Tryz.ntmps157 rfl (zat (vr0) zaz) ?_
 exact⟨rfl,(hx0.mono (fun i _ h=>h.elim)).trans (hfk.mono (fun i _ h=>h▸hgB))⟩
end Go.Proofs.YtahbdamijngmmaaGreat
namespace Go.Proofs
open Go.Shelf
def Tryz.lays137_ren:Go.Shelf.Ren:=⟨fun|137=>210|217=>259|266=>285|n=>n,fun|9=>9|5=>5|3=>3|n=>n,fun|n=>n⟩
theorem Tryz.lays137:Go.Proofs.Lays.n137 Tryz.prog Tryz.lays137_ren:={
 mixed:=by kernel_rfl
 f137:=Tryz.func210.trans (congrArg some (by kernel_rfl))
 f217:=Tryz.func259.trans (congrArg some (by kernel_rfl))
 f266:=Tryz.func285.trans (congrArg some (by kernel_rfl))
 t3:=Tryz.underlying3
 a3:=Tryz.isAgg3
 z3:=Tryz.sizeOf3
 v3:=Tryz.zeroValue3
 t5:=Tryz.underlying5
 a5:=Tryz.isAgg5
 z5:=Tryz.sizeOf5
 v5:=Tryz.zeroValue5
 t9:=Tryz.underlying9
 a9:=Tryz.isAgg9
 z9:=Tryz.sizeOf9
 v9:=Tryz.zeroValue9}
end Go.Proofs
namespace Go.Proofs.YtahbdamijngmmaaGreat
open Go
set_option maxRecDepth 10000
def escB(c:UInt8):List UInt8:=[92,UInt8.ofNat (48+c.toNat / 100),UInt8.ofNat (48+c.toNat / 10 % 10),UInt8.ofNat (48+c.toNat % 10)]
def marksL:List UInt8:=[46,92,34,40,41,59,64,36]
def labB(c:UInt8):List UInt8:=if c.toNat≤32∨127≤c.toNat then escB c else if marksL.contains c then [92,c] else [c]
def zba(l:Lab):List UInt8:=l.flatMap labB
def zbI(n:Nm):List UInt8:=if n=[] then [46] else n.flatMap fun l=>zba l++ [46]
theorem zec{k:Nat}(h:k<256):zaf (UInt8.ofNat k)= .int .u8 (k:Int):=by
 unfold zaf
 rw[UInt8.toNat_ofNat_of_lt' (by simpa [UInt8.size] using h)]
theorem zgP(l:List UInt8)(c:UInt8):decide (0≤Lib.indexByte l c)=l.contains c:=by
 induction l with
 |nil=>rfl
 |cons b l ih=>
  unfold Lib.indexByte
  rw[List.contains_cons]
  by_cases h:b==c
  ·rw[if_pos h]
   have h':b=c:=by simpa using h
   subst h'
   simp
  ·rw[if_neg h]
   have:(c==b)=false:=by
    have h':¬b=c:=by simpa using h
    exact beq_eq_false_iff_ne.2 (fun e=>h' e.symm)
   rw[this,Bool.false_or,←ih]
   have hge:=Lib.indexByte_ge l c
   by_cases h2:(Lib.indexByte l c== -1)=true
   ·rw[if_pos h2]
    have h3:Lib.indexByte l c= -1:=by simpa using h2
    rw[h3]
   ·rw[if_neg h2]
    have h3:Lib.indexByte l c≠ -1:=by simpa using h2
    exact decide_eq_decide.2 ⟨fun _=>by omega,fun _=>by omega⟩
theorem labB_ne(c:UInt8):labB c≠ []:=by
 unfold labB escB
 by_cases h1:c.toNat≤32∨127≤c.toNat
 ·rw[if_pos h1];exact List.cons_ne_nil _ _
 ·rw[if_neg h1]
  by_cases h2:marksL.contains c=true
  ·rw[if_pos h2];exact List.cons_ne_nil _ _
  ·rw[if_neg h2];exact List.cons_ne_nil _ _
theorem labB_len(c:UInt8):(labB c).length≤4:=by
 unfold labB escB
 by_cases h1:c.toNat≤32∨127≤c.toNat
 ·rw[if_pos h1];exact Nat.le_refl _
 ·rw[if_neg h1]
  by_cases h2:marksL.contains c=true
  ·rw[if_pos h2];exact(by decide:2≤4)
  ·rw[if_neg h2];exact(by decide:1≤4)
theorem zdT(l:Lab):(zba l).length≤4*l.length:=by
 induction l with
 |nil=>simp[zba]
 |cons c l ih=>
  have:=labB_len c
  unfold zba at*
  rw[List.flatMap_cons,List.length_append,List.length_cons];omega
theorem zml(w:World)(c:UInt8):Fn Tryz.prog 209 #[zaf c] w (fun v w'=>v=vs (escB c)∧Ext w w'):=by
 have hc:c.toNat<256:=c.toNat_lt
 obtain⟨n,hn⟩:∃n,c.toNat=n:=⟨_,rfl⟩
 have e0:zaf c= .int .u8 (n:Int):=by unfold zaf;rw[hn]
 rw[e0]
 rw[hn]at hc
 have h100:¬(100:Int)=0:=by decide
 have h10:¬(10:Int)=0:=by decide
 have e1:((n:Nat):Int).tdiv 100=((n / 100:Nat):Int):=by rw[Int.tdiv_eq_ediv_of_nonneg (by omega)];omega
 have e2:((n:Nat):Int).tdiv 10=((n / 10:Nat):Int):=by rw[Int.tdiv_eq_ediv_of_nonneg (by omega)];omega
 have e3:((n / 10:Nat):Int).tmod 10=((n / 10 % 10:Nat):Int):=by rw[Int.tmod_eq_emod_of_nonneg (by omega)];omega
 have e4:((n:Nat):Int).tmod 10=((n % 10:Nat):Int):=by rw[Int.tmod_eq_emod_of_nonneg (by omega)];omega
 have w1:IntKind.u8.wrap ((n / 100:Nat):Int)=((n / 100:Nat):Int):=zjC (by omega) (by omega)
 have w2:IntKind.u8.wrap ((n / 10:Nat):Int)=((n / 10:Nat):Int):=zjC (by omega) (by omega)
 have w3:IntKind.u8.wrap (48+((n / 100:Nat):Int))=((48+n / 100:Nat):Int):=by rw[zjC (by omega) (by omega)];push_cast;rfl
 have w4:IntKind.u8.wrap (48+((n / 10 % 10:Nat):Int))=((48+n / 10 % 10:Nat):Int):=by rw[zjC (by omega) (by omega)];push_cast;rfl
 have w5:IntKind.u8.wrap (48+((n % 10:Nat):Int))=((48+n % 10:Nat):Int):=by rw[zjC (by omega) (by omega)];push_cast;rfl
 have hl:escB c=[92,UInt8.ofNat (48+n / 100),UInt8.ofNat (48+n / 10 % 10),UInt8.ofNat (48+n % 10)]:=by unfold escB;rw[hn]
 refine enter Tryz.func209 Tryz.ntmps209 rfl rfl ?_
 repeat refine c_r ?_
 refine rg0 ?_
 repeat refine c_r ?_
 refine rq ?_;intro gd K hgd hK
 try simp (disch:=assumption) only[go_sem,b_quo,b_rem,e1,e2,e3,e4,w1,w2,↓w3,↓w4,↓w5]
 refine zbC (z:= .int .u8 0) (l:=(escB c).map zaf) (by rw[hl];rfl) ?_ (by rfl) (by rfl) (by rfl) (by rfl) (fun v hv=>?_) (by rw[hl];simp) ?_
 ·rw[hl]
  simp only[List.map_cons,List.map_nil]
  rw[zec (by omega),zec (by omega),zec (by omega)];rfl
 ·obtain⟨d,_,rfl⟩:=List.mem_map.1 hv;rfl
 intro x1 hX1 hXs hXo
 try simp only[go_sem]
 have hlen4:(escB c).length=4:=rfl
 refine zb3 (l:=escB c) rfl rfl rfl (vr0) (fun j hj=>?_) ?_
 ·obtain⟨a,c2,e,hc2,hgt⟩:=hXo.row
  injection e with e1
  have h2:=hgt j (by simpa using hj)
  rw[←e1,List.getElem_map]at h2
  exact h2
 try simp only[go_sem]
 refine hK _ _ ?_;clear hK hgd;clear K;try clear gd
 repeat refine c_r ?_
 refine rt0 Tryz.ntmps209 ?_
 exact⟨rfl,hX1⟩
theorem zih(w:World)(c:UInt8):Fn Tryz.prog 210 #[vs marksL,zaf c] w (fun v w'=>v=vi (Lib.indexByte marksL c)∧w'=w):=
 Fn.of_calls (Calls.mono (Any.strings_IndexByte Tryz.lays137 ⟨marksL.toArray⟩ (c.toNat:Int) w) fun _ _ ⟨he,hw⟩=>⟨_,he,by simp,hw⟩)
theorem Bld.ext'{B:Nat}{w x:World}{b:Nat}{bs:List UInt8}(h:Bld B w b bs)(hE:Ext w x):Bld B x b bs:=by
 obtain⟨p,v,hp,hb,hown⟩:=h.ex
 exact⟨p,v,hp,hE.at hb,hown.ext hE⟩
theorem LText_ok(w:World)(l:Lab)(h0:l≠ [])(hl:l.length≤1000000000):Fn Tryz.prog 156 #[vs l] w (fun v w'=>v=vs (zba l)∧Ext w w'):=by
 refine enter Tryz.func156 Tryz.ntmps156 rfl rfl ?_
 repeat refine c_r ?_
 refine rg0 ?_
 repeat refine c_r ?_
 refine rg0 ?_
 refine zaB ?_
 intro w1 hE1 hs1 hA
 repeat refine c_r ?_
 refine rq ?_;intro gd K hgd hK
 try simp only[go_sem]
 refine Fn.mono (zhI _ _ (by omega)) ?_
 rintro _ w3 ⟨hE3,cap,rfl,hit⟩
 try simp only[go_sem]
 refine hK _ _ ?_;clear hK hgd;clear K;try clear gd
 have hA3:=hE3.at hA
 have s3:=hE3.size
 repeat refine c_r ?_
 refine zdN (g:=207) (cap:=cap) (vq0) rfl (hit (fun b=>b=w.heap.size) (fun b hb=>by omega)) (Keep.refl _ _) (Nat.le_refl _) (fun b hb=>by omega)
  (fun x A args h=>by rw[h];rfl)
  (fun pre A=>Ext w A∧Bld (w3.heap.size+2) A w.heap.size (zba (l.take pre.length)))
  (fun _ _ _=>False) ?_ (fun _ _ _ _ h _=>h.elim) ?_ ?_ ?_ (fun _ _ _ _ _ _ _ h _=>h.elim)
 ·rintro pre A B ⟨h1,p,v,hp,hb,hown⟩ hk
  refine⟨Keep.to_ext h1 rfl (fun b hb=>by unfold two at hb;omega) hk,p,v,hp,(hk.block _ (Array.getElem?_eq_some_iff.1 hb).1 (by unfold two;omega)).trans hb,hown.keep hk (fun b hb h=>by have:=(hown.ge hb).1;unfold two at h;omega)⟩
 ·exact⟨hE1.trans hE3,_,_,.inl rfl,hA3,Own.nil _ _ _⟩
 ·rintro lp pre x suf A args hxs hszA ⟨hEA,hB⟩ rfl
  obtain⟨hk,rfl⟩:=zez hxs
  dsimp only
  refine rq ?_;intro gd K hgd hK
  try simp only[go_sem]
  refine hK _ _ ?_;clear hK hgd;clear K;try clear gd
  refine zau ?_
  refine⟨rfl,KeepB.refl _ _ _,fun A2 hA2=>?_⟩
  obtain⟨c,hc⟩:∃c,l[pre.length]=c:=⟨_,rfl⟩
  rw[hc]
  have hK2:Bld (w3.heap.size+2) A2 w.heap.size (zba (l.take pre.length)):=by
   obtain⟨p,v,hp,hb,hown⟩:=hB
   exact⟨p,v,hp,(hA2.block _ (Array.getElem?_eq_some_iff.1 hb).1 (by unfold two;omega)).trans hb,hown.keep hA2 (fun b hb h=>by have:=(hown.ge hb).1;unfold two at h;omega)⟩
  have hE2:Ext w A2:=Keep.to_ext hEA rfl (fun b hb=>by unfold two at hb;omega) hA2
  have hsA2:=hA2.size
  have htl:(zba (l.take pre.length)).length≤4*l.length:=by
   have h1:=zdT (l.take pre.length)
   rw[List.length_take]at h1;omega
  have htk:zba (l.take (pre.length+1))=zba (l.take pre.length)++labB c:=by
   rw[zap hk,hc];unfold zba;rw[List.flatMap_append];simp
  have fin:∀{z:World} {bs:List UInt8},bs=labB c→Bld (w3.heap.size+2) z w.heap.size (zba (l.take pre.length)++bs)→Keep (fun i=>i=w.heap.size∨w3.heap.size+2≤i) A2 z→
    (Ext w z∧Bld (w3.heap.size+2) z w.heap.size (zba (l.take (pre++ [(c,pre.length)]).length)))∧KeepB (w3.heap.size+2) (fun b=>b=w.heap.size) A2 z:=fun {z bs} hbs hBz hkz=>by
   refine⟨⟨Keep.to_ext hE2 rfl (fun b hb=>by omega) hkz,?_⟩,hkz.toB (by omega) (fun i hi h=>by omega)⟩
   rw[List.length_append,List.length_singleton,htk,←hbs];exact hBz
  repeat refine c_r ?_
  refine zay (Q:=fun e σ' ds' v'=>e= .normal∧ds'=[]∧v'=A2∧σ' 5=zaf c∧σ' 3= .pointer (some ⟨w.heap.size,0,Option.none⟩)∧σ' 10= .bool (decide (c.toNat≤32∨127≤c.toNat))) ?_ ?_
  ·refine rq ?_;intro gd K hgd hK
   have hg2:∀n σ b,zav gd n σ (some (2,b))=zal (ev n σ (.tmp 13)) b:=(fun n σ b=>by rw[zac,show gd 2=some 13 from(by rw[hgd];rfl)];rfl)
   by_cases c1:(c.toNat:Int)≤32
   ·try simp (disch:=first|omega|assumption|rfl) only[go_sem,zaf,decide_eq_true c1,↓hg2]
    refine hK _ _ ?_;clear hK hgd;clear K;try clear gd
    refine⟨rfl,rfl,rfl,by simp only[go_sem,zaf],vq0,?_⟩
    rw[show decide (c.toNat≤32∨127≤c.toNat)=true from decide_eq_true (.inl (by omega))]
    simp only[go_sem]
   ·try simp (disch:=first|omega|assumption|rfl) only[go_sem,zaf,decide_eq_false c1,↓hg2]
    refine hK _ _ ?_;clear hK hgd;clear K;try clear gd
    refine⟨rfl,rfl,rfl,by simp only[go_sem,zaf],vq0,?_⟩
    rw[show decide (c.toNat≤32∨127≤c.toNat)=decide ((127:Int)≤(c.toNat:Int)) from decide_eq_decide.2 ⟨fun h=>by omega,fun h=> .inr (by omega)⟩]
    simp only[go_sem]
  rintro _ σ1 _ v1 ⟨rfl,rfl,hv1,h5,h3,h10⟩
  rw[hv1]
  clear hv1 v1
  repeat refine c_r ?_
  refine zaH (t:=decide (c.toNat≤32∨127≤c.toNat)) ((vq1 h10)) ?_ ?_
  ·intro hcc
   simp only[decide_eq_true_eq]at hcc
   have hlb:labB c=escB c:=by unfold labB;rw[if_pos hcc]
   repeat refine c_r ?_
   refine rq ?_;intro gd K hgd hK
   try simp (disch:=first|omega|assumption|rfl) only[go_sem,h5,h3]
   refine Fn.mono (zml A2 c) ?_
   rintro _ z1 ⟨rfl,hz1⟩
   try simp (disch:=first|omega|assumption|rfl) only[go_sem,h3]
   have hBz:=hK2.ext' hz1
   refine Fn.mono (zdD hBz (by have:=hz1.size;omega) (by have:(escB c).length=4:=rfl;omega)) ?_
   rintro _ z2 ⟨hBz2,hkz2⟩
   try simp only[go_sem]
   refine hK _ _ ?_;clear hK hgd;clear K;try clear gd
   repeat refine c_r ?_
   exact fin hlb.symm hBz2 ((hz1.mono (fun i _ h=>h.elim)).trans hkz2)
  ·intro hcc
   simp only[decide_eq_false_iff_not]at hcc
   repeat refine c_r ?_
   refine rq ?_;intro gd K hgd hK
   try simp (disch:=first|omega|assumption|rfl) only[go_sem,h5]
   refine Fn.mono (zih A2 c) ?_
   rintro _ y0 ⟨rfl,hy0⟩
   try simp only[go_sem]
   rw[hy0]
   clear hy0 y0
   refine hK _ _ ?_;clear hK hgd;clear K;try clear gd
   have hhas:=zgP marksL c
   have tail:∀{z:World} {σ':Sto} {bs:List UInt8},bs++ [c]=labB c→Bld (w3.heap.size+2) z w.heap.size (zba (l.take pre.length)++bs)→Keep (fun i=>i=w.heap.size∨w3.heap.size+2≤i) A2 z→σ' 5=zaf c→σ' 3= .pointer (some ⟨w.heap.size,0,Option.none⟩)→bs.length≤4→
     Fn Tryz.prog 211 #[.pointer (some ⟨w.heap.size,0,Option.none⟩),zaf c] z (fun _ z'=>(Ext w z'∧Bld (w3.heap.size+2) z' w.heap.size (zba (l.take (pre++ [(c,pre.length)]).length)))∧KeepB (w3.heap.size+2) (fun b=>b=w.heap.size) A2 z'):=fun {z σ' bs} hbs hBz hkz _ _ hb4=>by
    refine Fn.mono (zeL hBz (by have:=hkz.size;omega) (by simp;omega)) ?_
    rintro _ z' ⟨h1,h2⟩
    exact fin hbs (by rw[←List.append_assoc];exact h1) (hkz.trans h2)
   repeat refine c_r ?_
   refine zaH (t:=marksL.contains c) (by rw[←hhas];simp only[go_sem]) ?_ ?_
   ·intro hm
    have hlb:labB c=[92,c]:=by unfold labB;rw[if_neg hcc,if_pos hm]
    repeat refine c_r ?_
    refine rq ?_;intro gd K hgd hK
    try simp (disch:=first|omega|assumption|rfl) only[go_sem,h3]
    refine Fn.mono (zeL (c:=92) hK2 (by omega) (by omega)) ?_
    rintro _ z1 ⟨hBz1,hkz1⟩
    try simp only[go_sem]
    refine hK _ _ ?_;clear hK hgd;clear K;try clear gd
    repeat refine c_r ?_
    refine rq ?_;intro gd K hgd hK
    try simp (disch:=first|omega|assumption|rfl) only[go_sem,h3,h5]
    refine Fn.mono (tail (σ':=σ1) (bs:=[92]) hlb.symm hBz1 hkz1 h5 h3 (by decide)) ?_
    rintro _ z2 hz2
    try simp only[go_sem]
    refine hK _ _ ?_;clear hK hgd;clear K;try clear gd
    repeat refine c_r ?_
    exact hz2
   ·intro hm
    have hlb:labB c=[c]:=by unfold labB;rw[if_neg hcc,if_neg (by rw[hm];exact Bool.false_ne_true)]
    repeat refine c_r ?_
    refine rq ?_;intro gd K hgd hK
    try simp (disch:=first|omega|assumption|rfl) only[go_sem,h3,h5]
    refine Fn.mono (tail (σ':=σ1) (bs:=[]) hlb.symm (by simpa using hK2) (Keep.refl _ _) h5 h3 (by decide)) ?_
    rintro _ z2 hz2
    try simp only[go_sem]
    refine hK _ _ ?_;clear hK hgd;clear K;try clear gd
    repeat refine c_r ?_
    exact hz2
 ·intro A hszA ⟨hEA,hB⟩ hD
  rw[List.take_of_length_le (by simp)]at hB
  have htx:zba l≠ []:=by
   cases l with
   |nil=>exact absurd rfl h0
   |cons c l=>
    unfold zba
    rw[List.flatMap_cons]
    intro h
    exact labB_ne c (List.append_eq_nil_iff.1 h).1
  have hlt:=zdT l
  repeat refine c_r ?_
  refine rq ?_;intro gd K hgd hK
  try simp only[go_sem]
  refine Fn.mono (zie hB htx (by omega)) ?_
  rintro _ z ⟨rfl,hkz⟩
  try simp only[go_sem]
  refine hK _ _ ?_;clear hK hgd;clear K;try clear gd
  repeat refine c_r ?_
  refine zdh (v:=vs (zba l)) (.inr rfl) (by rfl) Tryz.ntmps156 (vq0) ((hkz.block _ (by omega) (by omega)).trans hD) ?_
  intro Z hkZ hsZ
  exact⟨rfl,Keep.to_ext (Keep.to_ext hEA rfl (fun b hb=>by omega) hkz) rfl (fun b hb=>by omega) hkZ⟩
theorem ze8(n:Nm):(n.flatMap fun l=>zba l++ [46]).length≤4*(n.map List.length).sum+n.length:=by
 induction n with
 |nil=>simp
 |cons l n ih=>
  have:=zdT l
  rw[List.flatMap_cons,List.length_append,List.map_cons,List.sum_cons,List.length_cons]
  simp only[List.length_append,List.length_singleton]
  omega
theorem ze4(w:World)(nv:Value)(n:Nm)(hn:Row w nv (n.map vs))(hne:∀l∈n,l≠ [])(hl:∀l∈n,l.length≤1000000)(hnl:n.length≤1000):
  Fn Tryz.prog 104 #[nv] w (fun v w'=>v=vs (zbI n)∧Ext w w'):=by
 obtain⟨an,cn,rfl,hcn,hgn⟩:=hn
 simp only[List.length_map]at hcn hgn
 rw[List.length_map]
 refine enter Tryz.func104 Tryz.ntmps104 rfl rfl ?_
 repeat refine c_r ?_
 refine rg0 ?_
 repeat refine c_r ?_
 refine rg0 ?_
 repeat refine c_r ?_
 refine wc0 ?_ ?_
 ·intro h0
  simp only[decide_eq_true_eq]at h0
  have hn0:n=[]:=List.length_eq_zero_iff.1 (by omega)
  repeat (first|refine c_r ?_|refine rg0 ?_)
  refine rt0 Tryz.ntmps104 ?_
  exact⟨by unfold zbI;rw[if_pos hn0],Keep.refl _ _⟩
 intro h0
 simp only[decide_eq_false_iff_not]at h0
 have hn0:n≠ []:=fun h=>h0 (by rw[h];rfl)
 repeat refine c_r ?_
 refine rg0 ?_
 refine zaB ?_
 intro w1 hE1 hs1 hA
 repeat refine c_r ?_
 refine rg0 ?_
 repeat refine c_r ?_
 refine zam (fun m σ ds A=>ds=[]∧∃(i:Nat),i+m=n.length∧σ 11=vi i∧σ 10=vi n.length∧σ 9= .slice an n.length cn∧σ 3= .pointer (some ⟨w.heap.size,0,Option.none⟩)∧Ext w A∧w1.heap.size≤A.heap.size∧Bld w1.heap.size A w.heap.size ((n.take i).flatMap fun l=>zba l++ [46])) n.length ?_ ?_
 ·exact⟨rfl,0,by omega,vr0,vq0,vq0,vq0,hE1,Nat.le_refl _,_,_,.inl rfl,hA,Own.nil _ _ _⟩
 rintro m σ ds A ⟨rfl,i,him,h11,h10,h9,h3,hEA,hsA,hB⟩
 repeat refine c_r ?_
 refine rq ?_;intro gd K hgd hK;simp (disch:=first|omega|assumption|rfl) only[go_sem,h11,h10];refine hK _ _ ?_;clear hK hgd;clear K gd
 repeat refine c_r ?_
 refine wc0 ?_ ?_
 ·intro hlt
  simp only[decide_eq_true_eq]at hlt
  have hi:i<n.length:=by omega
  have hi0:(0:Int)≤(i:Int):=by omega
  have hi1:(i:Int)<(n.length:Int):=by omega
  have hi1':(i:Int)+1=((i+1:Nat):Int):=by push_cast;rfl
  have hg:=zaa hEA (hgn i (by simpa using hi))
  rw[List.getElem_map]at hg
  obtain⟨l,hle⟩:∃l,n[i]=l:=⟨_,rfl⟩
  rw[hle]at hg
  have hmem:l∈n:=hle▸List.getElem_mem hi
  obtain⟨xn,rfl⟩:=Option.isSome_iff_exists.1 (zag hg)
  have hpl:((n.take i).flatMap fun l=>zba l++ [46]).length≤5000000000:=by
   have h1:=ze8 (n.take i)
   have h2:((n.take i).map List.length).sum≤1000000*n.length:=by
    have:∀(k:Nm),(∀l∈k,l.length≤1000000)→(k.map List.length).sum≤1000000*k.length:=fun k=>by
     induction k with
     |nil=>intro _;simp
     |cons x k ih=>
      intro h
      have h3:=ih (fun l hl=>h l (List.mem_cons_of_mem _ hl))
      have h4:=h x (List.mem_cons_self ..)
      rw[List.map_cons,List.sum_cons,List.length_cons];omega
    have h3:=this (n.take i) (fun l hl'=>hl l (List.mem_of_mem_take hl'))
    rw[List.length_take]at h3;omega
   rw[List.length_take]at h1;omega
  have htl:=zdT l
  have hll:=hl l hmem
  have hadd:(zba l).length+([46]:List UInt8).length≤9223372036854775807:=by rw[List.length_singleton];omega
  repeat refine c_r ?_
  refine rq ?_;intro gd K hgd hK;simp (disch:=first|omega|assumption|rfl) only[go_sem,h9,h11,hi0,hi1,hg];refine hK _ _ ?_;clear hK hgd;clear K gd
  repeat refine c_r ?_
  refine rq ?_;intro gd K hgd hK
  try simp only[go_sem]
  refine Fn.mono (LText_ok A l (hne l hmem) (by omega)) ?_
  rintro _ A1 ⟨rfl,hE2⟩
  try simp (disch:=first|omega|assumption|rfl) only[go_sem,h3]
  refine Fn.mono (zdD (s:=zba l++ [46]) (hB.ext' hE2) (by have:=hE2.size;omega) (by rw[List.length_append,List.length_singleton];omega)) ?_
  rintro _ A2 ⟨hB2,hk2⟩
  try simp only[go_sem]
  refine hK _ _ ?_;clear hK hgd;clear K;try clear gd
  repeat refine c_r ?_
  refine rq ?_;intro gd K hgd hK;simp (disch:=first|omega|assumption|rfl) only[go_sem,h11,hi1'];refine hK _ _ ?_;clear hK hgd;clear K gd
  repeat refine c_r ?_
  refine⟨m - 1,by omega,rfl,i+1,by omega,vq0,(vq1 h10),(vq1 h9),(vq1 h3),Keep.to_ext (hEA.trans hE2) rfl (fun b hb=>by omega) hk2,by have:=hE2.size;have:=hk2.size;omega,?_⟩
  rw[zap hi,List.flatMap_append,hle]
  simpa using hB2
 ·intro hge
  simp only[decide_eq_false_iff_not]at hge
  rw[List.take_of_length_le (by omega)]at hB
  have htx:(n.flatMap fun l=>zba l++ [46])≠ []:=by
   cases n with
   |nil=>exact absurd rfl hn0
   |cons l n=>
    rw[List.flatMap_cons]
    intro h
    have:=(List.append_eq_nil_iff.1 (List.append_eq_nil_iff.1 h).1).2
    cases this
  have hpl:(n.flatMap fun l=>zba l++ [46]).length≤5000000000:=by
   have h1:=ze8 n
   have:∀(k:Nm),(∀l∈k,l.length≤1000000)→(k.map List.length).sum≤1000000*k.length:=fun k=>by
    induction k with
    |nil=>intro _;simp
    |cons x k ih=>
     intro h
     have h3:=ih (fun l hl=>h l (List.mem_cons_of_mem _ hl))
     have h4:=h x (List.mem_cons_self ..)
     rw[List.map_cons,List.sum_cons,List.length_cons];omega
   have h3:=this n hl
   omega
  repeat refine c_r ?_
  refine rq ?_;intro gd K hgd hK
  try simp (disch:=first|omega|assumption|rfl) only[go_sem,h3]
  refine Fn.mono (zie hB htx (by omega)) ?_
  rintro _ z ⟨rfl,hkz⟩
  try simp only[go_sem]
  refine hK _ _ ?_;clear hK hgd;clear K;try clear gd
  repeat refine c_r ?_
  refine rt0 Tryz.ntmps104 ?_
  exact⟨by unfold zbI;rw[if_neg hn0],Keep.to_ext hEA rfl (fun b hb=>by omega) hkz⟩
theorem labB_ref(c:UInt8):labB c=if marksL.contains c then [92,c] else if 33≤c.toNat∧c.toNat≤126 then [c] else escB c:=by
 unfold labB
 by_cases hm:marksL.contains c=true
 ·have hmem:c∈marksL:=by simpa using hm
  have hr:¬(c.toNat≤32∨127≤c.toNat):=by
   simp only[marksL,List.mem_cons,List.not_mem_nil,or_false]at hmem
   rcases hmem with rfl|rfl|rfl|rfl|rfl|rfl|rfl|rfl<;>decide
  rw[if_neg hr,if_pos hm,if_pos hm]
 ·by_cases hr:c.toNat≤32∨127≤c.toNat
  ·rw[if_pos hr,if_neg hm,if_neg (by omega)]
  ·rw[if_neg hr,if_neg hm,if_neg hm,if_pos (by omega)]
theorem zes{a b:Nat}(ha:a<256)(hb:b<256)(h:UInt8.ofNat a=UInt8.ofNat b):a=b:=by
 have:=congrArg UInt8.toNat h
 rwa [UInt8.toNat_ofNat_of_lt' (by simpa [UInt8.size] using ha),UInt8.toNat_ofNat_of_lt' (by simpa [UInt8.size] using hb)]at this
theorem zet(c:UInt8):labB c=escB c∨(labB c=[92,c]∧c∈marksL)∨(labB c=[c]∧c≠92∧c≠46):=by
 rw[labB_ref]
 by_cases hm:marksL.contains c=true
 ·rw[if_pos hm];exact .inr (.inl ⟨rfl,by simpa using hm⟩)
 ·rw[if_neg hm]
  by_cases hr:33≤c.toNat∧c.toNat≤126
  ·rw[if_pos hr]
   refine .inr (.inr ⟨rfl,?_,?_⟩)
   ·rintro rfl;exact hm (by decide)
   ·rintro rfl;exact hm (by decide)
  ·rw[if_neg hr];exact .inl rfl
theorem zjl{c d:UInt8}(hd:d∈marksL):UInt8.ofNat (48+c.toNat / 100)≠d:=by
 intro h
 have hc:c.toNat<256:=c.toNat_lt
 have:=congrArg UInt8.toNat h
 rw[UInt8.toNat_ofNat_of_lt' (by simp[UInt8.size];omega)]at this
 simp only[marksL,List.mem_cons,List.not_mem_nil,or_false]at hd
 rcases hd with rfl|rfl|rfl|rfl|rfl|rfl|rfl|rfl<;>(revert this;simp;omega)
theorem labB_inj{c d:UInt8}{x y:List UInt8}(h:labB c++x=labB d++y):c=d∧x=y:=by
 have hc:c.toNat<256:=c.toNat_lt
 have hd:d.toNat<256:=d.toNat_lt
 rcases zet c with h1| ⟨h1,m1⟩| ⟨h1,n1,k1⟩<;>rcases zet d with h2| ⟨h2,m2⟩| ⟨h2,n2,k2⟩<;>rw[h1,h2]at h
 ·unfold escB at h
  simp only[List.cons_append,List.nil_append,List.cons.injEq,true_and]at h
  obtain⟨e1,e2,e3,e4⟩:=h
  have e1:=zes (by omega) (by omega) e1
  have e2:=zes (by omega) (by omega) e2
  have e3:=zes (by omega) (by omega) e3
  exact⟨UInt8.toNat_inj.1 (by omega),e4⟩
 ·unfold escB at h
  simp only[List.cons_append,List.nil_append,List.cons.injEq,true_and]at h
  exact absurd h.1 (zjl m2)
 ·unfold escB at h
  simp only[List.cons_append,List.nil_append,List.cons.injEq]at h
  exact absurd h.1.symm n2
 ·unfold escB at h
  simp only[List.cons_append,List.nil_append,List.cons.injEq,true_and]at h
  exact absurd h.1.symm (zjl m1)
 ·simp only[List.cons_append,List.nil_append,List.cons.injEq,true_and]at h
  exact h
 ·simp only[List.cons_append,List.nil_append,List.cons.injEq]at h
  exact absurd h.1.symm n2
 ·unfold escB at h
  simp only[List.cons_append,List.nil_append,List.cons.injEq]at h
  exact absurd h.1 n1
 ·simp only[List.cons_append,List.nil_append,List.cons.injEq]at h
  exact absurd h.1 n1
 ·simp only[List.cons_append,List.nil_append,List.cons.injEq]at h
  exact h
theorem zgK{c:UInt8}{x y:List UInt8}(h:labB c++x=46::y):False:=by
 rcases zet c with h1| ⟨h1,_⟩| ⟨h1,_,k1⟩<;>rw[h1]at h
 ·unfold escB at h
  simp at h
 ·simp at h
 ·simp at h;exact k1 h.1
theorem zhi:∀{l m:Lab} {x y:List UInt8},zba l++46::x=zba m++46::y→l=m∧x=y
 | [],[],x,y,h=>by simpa [zba] using h
 | [],d::m,x,y,h=>by
  unfold zba at h
  rw[List.flatMap_cons,List.append_assoc]at h
  exact(zgK h.symm).elim
 |c::l,[],x,y,h=>by
  unfold zba at h
  rw[List.flatMap_cons,List.append_assoc]at h
  exact(zgK h).elim
 |c::l,d::m,x,y,h=>by
  unfold zba at h
  rw[List.flatMap_cons,List.flatMap_cons,List.append_assoc,List.append_assoc]at h
  obtain⟨rfl,h2⟩:=labB_inj h
  obtain⟨rfl,h3⟩:=zhi (l:=l) (m:=m) h2
  exact⟨rfl,h3⟩
theorem zhj:∀{a b:Nm},(a.flatMap fun l=>zba l++ [46])=(b.flatMap fun l=>zba l++ [46])→a=b
 | [],[],_=>rfl
 | [],m::b,h=>by simp at h
 |l::a,[],h=>by simp at h
 |l::a,m::b,h=>by
  rw[List.flatMap_cons,List.flatMap_cons,List.append_assoc,List.append_assoc]at h
  obtain⟨rfl,h2⟩:=zhi h
  rw[zhj h2]
theorem zkq{a b:Nm}(ha:∀l∈a,l≠ [])(hb:∀l∈b,l≠ [])(h:zbI a=zbI b):a=b:=by
 have one:∀{c:Nm},(∀l∈c,l≠ [])→c≠ []→(c.flatMap fun l=>zba l++ [46])≠ [46]:=fun {c} hc h0 he=>by
  cases c with
  |nil=>exact h0 rfl
  |cons l c=>
   have hl:=hc l (List.mem_cons_self ..)
   cases l with
   |nil=>exact hl rfl
   |cons d l=>
    rw[List.flatMap_cons]at he
    unfold zba at he
    rw[List.flatMap_cons,List.append_assoc,List.append_assoc]at he
    exact zgK he
 unfold zbI at h
 by_cases h1:a=[]
 ·by_cases h2:b=[]
  ·rw[h1,h2]
  ·rw[if_pos h1,if_neg h2]at h;exact absurd h.symm (one hb h2)
 ·by_cases h2:b=[]
  ·rw[if_neg h1,if_pos h2]at h;exact absurd h (one ha h1)
  ·rw[if_neg h1,if_neg h2]at h;exact zhj h
def zbz(had:List (List UInt8)):List Nm→List Nm
 | []=>[]
 |h::l=>if had.contains (zbI h) then zbz had l else h::zbz (zbI h::had) l
def zbJ(t:Int)(ds:List DatL):List Nm:=zbz [] (zaw t ds)
structure NmG(n:Nm):Prop where
 ne:∀l∈n,l≠ []
 lb:∀l∈n,l.length≤1000000
 len:n.length≤1000
theorem NmG.m{n:Nm}(h:NmG n):NmM n:=⟨h.lb,by have:=h.len;omega⟩
def encH(w0:World)(_:Nat)(x:Nm)(_:Nat→Prop)(_:World)(args:Array Value):Prop:=∃v,args=#[v]∧Row w0 v (x.map vs)
theorem ziB{M:List (Lab×Value)}{t k:Lab}{v:Value}(h:M.lookup t=Option.none):(M++ [(t,v)]).lookup k=if k==t then some v else M.lookup k:=by
 induction M with
 |nil=>
  simp only[List.nil_append,List.lookup_cons,List.lookup_nil]
  split<;>simp_all
 |cons p M ih=>
  obtain⟨q,u⟩:=p
  simp only[List.lookup_cons]at h
  split at h
  ·cases h
  ·rename_i hne
   simp only[List.cons_append,List.lookup_cons]
   by_cases hk:(k==q)=true
   ·simp only[hk]
    have hkq:k=q:=by simpa using hk
    have:(k==t)=false:=by
     rw[hkq]
     exact beq_eq_false_iff_ne.2 (fun e=>by rw[e]at hne;simp at hne)
    rw[this];rfl
   ·have hk':(k==q)=false:=by simpa using hk
    simp only[hk']
    exact ih h
theorem zln{w0 W0:World}{C:Nat→Prop}{bs:Nat}{ow tl dv:Value}{t:Int}{ds:List DatL}(hE0:Ext w0 W0)(hb:W0.heap[bs]? =some (.cells #[ow,vi t,tl,dv] 340 (0,0)))(how:one ow=true)(htl:one tl=true)(hd:Rows 5 (DatAt w0) W0 dv ds)
  (hC:∀b,C b→w0.heap.size≤b∧b<W0.heap.size) (hlen:ds.length≤1000000000) (hgood:∀n∈zaw t ds,NmG n):
  IterU Tryz.prog 282 #[.pointer (some ⟨bs,0,Option.none⟩)] W0 W0.heap.size C 1 (fun pre x=>∃suf,zbJ t ds=pre++x::suf) (fun xs=>xs=zbJ t ds) (encH w0):=by
 intro lp J Jx W hW hnW hJ hJx hY h0
 have hs0:=hE0.size
 refine enter Tryz.func282 Tryz.ntmps282 rfl rfl ?_
 repeat refine c_r ?_
 refine rg0 ?_
 have hm0:=new_map W
 have hEm:=Ext.alloc W (.map #[] 0)
 have hsm:=zai W (.map #[] 0)
 revert hm0 hEm hsm
 generalize W.alloc (.map #[] 0)=W1
 intro hm0 hEm hsm
 have hb1:=Ext.at (hW.trans hEm) hb
 have d4:=zah (n:=4) (l:=[ow,vi t,tl,dv]) hb1 rfl
 repeat refine c_r ?_
 refine rq ?_;intro gd K hgd hK
 try simp (disch:=first|omega|assumption|rfl) only[go_sem,d4]
 refine Fn.mono (zgq (hE0.trans (hW.trans hEm)) how htl (hd.ext (hW.trans hEm)) hlen) ?_
 rintro tv X ⟨hEX,htv,htb⟩
 obtain⟨aT,cT,rfl,hcT,hgT⟩:=htv.open
 obtain⟨L,hL⟩:∃L,zaw t ds=L:=⟨_,rfl⟩
 have hH:zbJ t ds=zbz [] L:=by unfold zbJ;rw[hL]
 rw[hL]at htv htb hcT hgood ⊢
 simp only[hL]at hgT
 try simp only[go_sem]
 refine hK _ _ ?_;clear hK hgd;clear K;try clear gd
 have hLl:L.length≤1000000000:=by
  rw[←hL];unfold zaw
  split
  ·have:=List.length_filterMap_le (fun d:DatL=>d.names.head?) ds;omega
  ·simp
 have hEWX:=hEm.trans hEX
 have hmX:MapAt X W.heap.size []:=hm0.block (hEX.block _ (by omega) (fun h=>h))
 have hsX:=hEX.size
 repeat refine c_r ?_
 refine zam (fun m σ ds' v=>ds'=[]∧∃(i:Nat) (pre:List Nm) (U:Nat→Prop) (had:List (List UInt8)) (M:List (Lab×Value)),i+m=L.length∧zbz [] L=pre++zbz had (L.drop i)∧σ 11=vi i∧σ 10=vi L.length∧σ 9= .slice aT L.length cT∧σ 0= .func (.yield lp) #[] #[]∧σ 3= .map (some W.heap.size)∧
  J pre U v∧(∀b,U b→X.heap.size≤b)∧X.heap.size≤v.heap.size∧KeepB W0.heap.size C W v∧Ext w0 v∧MapAt v W.heap.size M∧(∀k,M.lookup k=if had.contains k then some (.bool true) else Option.none)∧Rows 1 (NmC w0) v (.slice aT L.length cT) L) L.length ?_ ?_
 ·refine⟨rfl,0,[],NoS,[],[],by omega,rfl,vr0,vq0,vq0,vq0,vq0,hJ _ _ _ _ h0 (hEWX.mono (fun _ _ h=>h.elim)),fun b h=>h.elim,Nat.le_refl _,hEWX.toB (by omega) (fun _ _ h=>h.elim),hE0.trans (hW.trans hEWX),hmX,fun k=>by simp,htv⟩
 rintro m σ ds' v ⟨rfl,i,pre,U,had,M,him,hpre,h11,h10,h9,hf0,h3,hj,hU,hsv,hKB,hEv,hM,hMl,hrow⟩
 repeat refine c_r ?_
 refine rq ?_;intro gd K hgd hK;simp (disch:=first|omega|assumption|rfl) only[go_sem,h11,h10];refine hK _ _ ?_;clear hK hgd;clear K gd
 repeat refine c_r ?_
 refine wc0 ?_ ?_
 ·intro hlt
  simp only[decide_eq_true_eq]at hlt
  have hi:i<L.length:=by omega
  have hi0:(0:Int)≤(i:Int):=by omega
  have hi1:(i:Int)<(L.length:Int):=by omega
  have hi1':(i:Int)+1=((i+1:Nat):Int):=by push_cast;rfl
  obtain⟨h,hh⟩:∃h,L[i]=h:=⟨_,rfl⟩
  have hgh:NmG h:=hh▸hgood _ (List.getElem_mem hi)
  obtain⟨cs,hcs,hv,rfl,hvr⟩:=hrow.get hi
  rw[hh]at hvr
  have hcell:zae v (adr aT i)=some hv:=by
   have:=zax hcs (j:=0) rfl
   rwa [Nat.mul_one,zaA]at this
  obtain⟨xT,rfl⟩:=Option.isSome_iff_exists.1 (zag hcell)
  have hdr:L.drop i=h::L.drop (i+1):=by rw[List.drop_eq_getElem_cons hi,hh]
  rw[hdr]at hpre
  repeat refine c_r ?_
  refine rq ?_;intro gd K hgd hK;simp (disch:=first|omega|assumption|rfl) only[go_sem,h9,h11,hi0,hi1,hcell];refine hK _ _ ?_;clear hK hgd;clear K gd
  repeat refine c_r ?_
  refine rq ?_;intro gd K hgd hK
  try simp only[go_sem]
  refine Fn.mono (ze4 v hv h (hvr.ext hEv) hgh.ne hgh.lb hgh.len) ?_
  rintro _ v1 ⟨rfl,hE1⟩
  try simp only[go_sem]
  refine hK _ _ ?_;clear hK hgd;clear K;try clear gd
  have hs1:=hE1.size
  have hj1:=hJ _ _ _ _ hj (hE1.mono (fun _ _ h=>h.elim))
  have hK1:KeepB W0.heap.size C W v1:=hKB.trans (hE1.toB (by omega) (fun _ _ h=>h.elim))
  have hM1:MapAt v1 W.heap.size M:=hM.block (hE1.block _ (by omega) (fun h=>h))
  have hrow1:=hrow.ext hE1
  have hEv1:=hEv.trans hE1
  have hlk:=hM1.lk (P:=Tryz.prog) (t:=202) (kt:=9) (et:=4) (z:= .bool false) rfl rfl rfl (zbI h)
  rw[hMl]at hlk
  -- the next round
  have next:∀{z:World} {σ':Sto} {pre':List Nm} {U':Nat→Prop} {had':List (List UInt8)} {M':List (Lab×Value)},zbz [] L=pre'++zbz had' (L.drop (i+1))→J pre' U' z→(∀b,U' b→X.heap.size≤b)→X.heap.size≤z.heap.size→KeepB W0.heap.size C W z→Ext w0 z→MapAt z W.heap.size M'→
    (∀k,M'.lookup k=if had'.contains k then some (.bool true) else Option.none)→Rows 1 (NmC w0) z (.slice (some xT) L.length cT) L→σ' 11=vi ((i+1:Nat):Int)→σ' 10=vi L.length→σ' 9= .slice (some xT) L.length cT→σ' 0= .func (.yield lp) #[] #[]→σ' 3= .map (some W.heap.size)→
    ∃m',m'<m∧([]:List Deferred)=[]∧∃(i:Nat) (pre:List Nm) (U:Nat→Prop) (had:List (List UInt8)) (M:List (Lab×Value)),i+m'=L.length∧zbz [] L=pre++zbz had (L.drop i)∧σ' 11=vi i∧σ' 10=vi L.length∧σ' 9= .slice (some xT) L.length cT∧σ' 0= .func (.yield lp) #[] #[]∧σ' 3= .map (some W.heap.size)∧
     J pre U z∧(∀b,U b→X.heap.size≤b)∧X.heap.size≤z.heap.size∧KeepB W0.heap.size C W z∧Ext w0 z∧MapAt z W.heap.size M∧(∀k,M.lookup k=if had.contains k then some (.bool true) else Option.none)∧Rows 1 (NmC w0) z (.slice (some xT) L.length cT) L:=
   fun a1 a2 a3 a4 a5 a6 a7 a8 a9 b1 b2 b3 b4 b5=>⟨m - 1,by omega,rfl,i+1,_,_,_,_,by omega,a1,b1,b2,b3,b4,b5,a2,a3,a4,a5,a6,a7,a8,a9⟩
  by_cases hcon:had.contains (zbI h)=true
  ·rw[if_pos hcon]at hlk
   have hskip:zbz had (h::L.drop (i+1))=zbz had (L.drop (i+1)):=by
    show(if had.contains (zbI h) then _ else _)=_
    rw[if_pos hcon]
   rw[hskip]at hpre
   repeat refine c_r ?_
   refine rq ?_;intro gd K hgd hK
   have hg4:∀n σ b,zav gd n σ (some (4,b))=zal (ev n σ (.tmp 21)) b:=(fun n σ b=>by rw[zac,show gd 4=some 21 from(by rw[hgd];rfl)];rfl)
   rw[Option.getD_some]at hlk
   try simp (disch:=first|omega|assumption|rfl) only[go_sem,h3,↓hg4]
   refine zhE (vq0) (vq0) hlk ?_
   try simp (disch:=first|omega|assumption|rfl) only[go_sem,↓hg4]
   refine hK _ _ ?_;clear hK hgd;clear K;try clear gd
   repeat refine c_r ?_
   refine wc0 ?_ ?_
   ·intro h;cases h
   intro _
   repeat refine c_r ?_
   refine rq ?_;intro gd K hgd hK
   try simp (disch:=first|omega|assumption|rfl) only[go_sem,h3]
   refine zjN (v:= .bool true) (l:=M) (key:=zbI h) rfl rfl (vq0) (vq0) (vq0) hM1 (by rw[hMl,if_pos hcon]) ?_
   intro z hMz hkz hsz
   try simp only[go_sem]
   refine hK _ _ ?_;clear hK hgd;clear K;try clear gd
   repeat refine c_r ?_
   refine rq ?_;intro gd K hgd hK;simp (disch:=first|omega|assumption|rfl) only[go_sem,h11,hi1'];refine hK _ _ ?_;clear hK hgd;clear K gd
   repeat refine c_r ?_
   refine next hpre (hJ _ _ _ _ hj1 (hkz.mono (fun b _ h=>by unfold span;omega))) hU (by omega) (hK1.trans (hkz.toB (by omega) (fun b hb h=>by omega))) (Keep.to_ext hEv1 rfl (fun b hb=>by omega) hkz) hMz hMl (hrow1.keep hkz (htb.ext (by omega)) (fun b hb _=>by omega)) (vq0) ((vq1 h10)) ((vq1 h9)) ((vq1 hf0)) ((vq1 h3))
  ·rw[if_neg hcon,Option.getD_none]at hlk
   have hno:M.lookup (zbI h)=Option.none:=by rw[hMl,if_neg hcon]
   have hcf:had.contains (zbI h)=false:=by simpa using hcon
   have hgo:zbz had (h::L.drop (i+1))=h::zbz (zbI h::had) (L.drop (i+1)):=by
    show(if had.contains (zbI h) then _ else _)=_
    rw[if_neg hcon]
   rw[hgo]at hpre
   have hsuf:∃suf,zbJ t ds=pre++h::suf:=⟨_,by rw[hH,hpre]⟩
   repeat refine c_r ?_
   refine rq ?_;intro gd K hgd hK
   have hg4:∀n σ b,zav gd n σ (some (4,b))=zal (ev n σ (.tmp 21)) b:=(fun n σ b=>by rw[zac,show gd 4=some 21 from(by rw[hgd];rfl)];rfl)
   try simp (disch:=first|omega|assumption|rfl) only[go_sem,h3,↓hg4]
   refine zhE (vq0) (vq0) hlk ?_
   try simp (disch:=first|omega|assumption|rfl) only[go_sem,h3,hf0,↓hg4]
   refine Yld.mono (hY pre U h v1 _ hsuf hj1 (by omega) hK1 ⟨hv,rfl,hvr⟩) ?_
   rintro u z (⟨rfl,U',hj',hU',hkr⟩| ⟨rfl,hjx⟩)
   ·try simp (disch:=first|omega|assumption|rfl) only[go_sem,↓hg4]
    refine hK _ _ ?_;clear hK hgd;clear K;try clear gd
    have hzs:=hkr.size
    have hCb:∀b,W.heap.size≤b→b<X.heap.size→¬(C b∨U b):=fun b h1 h2 h3=>by
     rcases h3 with h3|h3
     ·have:=hC b h3;omega
     ·have:=hU b h3;omega
    have hMz:MapAt z W.heap.size M:=hM1.block (hkr.block _ (by omega) (.inr (Nat.le_refl _)) (hCb _ (Nat.le_refl _) (by omega)))
    have hrowz:Rows 1 (NmC w0) z (.slice (some xT) L.length cT) L:=hrow1.blocks fun a n c hv=>by
     have h1:=htb a n c hv
     exact hkr.block _ (by omega) (.inr (by omega)) (hCb _ (by omega) h1.2)
    have hKz:KeepB W0.heap.size C W z:=hK1.trans ⟨hkr.os,hkr.tape,hkr.output,hkr.size,fun b hb hc=>hkr.block b (by omega) (.inl hb) (fun h=>by
     rcases h with h|h
     ·exact hc h
     ·have:=hU b h;omega),hkr.drawn⟩
    have hEz:Ext w0 z:=zcZ (hE0.trans hW) hKz hs0 (fun b hb=>(hC b hb).1)
    repeat refine c_r ?_
    refine wc0 ?_ ?_
    ·intro h;cases h
    intro _
    repeat refine c_r ?_
    refine rq ?_;intro gd K hgd hK
    try simp (disch:=first|omega|assumption|rfl) only[go_sem,h3]
    refine zhC (v:= .bool true) (l:=M) (key:=zbI h) rfl rfl (vq0) (vq0) (vq0) hMz hno ?_
    intro z2 hMz2 hkz hsz
    try simp only[go_sem]
    refine hK _ _ ?_;clear hK hgd;clear K;try clear gd
    repeat refine c_r ?_
    refine rq ?_;intro gd K hgd hK;simp (disch:=first|omega|assumption|rfl) only[go_sem,h11,hi1'];refine hK _ _ ?_;clear hK hgd;clear K gd
    repeat refine c_r ?_
    refine next (pre':=pre++ [h]) (had':=zbI h::had) (by rw[hpre];simp) (hJ _ _ _ _ hj' (hkz.mono (fun b _ h=>by unfold span;omega))) (fun b hb=>by
     rcases hU' b hb with h|h
     ·exact hU b h
     ·omega) (by omega) (hKz.trans (hkz.toB (by omega) (fun b hb h=>by omega))) (Keep.to_ext hEz rfl (fun b hb=>by omega) hkz) hMz2 (fun k=>?_) (hrowz.keep hkz (htb.ext (by omega)) (fun b hb _=>by omega)) (vq0) ((vq1 h10)) ((vq1 h9)) ((vq1 hf0)) ((vq1 h3))
    rw[ziB hno,hMl,List.contains_cons]
    by_cases hk:(k==zbI h)=true
    ·rw[if_pos hk,hk];rfl
    ·rw[if_neg hk]
     have:(k==zbI h)=false:=by simpa using hk
     rw[this,Bool.false_or]
   ·try simp (disch:=first|omega|assumption|rfl) only[go_sem,↓hg4]
    refine hK _ _ ?_;clear hK hgd;clear K;try clear gd
    repeat refine c_r ?_
    refine wc0 ?_ ?_
    ·intro _
     repeat refine c_r ?_
     refine zar (by simp) rfl (.inr ⟨_,_,hsuf,hjx⟩)
    ·intro h;cases h
 ·intro hge
  simp only[decide_eq_false_iff_not]at hge
  rw[List.drop_eq_nil_of_le (by omega)]at hpre
  have hfin:pre=zbJ t ds:=by rw[hH,hpre];simp[zbz]
  repeat refine c_r ?_
  refine zar (by simp) rfl (.inl ⟨_,U,rfl,hfin▸hj⟩)
theorem zje{w:World}{ow tl dv:Value}{t:Int}:
  Fn Tryz.prog 246 #[.agg #[ow,vi t,tl,dv]] w (fun v w'=>v= .func (.func 282) #[] #[.pointer (some ⟨w.heap.size,0,Option.none⟩)]∧Ext w w'∧w'.heap.size=w.heap.size+1∧w'.heap[w.heap.size]? =some (.cells #[ow,vi t,tl,dv] 340 (0,0))):=by
 refine enter Tryz.func246 Tryz.ntmps246 rfl rfl ?_
 repeat refine c_r ?_
 refine rg0 ?_
 repeat refine c_r ?_
 refine zaB ?_
 intro w1 hE1 hs1 hA
 refine rg0 ?_
 repeat refine c_r ?_
 refine rt0 Tryz.ntmps246 ?_
 exact⟨rfl,hE1,hs1,hA⟩
structure ResL where
 kind:Int
 data:List DatL
 name:Nm
 wild:Bool
 glue:List (Nm×List DatL)
def GlC(w0 w:World)(cs:List Value)(x:Nm×List DatL):Prop:=∃hv dv,cs=[hv,dv]∧Row w0 hv (x.1.map vs)∧Rows 5 (DatAt w0) w dv x.2
structure ResAt(w0 w:World)(cs:List Value)(r:ResL):Prop where
 ex:∃dv nv gv,cs=[vi r.kind,dv,nv,.bool r.wild,gv]∧Rows 5 (DatAt w0) w dv r.data∧Row w nv (r.name.map vs)∧Rows 2 (GlC w0 w) w gv r.glue
theorem ResAt.ext{w0 w x:World}{cs:List Value}{r:ResL}(h:ResAt w0 w cs r)(hE:Ext w x):ResAt w0 x cs r:=by
 obtain⟨dv,nv,gv,e,h1,h2,h3⟩:=h.ex
 refine⟨dv,nv,gv,e,h1.ext hE,h2.ext hE,(h3.ext hE).to fun cs x hx=>?_⟩
 obtain⟨hv,dv,e,g1,g2⟩:=hx
 exact⟨hv,dv,e,g1,g2.ext hE⟩
def GlB(w0:World)(B:Nat)(w:World)(cs:List Value)(x:Nm×List DatL):Prop:=∃hv dv,cs=[hv,dv]∧Row w0 hv (x.1.map vs)∧Rows 5 (DatAt w0) w dv x.2∧BlkB B w dv
structure ResB(w0:World)(B:Nat)(w:World)(cs:List Value)(r:ResL):Prop where
 ex:∃dv nv gv,cs=[vi r.kind,dv,nv,.bool r.wild,gv]∧Rows 5 (DatAt w0) w dv r.data∧BlkB B w dv∧((Row w nv (r.name.map vs)∧BlkB B w nv)∨Row w0 nv (r.name.map vs))∧Rows 2 (GlB w0 B w) w gv r.glue∧BlkB B w gv
theorem ResB.keep{w0 w x:World}{B:Nat}{cs:List Value}{r:ResL}(h:ResB w0 B w cs r){S:Nat→Prop}(hk:Keep S w x)(hS:∀b,B≤b→b<w.heap.size→¬S b):ResB w0 B x cs r:=by
 obtain⟨dv,nv,gv,e,h1,h2,h3,h4,h5⟩:=h.ex
 refine⟨dv,nv,gv,e,h1.keep hk h2 hS,h2.ext hk.size,?_,(h4.keep hk h5 hS).to fun cs y hy=>?_,h5.ext hk.size⟩
 ·rcases h3 with ⟨h3,h6⟩|h3
  ·exact .inl ⟨h3.blocks fun a n c hv=>hk.block _ (h6 a n c hv).2 (hS _ (h6 a n c hv).1 (h6 a n c hv).2),h6.ext hk.size⟩
  ·exact .inr h3
 ·obtain⟨hv,dv,e,g1,g2,g3⟩:=hy
  exact⟨hv,dv,e,g1,g2.keep hk g3 hS,g3.ext hk.size⟩
theorem ResB.at{w0 w:World}{B:Nat}{cs:List Value}{r:ResL}(h:ResB w0 B w cs r)(hE:Ext w0 w):ResAt w0 w cs r:=by
 obtain⟨dv,nv,gv,e,h1,h2,h3,h4,h5⟩:=h.ex
 refine⟨dv,nv,gv,e,h1,?_,h4.to fun cs y hy=>?_⟩
 ·rcases h3 with ⟨h3,_⟩|h3
  ·exact h3
  ·exact h3.ext hE
 ·obtain⟨hv,dv,e,g1,g2,_⟩:=hy
  exact⟨hv,dv,e,g1,g2⟩
theorem ResB.mono{w0 w:World}{B B':Nat}{cs:List Value}{r:ResL}(h:ResB w0 B w cs r)(hB:B'≤B):ResB w0 B' w cs r:=by
 obtain⟨dv,nv,gv,e,h1,h2,h3,h4,h5⟩:=h.ex
 refine⟨dv,nv,gv,e,h1,h2.mono hB,h3.imp (fun h=>⟨h.1,h.2.mono hB⟩) id,h4.to fun cs y hy=>?_,h5.mono hB⟩
 obtain⟨hv,dv,e,g1,g2,g3⟩:=hy
 exact⟨hv,dv,e,g1,g2,g3.mono hB⟩
theorem ResB.cells{w0 w:World}{B:Nat}{cs:List Value}{r:ResL}(h:ResB w0 B w cs r):cs.length=5∧∀v∈cs,one v=true:=by
 obtain⟨dv,nv,gv,rfl,h1,h2,h3,h4,h5⟩:=h.ex
 obtain⟨a1,c1,rfl,_⟩:=h1.open
 obtain⟨a2,c2,rfl,_⟩:=h4.open
 have hn:one nv=true:=by
  rcases h3 with ⟨⟨a,c,rfl,_⟩,_⟩| ⟨a,c,rfl,_⟩<;>rfl
 refine⟨rfl,fun v hv=>?_⟩
 simp at hv
 rcases hv with rfl|rfl|rfl|rfl|rfl
 ·rfl
 ·rfl
 ·exact hn
 ·rfl
 ·rfl
def zey(R:List RecL):Prop:=∀r∈R,∀n∈r.dat.names,NmG n
theorem ze0{R:List RecL}{n:Nm}{t:Int}{d:DatL}(h:d∈datC R n t):∃r∈R,r.dat=d:=by
 unfold datC at h
 obtain⟨x,hx,rfl⟩:=List.mem_map.1 h
 have:∀x∈ofC R n t,∃r∈R,r.dat=x.dat:=by
  unfold ofC
  exact zbQ (Q:=fun x=>∃r∈R,r.dat=x.dat) (fun a b h=>h) (fun x hx=>⟨x,(List.mem_filter.1 hx).1,rfl⟩)
 exact this x hx
theorem zbT{R:List RecL}(hR:zey R){n:Nm}{t u:Int}{ds:List DatL}(hds:∀d∈ds,d∈datC R n t):∀x∈zaw u ds,NmG x:=by
 intro x hx
 unfold zaw at hx
 split at hx
 ·obtain⟨d,hd,hn⟩:=List.mem_filterMap.1 hx
  obtain⟨r,hr,rfl⟩:=ze0 (hds d hd)
  exact hR r hr x (List.mem_of_mem_head? hn)
 ·cases hx
theorem zcm{R:List RecL}{n:Nm}{t:Int}:(datC R n t).length≤R.length:=by
 unfold datC ofC
 rw[List.length_map]
 exact Nat.le_trans (zdp _) (List.length_filter_le _ _)
theorem ziJ{R:List RecL}{n:Nm}{t:Int}:ofC R n t≠ []↔datC R n t≠ []:=by
 unfold datC
 rw[ne_eq,ne_eq,List.map_eq_nil_iff]
def toN(t:Int)(ds:List DatL):Nm:=(zbJ t ds).getLast?.getD []
theorem zjA{w0 w:World}{ov lv nv:Value}{o n:Nm}{R:List RecL}{t:Int}(hz:ZnAt w0 w ov lv o R)(hR:zey R)(hn:Row w nv (n.map vs))(hok:NmS n):
  Fn Tryz.prog 248 #[.agg #[ov,lv],nv,vi t] w (fun v w'=>Ext w w'∧∃dv tv,v= .tuple #[dv,tv,.bool (decide (datC R n t≠ []))]∧Rows 5 (DatAt w0) w' dv ((datC R n t).take 1)∧BlkB w.heap.size w' dv∧Row w0 tv ((toN t ((datC R n t).take 1)).map vs)):=by
 obtain⟨ao,co,hov,_⟩:=id hz.org
 obtain⟨al,cl,hlv,_⟩:=hz.recs.open
 rw[hov,hlv]
 refine enter Tryz.func248 Tryz.ntmps248 rfl rfl ?_
 repeat refine c_r ?_
 refine rg0 ?_
 repeat refine c_r ?_
 rw[←hov,←hlv]
 refine zaB ?_
 intro w1 hE1 hs1 hA
 have p1:zae w1 (some ⟨w.heap.size,1,Option.none⟩)=some lv:=zab hA rfl
 have hz1:=hz.ext hE1
 refine rq ?_;intro gd K hgd hK
 try simp (disch:=first|omega|assumption|rfl) only[go_sem,p1,Nat.zero_add]
 refine Fn.mono (Of_ok hz1.e0 hz1.recs (hn.ext hE1) hok.lb (by have:=hok.len;omega) hz.ok hz.rl) ?_
 rintro _ w2 ⟨hE2,ow,ty,tl,dv,rfl,how,hty,hdv,hdb⟩
 have hdd:(ofC R n t).map RecL.dat=datC R n t:=rfl
 rw[hdd]at hdv
 obtain⟨bb,hbb⟩:∃bb:Bool,decide (datC R n t≠ [])=bb:=⟨_,rfl⟩
 rw[show decide (ofC R n t≠ [])=bb from by rw[←hbb];exact decide_eq_decide.2 (ziJ (R:=R) (n:=n) (t:=t))]
 try simp only[go_sem]
 have hB3:=zao w2 (.cells #[.slice Option.none 0 0,vi 0,v32 0,.slice Option.none 0 0] 340 (0,0))
 have hE4:=Ext.alloc w2 (.cells #[.slice Option.none 0 0,vi 0,v32 0,.slice Option.none 0 0] 340 (0,0))
 have hs4:=zai w2 (.cells #[.slice Option.none 0 0,vi 0,v32 0,.slice Option.none 0 0] 340 (0,0))
 revert hB3 hE4 hs4
 generalize w2.alloc (.cells #[.slice Option.none 0 0,vi 0,v32 0,.slice Option.none 0 0] 340 (0,0))=w3
 intro hB3 hE4 hs4
 obtain⟨ad,cd,hdv',hcd,_⟩:=hdv.open
 refine zaM (P:=Tryz.prog) (t:=340) (l:=[ow,vi ty,v32 tl,dv]) hB3 rfl (fun v h=>by
  simp at h
  rcases h with rfl|rfl|rfl|rfl
  ·exact how
  ·rfl
  ·rfl
  ·rw[hdv'];rfl) rfl rfl ?_
 intro w4 hs5 hB5 hk5
 try simp only[go_sem]
 refine hK _ _ ?_;clear hK hgd;clear K;try clear gd
 have hE5:Ext w2 w4:=Keep.to_ext hE4 rfl (fun b hb=>by omega) hk5
 have hE14:=hE2.trans hE5
 have hEw4:=hE1.trans hE14
 have q3:zae w4 (some ⟨w2.heap.size,3,Option.none⟩)=some dv:=zcs hB5 rfl
 have hdv4:=hdv.ext hE5
 have hdb4:BlkB w.heap.size w4 dv:=(hdb.ext hE5.size).mono hE1.size
 repeat refine c_r ?_
 refine rg0 ?_
 repeat refine c_r ?_
 by_cases hne:datC R n t≠ []
 ·rw[decide_eq_true hne]at hbb
  subst hbb
  refine zaH (t:=false) (vq0) (fun h=>by cases h) ?_
  intro _
  have hpos:0<(datC R n t).length:=List.length_pos_iff.2 hne
  have htk:((datC R n t).take 1).length=1:=by rw[List.length_take];omega
  rw[hdv']at hdv4 hdb4 q3
  have hcd':=hdv4.len.2
  have hd1:Rows 5 (DatAt w0) w4 (.slice ad 1 cd) ((datC R n t).take 1):=hdv4.take (by omega) (by omega)
  have h01:(0:Int)≤1:=by omega
  have h11:(1:Int)≤(cd:Int):=by omega
  repeat refine c_r ?_
  refine rg0 ?_
  refine zaB ?_
  intro w5 hE6 hs6 hA6
  have q3':=zaa hE6 q3
  have t1:Int.toNat 1=1:=rfl
  repeat refine c_r ?_
  refine rq ?_;intro gd K hgd hK
  try simp (disch:=first|omega|assumption|rfl) only[go_sem,q3',Nat.zero_add,h01,h11,t1,Nat.sub_zero,Nat.zero_mul,zaA,ite_self]
  refine⟨by kernel_rfl,?_⟩
  rw[show bdV Tryz.prog 340 [(1,vi t),(3,.slice ad 1 cd)]=some (.agg #[.slice Option.none 0 0,vi t,v32 0,.slice ad 1 cd]) from by kernel_rfl]
  try simp only[go_sem]
  refine Fn.mono zje ?_
  rintro _ w6 ⟨rfl,hE7,hs7,hb7⟩
  try simp only[go_sem]
  refine hK _ _ ?_;clear hK hgd;clear K;try clear gd
  have hE47:=hE6.trans hE7
  have hEw6:=hEw4.trans hE47
  have e1:=hE1.size
  have e2:=hE14.size
  have e3:=hz.e0.size
  have hit:=zln (C:=fun b=>b=w4.heap.size) (hz.e0.trans hEw6) hb7 rfl rfl (hd1.ext hE47) (fun b hb=>by omega) (by rw[htk];decide) (zbT hR (t:=t) (n:=n) (fun d hd=>List.mem_of_mem_take hd))
  have hA7:=hE7.at hA6
  repeat refine c_r ?_
  refine ze3 (g:=282) (cap:=#[.pointer (some ⟨w5.heap.size,0,Option.none⟩)]) (vq0) rfl hit (Keep.refl _ _) (Nat.le_refl _) (fun b hb=>by omega)
   (fun x U B args h=>by obtain⟨v,h,_⟩:=h;rw[h];rfl)
   (fun pre U B=>(∀b,¬U b)∧Keep (fun b=>b=w4.heap.size) w6 B∧∃tv,B.heap[w4.heap.size]? =some (.cells #[tv] 27 (0,0))∧Row w0 tv ((pre.getLast?.getD []).map vs))
   (fun _ _ _=>False) ?_ (fun _ _ _ _ h _=>h.elim) ?_ ?_ ?_ (fun _ _ _ _ _ _ h _=>h.elim)
  ·rintro pre U A B ⟨hU,hk,tv,h1,h2⟩ _ hk2
   have hk3:Keep (fun b=>b=w4.heap.size) w6 B:=⟨hk2.os.trans hk.os,hk2.tape.trans hk.tape,hk2.output.trans hk.output,Nat.le_trans hk.size hk2.size,fun b hb hne=>(hk2.block b (by have:=hk.size;omega) (by unfold span;omega)).trans (hk.block b hb hne),Nat.le_trans hk.drawn hk2.drawn⟩
   exact⟨hU,hk3,tv,(hk2.block _ (Array.getElem?_eq_some_iff.1 h1).1 (by unfold span;omega)).trans h1,h2⟩
  ·exact⟨fun b h=>h,Keep.refl _ _,_,hA7,⟨Option.none,0,rfl,Nat.le_refl _,fun j h=>absurd h (by simp)⟩⟩
  ·rintro lp pre U x A args ⟨suf,hxs⟩ hszA ⟨hU,hk,tv,h1,h2⟩ _ ⟨xv,rfl,hxr⟩
   obtain⟨ax,cx,hxv,_⟩:=id hxr
   refine rq ?_;intro gd K hgd hK
   try simp only[go_sem]
   refine hK _ _ ?_;clear hK hgd;clear K;try clear gd
   refine zau ?_
   refine⟨rfl,Keep.refl _ _,fun Y hY=>?_⟩
   have h1Y:=(hY.block _ (Array.getElem?_eq_some_iff.1 h1).1 (by unfold two;omega)).trans h1
   have hkY:Keep (fun b=>b=w4.heap.size) w6 Y:=⟨hY.os.trans hk.os,hY.tape.trans hk.tape,hY.output.trans hk.output,Nat.le_trans hk.size hY.size,fun b hb hne=>(hY.block b (by have:=hk.size;omega) (by unfold two;omega)).trans (hk.block b hb hne),Nat.le_trans hk.drawn hY.drawn⟩
   repeat refine c_r ?_
   refine rq ?_;intro gd K hgd hK
   try simp only[go_sem]
   refine zaY (P:=Tryz.prog) (t:=27) (j:=0) (l:=[tv]) h1Y (by simp) (by rw[hxv];rfl) rfl rfl ?_
   intro z hz' hbz hkz
   try simp only[go_sem]
   refine hK _ _ ?_;clear hK hgd;clear K;try clear gd
   simp only[List.set_cons_zero]at hbz
   repeat refine c_r ?_
   exact⟨U,⟨hU,hkY.trans hkz,xv,hbz,by simpa using hxr⟩,fun b hb=> .inl hb,hkz.mono (fun b _ h=> .inl h)⟩
  ·rintro xs U B rfl hszB _ ⟨hU,hk,tv,h1,h2⟩ hD
   have hdB:Rows 5 (DatAt w0) B (.slice ad 1 cd) ((datC R n t).take 1):=(hd1.ext hE47).blocks fun a m c hv=>by
    injection hv with g1
    subst g1
    have:=hdb4 a _ _ rfl
    exact hk.block _ (by have:=hE47.size;omega) (by omega)
   have hB5':B.heap[w2.heap.size]? =some (.cells [ow,vi ty,v32 tl,dv].toArray 340 (0,0)):=(hk.block _ (by have:=hE5.size;have:=hE47.size;omega) (by omega)).trans (Ext.at hE47 hB5)
   have q3B:zae B (some ⟨w2.heap.size,3,Option.none⟩)=some (.slice ad (datC R n t).length cd):=zcs hB5' (by rw[hdv'];rfl)
   have q4B:zae B (some ⟨w4.heap.size,0,Option.none⟩)=some tv:=zab h1 rfl
   repeat refine c_r ?_
   refine zaJ (fun _=>false) [(0,true),(1,true),(2,true),(4,true),(3,false),(5,true),(6,true),(7,true)] NoS mixed (by kernel_rfl) ?_;intro gd K x hgd hx hxe hK;clear hxe
   have r1:=zaa hx q3B
   have r2:=zaa hx q4B
   simp (disch:=first|omega|assumption|rfl) only[go_sem,r1,r2,Nat.zero_add,h01,h11,t1,Nat.sub_zero,Nat.zero_mul,zaA,ite_self]
   refine Fn.mono (P_cd.Clip_ok (by omega)) ?_
   rintro _ y0 ⟨rfl,hy0⟩
   refine⟨.inr (by rw[hy0];exact Keep.refl _ _),?_⟩
   rw[hy0]
   clear hy0 y0
   simp (disch:=first|omega|assumption|rfl) only[go_sem,r1,r2,Nat.zero_add]
   refine hK _ _ ?_;clear hK hgd;clear K;try clear gd
   repeat refine c_r ?_
   refine zby (.inr rfl) Tryz.ntmps248 rfl (Ext.at hx hD) ?_
   intro Z hkZ hsZ
   have hEwB:Ext w B:=Keep.to_ext hEw6 rfl (fun b hb=>by omega) hk
   have hDlt:w6.heap.size<B.heap.size:=(Array.getElem?_eq_some_iff.1 hD).1
   have hrx:Rows 5 (DatAt w0) x (.slice ad 1 1) ((datC R n t).take 1):=by
    have h9:=(hdB.ext hx).take (m:=1) (c2:=1) (Nat.le_refl 1) (Nat.le_refl 1)
    rw[List.take_take]at h9
    exact h9
   refine⟨_,zat (v:= .slice ad 1 1) (vr0) (zat (v:=tv) (vr0) (zat (v:= .bool true) (vr0) zaz)),Keep.to_ext (hEwB.trans hx) rfl (fun b hb=>by have:=hE47.size;omega) hkZ,_,tv,by rw[decide_eq_true hne];rfl,?_,?_,?_⟩
   ·exact hrx.blocks fun a m c hv=>by
     injection hv with g1
     subst g1
     have:=hdb4 a _ _ rfl
     exact hkZ.block _ (by have:=hx.size;have:=hk.size;have:=hE47.size;omega) (by have:=hE47.size;omega)
   ·exact(hdb4.same.ext (by have:=hx.size;have:=hk.size;have:=hE47.size;omega))
   ·exact h2
 ·have hnil:datC R n t=[]:=by simpa using hne
  rw[decide_eq_false hne]at hbb
  subst hbb
  refine zaH (t:=true) (vq0) ?_ (fun h=>by cases h)
  intro _
  repeat refine c_r ?_
  refine rg0 ?_
  repeat refine c_r ?_
  refine zaE (.inr rfl) Tryz.ntmps248 rfl (zat (v:= .slice Option.none 0 0) (vr0) (zat (v:= .slice Option.none 0 0) (vr0) (zat (v:= .bool false) (vr0) zaz))) ?_
  refine⟨hEw4,_,_,by rw[decide_eq_false hne];rfl,by rw[hnil];exact Rows.nil _ _ _,BlkB.nil,?_⟩
  have h0:toN t (List.take 1 (datC R n t))=[]:=by
   rw[hnil]
   unfold toN zbJ zaw
   split<;>rfl
  rw[h0]
  exact⟨Option.none,0,rfl,Nat.le_refl _,fun j h=>absurd h (by simp)⟩
theorem zhH{y:Addr}{n:Nat}(h:y.block<n):offS (zev n) (some y):=fun a ha hb=>by
 cases ha
 unfold zev at hb
 exact absurd (show n≤y.block from hb) (by omega)
theorem zdl(n:Nm)(k:Nat):zaj (n.drop k)=(zaj n).drop k:=by unfold zaj;rw[List.map_drop]
theorem zjE{n o:Nm}{i:Nat}(hi:i≤n.length):zaQ (n.drop i) o=(decide (i≤n.length - o.length) && zaQ n o):=by
 unfold zaQ
 rw[Bool.eq_iff_iff]
 simp only[Bool.and_eq_true,decide_eq_true_eq,List.length_drop,List.drop_drop]
 constructor
 ·rintro⟨h1,h2⟩
  refine⟨by omega,by omega,?_⟩
  rw[show n.length - o.length=i+(n.length - i - o.length) from by omega];exact h2
 ·rintro⟨h1,h2,h3⟩
  refine⟨by omega,?_⟩
  rw[show i+(n.length - i - o.length)=n.length - o.length from by omega];exact h3
end Go.Proofs.YtahbdamijngmmaaGreat
