/-
  Texts of a proof, joined: X1, O5, X7, OC, O6, O7, O8, OD, O9, OA, TP, H0, A0, T1bool, T2bool, T3bool, M1bool, M2, L1, M3b, M3, T4bool, T5bool, T6bool, H1bool, A1, A2, A3, M5pp.
  Conditions: none.
-/
import Derived.Test.YtahbdamijngmmaaGreatJRW11
import Derived.Test.YtahbdamijngmmaaGreatJRW10
import Derived.Test.YtahbdamijngmmaaGreatJRW09
import Derived.Test.YtahbdamijngmmaaGreatJRW03
import Derived.Test.YtahbdamijngmmaaGreatJRW07
import Derived.Test.YtahbdamijngmmaaGreatProg
import Derived.Ground.SlsfProg
import Derived.Shelf.SlSortCmp.NoneTotal
import Derived.Test.YtahbdamijngmmaaGreatJRW02
set_option linter.unusedVariables false
set_option linter.unusedSimpArgs false
set_option linter.defProp false
set_option linter.unnecessarySimpa false
set_option maxHeartbeats 8000000
namespace Go.Proofs.YtahbdamijngmmaaGreat
open Go
theorem zks:∀{n:Nm},(∀l∈n,l≠ [])→2*n.length≤(n.map fun l=>1+l.length).sum
 | [],_=>by simp
 |l::n,h=>by
  have h1:=List.length_pos_iff.2 (h l (List.mem_cons_self ..))
  have h2:=zks (n:=n) fun m hm=>h m (List.mem_cons_of_mem _ hm)
  rw[List.map_cons,List.sum_cons,List.length_cons];omega
theorem ziK{n:Nm}(h:zaD n=0):n.length≤127:=by
 have hl:=zbi h
 have h2:=zks fun l hm=>(hl l hm).1
 unfold zaD at h
 cases hf:n.find? (fun l=>decide (errL l≠0)) with
 |some x=>
  rw[hf]at h
  have h1:=List.find?_some hf
  simp at h1
  exact absurd h h1
 |none=>
  rw[hf]at h
  dsimp only at h
  split at h
  ·cases h
  ·rename_i h3
   unfold lenN at h3
   omega
theorem zjW{n:Nm}(h:zaD n=0):zbW n=true:=by
 unfold zbW
 rw[Bool.and_eq_true,decide_eq_true_eq]
 refine⟨?_,h⟩
 have h1:=zbi h
 have h2:=ziK h
 unfold few
 simp only[Bool.and_eq_true,decide_eq_true_eq,List.all_eq_true]
 refine⟨by omega,fun l hl=>by have:=(h1 l hl).2;omega⟩
theorem GoodSt.b{N:NetL}{s:zak}(h:GoodSt N s)(hN:za1 N):StB s:=⟨(zbN h.nm).m,h.w0,by have:=h.w1;have:=hN.w.2;omega,h.f0,by have:=h.f1;have:=hN.f.2;omega⟩
structure zmc(N:NetL)(s x:zak):Prop where
 g:GoodSt N x
 w:s.rw≤x.rw
 f:s.rf≤x.rf
 m1:x.rw - s.rw+x.rf - s.rf≤1
 go:x.fin=0→x.rw - s.rw+x.rf - s.rf=1
theorem zhZ{N:NetL}{s s0 x:zak}{k:Int}(hs:GoodSt N s)(hk:1≤k∧k≤9)(hw:s0.rw=s.rw)(hf:s0.rf≤s.rf∧s.rf≤s0.rf+1)(hx:x∈endS s k):zmc N s0 x:=by
 rw[List.mem_singleton.1 hx]
 exact⟨⟨hs.s0,hs.s1,hs.nm,hs.w0,hs.w1,hs.f0,hs.f1,by dsimp only;omega,hk.2⟩,by dsimp only;omega,by dsimp only;omega,by dsimp only;omega,fun h=>by dsimp only at h;omega⟩
theorem zi7{α:Type}{p:α→Bool}:∀{l:List α} {i:Nat} {k:Int},k∈zcW p i l→(i:Int)≤k∧k<(i:Int)+(l.length:Int)
 | [],i,k,h=>by cases h
 |a::l,i,k,h=>by
  unfold zcW at h
  rcases List.mem_append.1 h with h|h
  ·split at h
   ·rw[List.mem_singleton.1 h,List.length_cons];omega
   ·cases h
  ·have:=zi7 h
   rw[List.length_cons];omega
theorem aliasS_F{N:NetL}{s x:zak}{to:Nm}(hN:za1 N)(hs:GoodSt N s)(h0:s.fin=0)(ht:zaD to=0)(hx:x∈zdC N s to):zmc N s x:=by
 unfold zdC at hx
 split at hx
 ·exact zhZ hs (by omega) rfl (by omega) hx
 rename_i hw
 have hw':s.rw<N.rw:=by omega
 have g:∀k:Int,0≤k→k<(N.hosts.length:Int)→zmc N s {s with rw:=s.rw+1,name:=to,ref:=false,sv:=k}:=fun k h1 h2=>
  ⟨⟨h1,h2,zjW ht,by have:=hs.w0;dsimp only;omega,by dsimp only;omega,hs.f0,hs.f1,hs.e0,hs.e1⟩,by dsimp only;omega,by dsimp only;omega,by dsimp only;omega,fun _=>by dsimp only;omega⟩
 split at hx
 ·rw[List.mem_singleton.1 hx]
  exact g s.sv hs.s0 hs.s1
 ·unfold zck at hx
  obtain⟨k,hk,rfl⟩:=List.mem_map.1 hx
  have:=hN.rin k hk
  exact g k this.1 this.2
theorem referS_F{N:NetL}{s x:zak}{r:ResL}(hs:GoodSt N s)(h0:s.fin=0)(hx:x∈zdA N s r):zmc N s x:=by
 unfold zdA at hx
 split at hx
 ·exact zhZ hs (by omega) rfl (by omega) hx
 rename_i hw
 have hf0:=hs.f0
 have hs2:GoodSt N {s with rf:=s.rf+1}:=⟨hs.s0,hs.s1,hs.nm,hs.w0,hs.w1,by dsimp only;omega,by dsimp only;omega,hs.e0,hs.e1⟩
 obtain⟨h,_,hx⟩:=List.mem_flatMap.1 hx
 unfold zc1 at hx
 rcases List.mem_append.1 hx with hx|hx
 ·split at hx
  ·exact zhZ hs2 (by omega) rfl (by dsimp only;omega) hx
  ·cases hx
 ·obtain⟨k,hk,rfl⟩:=List.mem_map.1 hx
  unfold ofR zk8 at hk
  have:=zi7 hk
  exact⟨⟨by dsimp only;omega,by dsimp only;omega,hs.nm,hs.w0,hs.w1,by dsimp only;omega,by dsimp only;omega,hs.e0,hs.e1⟩,by dsimp only;omega,by dsimp only;omega,by dsimp only;omega,fun _=>by dsimp only;omega⟩
theorem zf6{N:NetL}{s x:zak}{t:Int}(hN:za1 N)(hs:GoodSt N s)(hx:x∈zbk N s t):s.fin=0∧zmc N s x:=by
 have hF:=ask_F (s:=s.sv) (t:=t) hN.z (zbN hs.nm).m
 unfold zbk at hx
 split at hx
 ·rename_i h0
  refine⟨h0,?_⟩
  repeat first| (split at hx;(first|exact zhZ hs (by omega) rfl (by omega) hx|exact aliasS_F hN hs h0 (hF.nm (by assumption)) hx|exact referS_F hs h0 hx))|exact zhZ hs (by omega) rfl (by omega) hx
 ·cases hx
theorem next_ne{N:NetL}{s:zak}{t:Int}(hN:za1 N)(hs:GoodSt N s)(h0:s.fin=0):zbk N s t≠ []:=by
 have hF:=ask_F (s:=s.sv) (t:=t) hN.z (zbN hs.nm).m
 have he:∀k:Int,endS s k≠ []:=fun k h=>by cases h
 unfold zbk
 rw[if_pos h0]
 split
 ·exact he _
 split
 ·exact he _
 split
 ·exact he _
 split
 ·exact he _
 split
 ·unfold zdC
  split
  ·exact he _
  split
  ·intro h;cases h
  ·intro h
   unfold zck at h
   have:=List.map_eq_nil_iff.1 h
   have:=hN.r1.1
   simp_all
 split
 ·rename_i h4
  unfold zdA
  split
  ·exact he _
  ·intro h
   have hn:=hF.ld h4
   obtain⟨x,hx⟩:=List.exists_mem_of_ne_nil _ hn
   have h2:=List.flatMap_eq_nil_iff.1 h x hx
   unfold zc1 at h2
   obtain⟨h3,h5⟩:=List.append_eq_nil_iff.1 h2
   have h6:=List.map_eq_nil_iff.1 h5
   rw[h6]at h3
   cases h3
 split<;>exact he _
theorem zhk{u:Int}{ds:List DatL}:(zaw u ds).length≤ds.length:=by
 unfold zaw
 split
 ·exact List.length_filterMap_le _ _
 ·simp
theorem next_len{N:NetL}{s:zak}{t:Int}(hN:NetZ N)(ms:NmM s.name):(zbk N s t).length≤2000000:=by
 have hF:=ask_F (s:=s.sv) (t:=t) hN ms
 have he:∀k:Int,(endS s k).length≤2000000:=fun k=>by unfold endS;simp
 have h1:=hN.rl
 have h2:=hN.hl
 unfold zbk
 split
 ·repeat (split;· exact he _)
  split
  ·unfold zdC
   split
   ·exact he _
   split
   ·simp
   ·unfold zck;rw[List.length_map];omega
  split
  ·unfold zdA
   split
   ·exact he _
   ·have h3:=zgV (fun a=>zhQ (N:=N) (r:=askN N s.sv s.name t) (s:={s with rf:=s.rf+1}) (h:=a)) (zaw 2 (askN N s.sv s.name t).data)
    have h4:=zhk (u:=2) (ds:=(askN N s.sv s.name t).data)
    have h5:=hF.dl
    have h6:(zaw 2 (askN N s.sv s.name t).data).length*(N.hosts.length+1)≤1000*1001:=Nat.mul_le_mul (by omega) (by omega)
    omega
  split<;>exact he _
 ·simp
set_option maxRecDepth 10000
def zdI(N:NetL)(t:Int):Nat→Nat→List MetL→List MetL
 |0,_,row=>row
 |f+1,i,row=>match row[i]? with
  |some x=>if row.length≤4096 then zdI N t f (i+1) (zbh x.2 0 row (zbk N x.1 t)) else row
  |Option.none=>row
def za5(N:NetL)(q:Nm):List zak:=zck N ⟨0,q,0,0,false,0⟩
def zcR(N:NetL)(q:Nm)(t:Int):List MetL:=zdI N t 4097 0 (zbh [] 0 [] (za5 N q))
def zcP(row:List MetL)(k:Int):Option MetL:=row.find? fun x=>decide (x.1.fin=k)
def zgY(row:List MetL)(n:Nat):List (Int×List Int):=(List.range n).filterMap fun j=>(zcP row ((j+1:Nat):Int)).map fun x=>(((j+1:Nat):Int),x.2)
def zeP(row:List MetL):List (Int×List Int):=zgY row 9
theorem zgg{row:List MetL}{n:Nat}:zgY row (n+1)=zgY row n++((zcP row ((n+1:Nat):Int)).map fun x=>(((n+1:Nat):Int),x.2)).toList:=by
 unfold zgY
 rw[List.range_succ,List.filterMap_append]
 congr 1
theorem zh0(row:List MetL)(n:Nat):(zgY row n).length≤n:=by
 unfold zgY
 have:=List.length_filterMap_le (fun j=>(zcP row ((j+1:Nat):Int)).map fun x=>(((j+1:Nat):Int),x.2)) (List.range n)
 rw[List.length_range]at this
 exact this
structure EndI(w:World)(P:List MetL)(E:List (Value×MetL)):Prop where
 a:∀e∈E,zcP P e.2.1.fin=some e.2∧e.2.1.fin≠0∧Row w e.1 (e.2.2.map vi)
 b:∀x∈P,x.1.fin≠0→∃e∈E,e.2.1.fin=x.1.fin
theorem EndI.ext{w x:World}{P:List MetL}{E:List (Value×MetL)}(h:EndI w P E)(hE:Ext w x):EndI x P E:=
 ⟨fun e he=>by obtain⟨h1,h2,h3⟩:=h.a e he;exact⟨h1,h2,h3.ext hE⟩,h.b⟩
theorem zdH{P:List MetL}{X:MetL}{k:Int}:zcP (P++ [X]) k=(zcP P k).or (if X.1.fin=k then some X else Option.none):=by
 unfold zcP
 rw[List.find?_append]
 congr 1
 by_cases h:X.1.fin=k<;>simp[h]
theorem EndI.keep{w:World}{P:List MetL}{E:List (Value×MetL)}{X:MetL}(h:EndI w P E)(hx:X.1.fin=0∨∃e∈E,e.2.1.fin=X.1.fin):EndI w (P++ [X]) E:=by
 refine⟨fun e he=>?_,fun x hx' h0=>?_⟩
 ·obtain⟨h1,h2,h3⟩:=h.a e he
  exact⟨by rw[zdH,h1];rfl,h2,h3⟩
 ·rcases List.mem_append.1 hx' with hx'|hx'
  ·exact h.b x hx' h0
  ·rw[List.mem_singleton.1 hx']at h0 ⊢
   exact hx.resolve_left h0
theorem EndI.add{w:World}{P:List MetL}{E:List (Value×MetL)}{X:MetL}{pv:Value}(h:EndI w P E)(h0:X.1.fin≠0)(hn:∀e∈E,e.2.1.fin≠X.1.fin)(hr:Row w pv (X.2.map vi)):EndI w (P++ [X]) (E++ [(pv,X)]):=by
 have hnone:zcP P X.1.fin=Option.none:=List.find?_eq_none.2 fun x hx e=>by
  have e:=of_decide_eq_true e
  obtain⟨y,hy,he⟩:=h.b x hx (by rw[e];exact h0)
  exact hn y hy (he.trans e)
 refine⟨fun e he=>?_,fun x hx' hx0=>?_⟩
 ·rcases List.mem_append.1 he with he|he
  ·obtain⟨h1,h2,h3⟩:=h.a e he
   exact⟨by rw[zdH,h1];rfl,h2,h3⟩
  ·rw[List.mem_singleton.1 he]
   exact⟨by rw[zdH,hnone,if_pos rfl];rfl,h0,hr⟩
 ·rcases List.mem_append.1 hx' with hx'|hx'
  ·obtain⟨e,he,h1⟩:=h.b x hx' hx0
   exact⟨e,List.mem_append_left _ he,h1⟩
  ·exact⟨(pv,X),by simp,by rw[List.mem_singleton.1 hx']⟩
theorem EndI.no{w:World}{P:List MetL}{E:List (Value×MetL)}{k:Int}(h:EndI w P E)(hk:k≠0)(hn:∀e∈E,e.2.1.fin≠k):zcP P k=Option.none:=List.find?_eq_none.2 fun x hx e=>by
 have e:=of_decide_eq_true e
 obtain⟨y,hy,he⟩:=h.b x hx (by rw[e];exact hk)
 exact hn y hy (he.trans e)
def entE(e:Value×MetL):Value×Value:=(vi e.2.1.fin,.agg #[vi e.2.1.fin,e.1])
structure RowG(N:NetL)(i:Nat)(row:List MetL):Prop where
 g:∀y∈row,GoodSt N y.1
 p:∀y∈row,y.2.length≤i
theorem RowG.meet{N:NetL}{i:Nat}{row:List MetL}{p:List Int}{L:List zak}{k:Nat}(h:RowG N i row)(hp:p.length<i)(hL:∀s∈L,GoodSt N s):RowG N i (zbh p k row L):=by
 refine⟨fun y hy=>?_,fun y hy=>?_⟩
 ·rcases zd3 hy with hy| ⟨hy,_⟩
  ·exact h.g y hy
  ·exact hL _ hy
 ·rcases zd3 hy with hy| ⟨_,j,e⟩
  ·exact h.p y hy
  ·rw[e,List.length_append,List.length_singleton];omega
theorem RowG.mono{N:NetL}{i j:Nat}{row:List MetL}(h:RowG N i row)(hij:i≤j):RowG N j row:=⟨h.g,fun y hy=>Nat.le_trans (h.p y hy) hij⟩
theorem zeS{x:Int}(h0:0≤x)(h1:x≤1000000):(Lit.int .i64 x).wf=true:=by
 have e1:IntKind.i64.min= -9223372036854775808:=by decide
 have e2:IntKind.i64.max=9223372036854775807:=by decide
 show(decide (IntKind.i64.min≤x) && decide (x≤IntKind.i64.max))=true
 rw[e1,e2,decide_eq_true (by omega),decide_eq_true (by omega)];rfl
theorem ziZ{k:Nat}:∀{l:List Nat},(∀x∈l,x≤k)→l.sum≤k*l.length
 | [],_=>by simp
 |a::l,h=>by
  have h1:=h a (by simp)
  have h2:=ziZ (l:=l) fun x hx=>h x (by simp[hx])
  rw[List.sum_cons,List.length_cons,Nat.mul_succ];omega
theorem zgS{N:NetL}{s:zak}(hN:za1 N)(h:GoodSt N s):StG s:=by
 have hg:=zbN h.nm
 have hf:=hg.fold
 have hfew:few s.name=true:=by have:=h.nm;unfold zbW at this;exact(Bool.and_eq_true_iff.1 this).1
 have hl:∀l∈zaj s.name,l.length≤100:=fun l hl=>by
  obtain⟨x,hx,rfl⟩:=List.mem_map.1 hl
  simp only[few,Bool.and_eq_true,List.all_eq_true,decide_eq_true_eq]at hfew
  rw[zea];exact hfew.2 x hx
 have h1:=hN.h1.2
 have h2:=hN.w.2
 have h3:=hN.f.2
 have:=h.s0;have:=h.s1;have:=h.w0;have:=h.w1;have:=h.f0;have:=h.f1;have:=h.e0;have:=h.e1
 refine⟨hg,?_,zeS (by show 0≤s.sv;omega) (by show s.sv≤_;omega),zeS (by show 0≤s.rw;omega) (by show s.rw≤_;omega),zeS (by show 0≤s.rf;omega) (by show s.rf≤_;omega),zeS (by show 0≤s.fin;omega) (by show s.fin≤_;omega)⟩
 show(zbI (zaj s.name)).length≤_
 have h4:=ze8 (zaj s.name)
 have h5:=ziZ (k:=100) (l:=(zaj s.name).map List.length) (fun x hx=>by obtain⟨l,hl',rfl⟩:=List.mem_map.1 hx;exact hl l hl')
 rw[List.length_map]at h5
 have h6:=hf.len
 unfold zbI
 split
 ·simp
 ·omega
theorem zfd{N:NetL}{q:Nm}(hN:za1 N)(hq:zbW q=true):∀s∈za5 N q,GoodSt N s:=fun s hs=>by
 obtain⟨r,hr,rfl⟩:=List.mem_map.1 hs
 obtain⟨h1,h2⟩:=hN.rin r hr
 exact⟨h1,h2,hq,Int.le_refl _,hN.w.1,Int.le_refl _,hN.f.1,Int.le_refl _,by show(0:Int)≤9;decide⟩
theorem expl_g{N:NetL}{t:Int}(hN:za1 N):∀{f i:Nat} {row:List MetL},RowG N (i+1) row→RowG N (i+f+1) (zdI N t f i row)
 |0,i,row,h=>h
 |f+1,i,row,h=>by
  unfold zdI
  split
  ·rename_i x hx
   split
   ·have hm:=List.mem_of_getElem? hx
    have h1:=h.p x hm
    have:=expl_g (f:=f) (i:=i+1) (t:=t) hN ((h.mono (j:=i+1+1) (by omega)).meet (k:=0) (p:=x.2) (L:=zbk N x.1 t) (by omega) (fun s hs=>(zf6 hN (h.g x hm) hs).2.g))
    rw[show i+(f+1)+1=i+1+f+1 by omega]
    exact this
   ·exact h.mono (by omega)
  ·exact h.mono (by omega)
theorem zka{q q':Nm}(h:∀o,zaQ q o=zaQ q' o):zaR q=zaR q':=by
 funext b x
 unfold zaR
 rw[h]
theorem zjt{N:NetL}{s:Int}{q q':Nm}(h:∀o,zaQ q o=zaQ q' o):zcx N s q=zcx N s q':=by
 unfold zcx zlW
 rw[zka h]
theorem zgs{q q':Nm}(h:zaj q=zaj q')(o:Nm):zaQ q o=zaQ q' o:=by
 rw[←zbt (q:=q),←zbt (q:=q'),h]
theorem ask_fold{N:NetL}{s:Int}{q:Nm}{t:Int}:Alk (askN N s q t) (askN N s (zaj q) t):=by
 unfold askN
 rw[zjt (q:=zaj q) (q':=q) (fun o=>zbt)]
 split
 ·cases (N.zones s)[(zcx N s q).1.toNat]? with
  |none=>exact Alk.self _
  |some z=>exact zk9
 ·exact Alk.self _
def AlS(a b:zak):Prop:=∃n,b={a with name:=n}∧zaj n=zaj a.name
inductive AllS:List zak→List zak→Prop
 |nil:AllS [] []
 |cons {a b:zak} {l m:List zak} (h:AlS a b) (t:AllS l m):AllS (a::l) (b::m)
theorem AllS.app{l m l' m':List zak}(h:AllS l m)(k:AllS l' m'):AllS (l++l') (m++m'):=by
 induction h with
 |nil=>exact k
 |cons h _ ih=>exact .cons h ih
theorem AllS.maps{α:Type}{f g:α→zak}(h:∀a,AlS (f a) (g a)):∀l:List α,AllS (l.map f) (l.map g)
 | []=> .nil
 |a::l=> .cons (h a) (AllS.maps h l)
theorem AllS.flat{α:Type}{f g:α→List zak}(h:∀a,AllS (f a) (g a)):∀l:List α,AllS (l.flatMap f) (l.flatMap g)
 | []=> .nil
 |a::l=>by
  rw[List.flatMap_cons,List.flatMap_cons]
  exact(h a).app (AllS.flat h l)
theorem zc4{a b:zak}(h:AlS a b)(k:Int):AllS (endS a k) (endS b k):=by
 obtain⟨n,rfl,hn⟩:=h
 exact .cons ⟨n,rfl,hn⟩ .nil
theorem zjI{N:NetL}{a b:zak}(h:AlS a b):AllS (zck N a) (zck N b):=by
 obtain⟨n,rfl,hn⟩:=h
 exact AllS.maps (f:=fun k=>{a with sv:=k}) (g:=fun k=>{a with sv:=k,name:=n}) (fun k=>⟨n,rfl,hn⟩) N.roots
theorem zke{N:NetL}{a b:zak}{to to':Nm}(h:AlS a b)(ht:zaj to'=zaj to):AllS (zdC N a to) (zdC N b to'):=by
 obtain⟨n,rfl,hn⟩:=h
 unfold zdC
 dsimp only
 split
 ·exact zc4 ⟨n,rfl,hn⟩ 7
 ·rw[zjt (zgs ht)]
  have h2:AlS {a with rw:=a.rw+1,name:=to,ref:=false} {a with rw:=a.rw+1,name:=to',ref:=false}:=⟨to',rfl,ht⟩
  split
  ·exact .cons h2 .nil
  ·exact zjI h2
theorem zlo{N:NetL}{a b:zak}{r r':ResL}(h:AlS a b)(hr:Alk r r')(x:Nm):AllS (zc1 N r a x) (zc1 N r' b x):=by
 obtain⟨n,rfl,hn⟩:=h
 obtain⟨m,rfl,_⟩:=hr
 unfold zc1
 refine AllS.app ?_ (AllS.maps (f:=fun k=>{a with sv:=k,ref:=true}) (g:=fun k=>{a with sv:=k,ref:=true,name:=n}) (fun k=>⟨n,rfl,hn⟩) (ofR N r x))
 show AllS (if ((ofR N r x).length:Int)=0 then _ else _) (if ((ofR N r x).length:Int)=0 then _ else _)
 split
 ·exact zc4 ⟨n,rfl,hn⟩ 9
 ·exact .nil
theorem ziv{N:NetL}{a b:zak}{r r':ResL}(h:AlS a b)(hr:Alk r r'):AllS (zdA N a r) (zdA N b r'):=by
 obtain⟨n,rfl,hn⟩:=h
 unfold zdA
 dsimp only
 split
 ·exact zc4 ⟨n,rfl,hn⟩ 8
 ·have hd:r'.data=r.data:=by
   obtain⟨m,rfl,_⟩:=hr;rfl
  rw[hd]
  exact AllS.flat (fun x=>zlo (N:=N) (a:={a with rf:=a.rf+1}) (b:={a with rf:=a.rf+1,name:=n}) ⟨n,rfl,hn⟩ hr x) _
theorem zhJ{N:NetL}{s:zak}{t:Int}:AllS (zbk N s t) (zbk N {s with name:=zaj s.name} t):=by
 have hs:AlS s {s with name:=zaj s.name}:=⟨_,rfl,zcf _⟩
 have ha:Alk (askN N s.sv s.name t) (askN N s.sv (zaj s.name) t):=ask_fold
 obtain⟨a,hae⟩:∃a,askN N s.sv s.name t=a:=⟨_,rfl⟩
 obtain⟨b,hbe⟩:∃b,askN N s.sv (zaj s.name) t=b:=⟨_,rfl⟩
 rw[hae,hbe]at ha
 have hk:=ha.kind
 have hn:zaj b.name=zaj a.name:=by
  obtain⟨m,rfl,hm⟩:=ha;exact hm
 unfold zbk
 dsimp only
 rw[hae,hbe,hk]
 split
 ·repeat (split;· exact zc4 hs _)
  split
  ·exact zke hs hn
  split
  ·exact ziv hs ha
  split<;>exact zc4 hs _
 ·exact .nil
theorem AlS.key{a b:zak}(h:AlS a b):keyS a=keyS b:=by
 obtain⟨n,rfl,hn⟩:=h
 unfold keyS
 simp[hn]
theorem AlS.symm{a b:zak}(h:AlS a b):AlS b a:=by
 obtain⟨n,rfl,hn⟩:=h
 exact⟨a.name,rfl,hn.symm⟩
theorem AlS.trans{a b c:zak}(h:AlS a b)(k:AlS b c):AlS a c:=by
 obtain⟨n,rfl,hn⟩:=h
 obtain⟨m,rfl,hm⟩:=k
 exact⟨m,rfl,hm.trans hn⟩
theorem AllS.symm{l m:List zak}(h:AllS l m):AllS m l:=by
 induction h with
 |nil=>exact .nil
 |cons h _ ih=>exact .cons h.symm ih
theorem AllS.trans{l m n:List zak}(h:AllS l m)(k:AllS m n):AllS l n:=by
 induction h generalizing n with
 |nil=>exact k
 |cons h _ ih=>cases k with
  |cons k kt=>exact .cons (h.trans k) (ih kt)
theorem next_al{N:NetL}{a b:zak}{t:Int}(h:AlS a b):AllS (zbk N a t) (zbk N b t):=by
 obtain⟨n,rfl,hn⟩:=h
 have h1:=zhJ (N:=N) (s:=a) (t:=t)
 have h2:=zhJ (N:=N) (s:={a with name:=n}) (t:=t)
 simp only[hn]at h2
 exact h1.trans h2.symm
structure EndAt(w:World)(cs:List Value)(x:Int×List Int):Prop where
 ex:∃pv,cs=[vi x.1,pv]∧Row w pv (x.2.map vi)
theorem EndAt.ext{w x:World}{cs:List Value}{e:Int×List Int}(h:EndAt w cs e)(hE:Ext w x):EndAt x cs e:=by
 obtain⟨pv,e1,h1⟩:=h.ex
 exact⟨pv,e1,h1.ext hE⟩
theorem zh1(w:World):zeQ 2 (EndAt w):=⟨fun h=>by obtain⟨pv,rfl,_⟩:=h.ex;rfl,fun h=>by obtain⟨pv,rfl,h1⟩:=h.ex;exact zei rfl h1.isOne⟩
theorem zk4{N:NetL}{s:zak}{t:Int}(hN:za1 N)(hs:GoodSt N s):(zbk N s t).length≤2000000:=next_len hN.z (zbN hs.nm).m
theorem zgr{w0 w:World}(hE0:Ext w0 w){cs:List Value}{N:NetL}{qv:Value}{q:Nm}{t:Int}(hN:NetAt w0 cs N)(hG:za1 N)(hq:Row w qv (q.map vs))(hgq:zbW q=true):
  Fn Tryz.prog 35 #[.agg cs.toArray,qv,vi t] w (fun v w'=>Ext w w'∧((4096<(zcR N q t).length∧v= .tuple #[.slice Option.none 0 0,vi 0,vi 11])∨
   ((zcR N q t).length≤4096∧∃ev,v= .tuple #[ev,vi (zcR N q t).length,vi 0]∧Rows 2 (EndAt w') w' ev (zeP (zcR N q t))))):=by
 have hN0:=hN
 obtain⟨hsv,rv,rfl,hh,hr⟩:=hN.ex
 obtain⟨ah,ch,hhv,_⟩:=hh.open
 obtain⟨ar0,cr0,hrv,_⟩:=id hr
 refine enter Tryz.func35 Tryz.ntmps35 rfl rfl ?_
 repeat refine c_r ?_
 rw[hhv,hrv]
 refine go trivial ?_
 rw[←hhv,←hrv]
 refine zaB ?_
 intro w1 hE1 hs1 hA
 refine rq ?_;intro gd K hgd hK
 try simp only[go_sem]
 refine⟨by kernel_rfl,?_⟩
 rw[show bdV Tryz.prog 161 [(0,.map (some w1.heap.size))]=some (.agg #[.map (some w1.heap.size),.slice Option.none 0 0]) from by kernel_rfl]
 try simp only[go_sem]
 refine hK _ _ ?_;clear hK hgd;clear K;try clear gd
 rw[zai]
 refine go trivial ?_
 refine zaO ?_
 intro w2 hE2 hs2 hM hB
 have dN:zas w2 (some ⟨w.heap.size,0,Option.none⟩) 4=some [hsv,rv,vi N.rw,vi N.rf]:=zah (Ext.at hE2 hA) rfl
 obtain⟨m,hm⟩:∃m,w1.heap.size=m:=⟨_,rfl⟩
 rw[hm]at hM hB hs2 ⊢
 have hI2:SetI w1 w2 (m+1) m (.slice Option.none 0 0) []:=⟨hB,⟨_,_,hM,rfl⟩,Owns.nil _ _ _ _ _,hE2,by omega,by omega,by omega,(fun e=>by cases e),(fun e=>by cases e)⟩
 clear hB hM
 have hE02:=hE0.trans (hE1.trans hE2)
 refine go trivial ?_
 have hmq:=zbN hgq
 refine rc dN (zfM hE02 hN0 hG.z.rl (hq.ext (hE1.trans hE2))) ?_
 rintro sv w3 ⟨hE3,hsb,_,rfl,hsr,hsn⟩
 have hI3:=hI2.ext hE3
 have hSw:∀i,setB (m+1) m (.slice Option.none 0 0) i→w1.heap.size≤i∧i<w2.heap.size:=fun i hi=>hI2.lt hi
 have hsl:(za5 N q).length≤1000:=by have:=hG.z.rl;unfold za5 zck;rw[List.length_map];exact this
 refine rd trivial (zk7 (L:=za5 N q) (p:=[]) hI3 ⟨⟨Option.none,0,rfl,Nat.le_refl _,fun j h=>by simp at h⟩,fun h=>absurd rfl h⟩ (by decide) hsr (fun a n c e=>by
  obtain⟨k1,k2⟩:=hsb a n c e
  exact⟨k2,fun hj=>by have:=hSw _ hj;omega⟩) (fun s hs=>by
  have:s.name=q:=by obtain⟨r,_,rfl⟩:=List.mem_map.1 hs;rfl
  rw[this]
  exact RowY.old hq (hE1.trans (hE2.trans hE3)) fun b hb=>by have:=hSw _ hb;have:=hE1.size;omega) (fun s hs=>zgS hG (zfd hG hgq s hs)) (fun y hy=>by cases hy) (by simp;omega)) ?_
 rintro _ w4 ⟨lv,hI4,hk4,hS4⟩
 refine rgo trivial ?_
 have hR0:RowG N 1 (zbh [] 0 [] (za5 N q)):=RowG.meet ⟨fun y hy=>(by cases hy),fun y hy=>(by cases hy)⟩ (by simp) (zfd hG hgq)
 have hl0:(zbh [] 0 [] (za5 N q)).length≤1000:=by have:=zd4 (p:=[]) (k:=0) (L:=za5 N q) (row:=[]);simp at this;omega
 obtain⟨F,hF⟩:∃F,zcR N q t=F:=⟨_,rfl⟩
 rw[hF]
 have hA4:w4.heap[w.heap.size]? =some (.cells #[hsv,rv,vi N.rw,vi N.rf] 25 (0,0)):=Ext.at (hI4.e) hA
 have hqo:∀{v lv':_} {row:List MetL},SetI w1 v (m+1) m lv' row→zas v (some ⟨w.heap.size,0,Option.none⟩) 4=some [hsv,rv,vi N.rw,vi N.rf]:=fun h=>zah (Ext.at h.e hA) rfl
 refine zay (Q:=fun e σ' ds' v=>e= .exit 0∧ds'=[]∧(σ' 9= .pointer (some ⟨m+1,0,Option.none⟩))∧∃lv,SetI w1 v (m+1) m lv F∧RowG N 5000 F∧F.length≤2100000) ?_ ?_
 ·refine zam (fun mm σ ds v=>ds=[]∧∃(i:Nat) (lv:Value) (row:List MetL),i+mm=4098∧(σ 10=vi i∧σ 9= .pointer (some ⟨m+1,0,Option.none⟩)∧σ 3= .pointer (some ⟨w.heap.size,0,Option.none⟩)∧σ 2=vi t)∧SetI w1 v (m+1) m lv row∧RowG N (i+1) row∧row.length≤2100000∧zdI N t (4097 - i) i row=F) 4098 ?_ ?_
  ·exact⟨rfl,0,lv,_,by omega,⟨vr0,vq0,vq0,vq0⟩,hI4,hR0,by omega,hF⟩
  rintro mm σ ds v ⟨rfl,i,lv1,row,him,s,hI,hRG,hrl,hFe⟩
  obtain⟨al,cl,rfl,_,hgl⟩:=hI.o.rows.open
  have c1:zae v (some ⟨m+1,1,Option.none⟩)=some (.slice al row.length cl):=zab (i:=1) hI.c rfl
  by_cases hi:i<row.length
  rotate_left
  ·have hFr:row=F:=by
    rw[←hFe]
    cases hf:4097 - i with
    |zero=>rfl
    |succ f=>unfold zdI;rw[List.getElem?_eq_none (by omega)]
   have hd:decide ((i:Int)<(row.length:Int))=false:=decide_eq_false (by omega)
   refine go trivial ?_
   refine rgg [(7,35)] (an3 s c1 hd) ?_
   refine go trivial ?_
   rw[←hFr]
   exact⟨rfl,rfl,(vq1 s),_,hI,hRG.mono (by omega),hrl⟩
  have hd:decide ((i:Int)<(row.length:Int))=true:=decide_eq_true (by omega)
  by_cases hm4:row.length≤4096
  rotate_left
  ·have hFr:row=F:=by
    rw[←hFe]
    cases hf:4097 - i with
    |zero=>rfl
    |succ f=>unfold zdI;rw[List.getElem?_eq_getElem hi];simp only[];rw[if_neg hm4]
   have hd2:decide ((row.length:Int)≤4096)=false:=decide_eq_false (by omega)
   refine go trivial ?_
   refine rgg [(7,35)] (an4 s c1 hd hd2) ?_
   refine go trivial ?_
   rw[←hFr]
   exact⟨rfl,rfl,(vq1 s),_,hI,hRG.mono (by omega),hrl⟩
  have hd2:decide ((row.length:Int)≤4096)=true:=decide_eq_true (by omega)
  obtain⟨f,hf⟩:∃f,4097 - i=f+1:=⟨4096 - i,by omega⟩
  obtain⟨cs7,hcs,hMt⟩:=hgl i hi
  have hmem:=List.getElem_mem hi
  have hFn:zdI N t f (i+1) (zbh row[i].2 0 row (zbk N row[i].1 t))=F:=by
   rw[←hFe,hf]
   conv=>rhs;unfold zdI
   rw[List.getElem?_eq_getElem hi];simp only[];rw[if_pos hm4]
  obtain⟨X,hX⟩:∃X,row[i]=X:=⟨_,rfl⟩
  rw[hX]at hMt hmem hFn
  have gX:=hRG.g X hmem
  have pX:=hRG.p X hmem
  obtain⟨nv,pv,rfl,hnv,hpv⟩:=id hMt.ex
  obtain⟨xa,rfl⟩:=Option.isSome_iff_exists.1 (zaq hcs)
  obtain⟨xi,hxi⟩:∃xi,adr (some xa) (i*7)=some xi:=⟨_,rfl⟩
  rw[hxi]at hcs
  have hz0:adr (some xi) 0=some xi:=zaA _
  obtain⟨x6,hx6⟩:∃x,adr (some xi) 6=some x:=⟨_,rfl⟩
  have g6:=zax (j:=6) hcs rfl
  rw[hx6]at g6
  have gS:=zcw (m:=6) (k:=1) hcs
  rw[show (stV nv X.1++ [pv]).take 6=stV nv X.1 from rfl]at gS
  have hi0:(0:Int)≤(i:Int):=by omega
  have hi1:(i:Int)<(row.length:Int):=by omega
  have hi1':(i:Int)+1=((i+1:Nat):Int):=by push_cast;rfl
  have dN':=hqo hI
  have hnl:=zk4 (t:=t) hG gX
  refine go trivial ?_
  refine rgg [(7,35)] (an4 s c1 hd hd2) ?_
  refine go trivial ?_
  refine zay (Q:=fun e σ' ds' v'=>e= .normal∧ds'=[]∧(σ' 10=vi i∧σ' 9= .pointer (some ⟨m+1,0,Option.none⟩)∧σ' 3= .pointer (some ⟨w.heap.size,0,Option.none⟩)∧σ' 2=vi t)∧∃lv',SetI w1 v' (m+1) m lv' (zbh X.2 0 row (zbk N X.1 t))) ?_ ?_
  ·refine zaJ (fun i=>i==20) [(0,true),(1,true),(2,true),(3,true),(4,true),(5,true),(6,true),(7,true),(8,true),(9,true),(10,true),(11,true),(12,true),(13,true),(14,true),(15,true),(16,true),(17,true),(18,true),(19,false),(20,false)] NoS mixed (by kernel_rfl) ?_;intro gd K x hgd hx hxe hK;clear hxe
   have c1x:=zaa hx c1
   have g6x:=zaa hx g6
   have gSx:=zad hx gS
   have dNx:=zad hx dN'
   unfold stV at gSx
   simp (disch:=first|omega|assumption|rfl) only[go_sem,s,c1x,g6x,gSx,dNx,hxi,hz0,hx6,hi0,hi1]
   have hE0x:=hE0.trans (hE1.trans (hI.e.trans hx))
   refine Fn.mono (zhb (t:=t) hE0x hN0 hG.z (hnv.1.ext hx) (gX.b hG)) ?_
   rintro sv2 y ⟨hy,hsb2,u,hok,hsr2,hsn2⟩
   refine⟨.inr hy,?_⟩
   simp (disch:=first|omega|assumption|rfl) only[go_sem]
   have hIy:=hI.ext (hx.trans hy)
   have hSx:∀j,setB (m+1) m (.slice (some xa) row.length cl) j→w1.heap.size≤j∧j<x.heap.size:=fun j hj=>(hI.ext hx).lt hj
   have kx:Keep (setB (m+1) m (.slice (some xa) row.length cl)) v y:=(hx.trans hy).mono fun _ _ h=>h.elim
   refine Fn.mono (zk7 (L:=zbk N X.1 t) (p:=X.2) hIy (hpv.turn kx fun _ h=> .inl h) (by omega) hsr2 (fun a n c e=>by
    obtain⟨k1,k2⟩:=hsb2 a n c e
    exact⟨k2,fun hj=>by have:=hSx _ hj;omega⟩) (fun s' hs'=>?_) (fun s' hs'=>zgS hG (zf6 hG gX hs').2.g) (fun y' hy'=>(zgS hG (hRG.g y' hy')).k) (by omega)) ?_
   ·rcases hok with rfl|hok| ⟨l,hl⟩
    ·exact(hnv.turn kx fun _ h=> .inl h).alike (hsn2 s' hs')
    ·refine⟨hsn2 s' hs',fun _ a n c e=>?_⟩
     obtain⟨k1,k2⟩:=hok a n c e
     exact⟨k2,fun hj=>by have:=hSx _ hj;omega⟩
    ·exact(RowY.old hl (hE0x.trans hy) fun j hj=>by have:=(hSx j hj).1;have:=(hE0.trans hE1).size;omega).alike (hsn2 s' hs')
   rintro _ z ⟨lv2,hI2',_,_⟩
   refine⟨.inl rfl,?_⟩
   simp (disch:=first|omega|assumption|rfl) only[go_sem]
   refine hK _ _ ?_;clear hK hgd;clear K;try clear gd
   exact⟨rfl,rfl,sc s,lv2,hI2'⟩
  clear s
  rintro _ σ1 _ v1 ⟨rfl,rfl,s,lv2,hI2'⟩
  have hml:=zd4 (p:=X.2) (k:=0) (L:=zbk N X.1 t) (row:=row)
  refine go (an2 s hi1') ?_
  exact⟨mm - 1,by omega,rfl,i+1,lv2,_,by omega,sc (an2 s hi1'),hI2',(hRG.mono (j:=i+1+1) (by omega)).meet (by omega) (fun s hs=>(zf6 hG gX hs).2.g),by omega,by rw[show 4097 - (i+1)=f by omega];exact hFn⟩
 rintro _ σ _ v ⟨rfl,rfl,s9,lv5,hI5,hRF,hFl⟩
 obtain⟨al,cl,rfl,_,hgl⟩:=hI5.o.rows.open
 have c1:zae v (some ⟨m+1,1,Option.none⟩)=some (.slice al F.length cl):=zab (i:=1) hI5.c rfl
 have hEwv:Ext w v:=hE1.trans hI5.e
 refine go trivial ?_
 by_cases h4:(F.length:Int)>4096
 ·refine go (an4 s9 c1 (decide_eq_true h4) Nat.zero_add) ?_
  refine zaE (.inr rfl) Tryz.ntmps35 rfl (zat (v:= .slice Option.none 0 0) (vr0) (zat (v:=vi 0) (vr0) (zat (v:=vi 11) (vr0) zaz))) ?_
  exact⟨hEwv,.inl ⟨by omega,rfl⟩⟩
 refine go (an4 s9 c1 (decide_eq_false h4) Nat.zero_add) ?_
 refine zaB ?_
 intro v1 hEm hsm hMp
 obtain⟨mp,hmp⟩:∃mp,v.heap.size=mp:=⟨_,rfl⟩
 rw[hmp]at hMp hsm ⊢
 have c1m:=zaa hEm c1
 refine go (an2 s9 c1m) ?_
 have hEI0:EndI v ([]:List MetL) []:=⟨fun e he=>(by cases he),fun x hx=>(by cases hx)⟩
 have hG0:GM v1 mp (([]:List (Value×MetL)).map entE):=⟨_,_,hMp,rfl⟩
 refine zay (Q:=fun e σ' ds' x=>e= .exit 2∧ds'=[]∧(σ' 11= .map (some mp)∧σ' 9= .pointer (some ⟨m+1,0,Option.none⟩))∧∃E,Ext v x∧EndI v F E∧GM x mp (E.map entE)) ?_ ?_
 ·refine zfZ F.length (fun i σ x=>(σ 78=vi i∧σ 77=vi F.length∧σ 76= .slice al F.length cl∧σ 11= .map (some mp)∧σ 9= .pointer (some ⟨m+1,0,Option.none⟩))∧∃E,Ext v x∧EndI v (F.take i) E∧GM x mp (E.map entE)) ?_ ?_ ?_
  ·exact⟨⟨vr0,vq0,vq0,vq0,(vq1 s9)⟩,[],hEm,hEI0,hG0⟩
  ·rintro i σ X hi q ⟨s,E,hEX,hEI,hGM⟩
   obtain⟨cs7,hcs,hMt⟩:=hgl i hi
   replace hcs:=zad hEX hcs
   obtain⟨nv,pv,rfl,hnv,hpv⟩:=id hMt.ex
   have hone:=hMt.ones
   have hpX:=hpv.1
   obtain⟨xa,rfl⟩:=Option.isSome_iff_exists.1 (zaq hcs)
   obtain⟨xi,hxi⟩:∃xi,adr (some xa) (i*7)=some xi:=⟨_,rfl⟩
   rw[hxi]at hcs
   have htk:F.take (i+1)=F.take i++ [F[i]]:=zap hi
   obtain⟨S,hS⟩:∃S,F[i]=S:=⟨_,rfl⟩
   rw[hS]at htk hcs hpX hone
   refine go (an3 s q hxi) ?_
   refine rq ?_;intro gd K hgd hK
   replace hcs:zas X (some xi) 7=some [vi S.1.sv,nv,vi S.1.rw,vi S.1.rf,.bool S.1.ref,vi S.1.fin,pv]:=hcs
   try simp (disch:=first|omega|assumption|rfl) only[go_sem,s,q,hxi,hcs]
   refine za2 (P:=Tryz.prog) (l:=stV nv S.1++ [pv]) rfl hone.2 rfl rfl ?_
   intro X1 hX1 hs1 hC
   try simp only[go_sem]
   refine hK _ _ ?_;clear hK hgd;clear K;try clear gd
   obtain⟨c7,hc7⟩:∃c,X.heap.size=c:=⟨_,rfl⟩
   rw[hc7]at hC ⊢
   have g5:zae X1 (some ⟨c7,5,Option.none⟩)=some (vi S.1.fin):=zab (i:=5) hC rfl
   have g6:zae X1 (some ⟨c7,6,Option.none⟩)=some pv:=zab (i:=6) hC rfl
   have hEX1:=hEX.trans hX1
   replace hGM:=hGM.block (hX1.block _ hGM.lt (fun h=>h))
   clear hcs hxi hC hMt hnv hpv
   have hgk:∀p∈E.map entE,∃n,p.1= .int .i64 n:=fun p hp=>by obtain⟨e,_,rfl⟩:=List.mem_map.1 hp;exact⟨_,rfl⟩
   refine go trivial ?_
   refine rq ?_;intro gd K hgd hK
   try simp (disch:=first|omega|assumption|rfl) only[go_sem,g5]
   refine zgE (key:=vi S.1.fin) (z:= .agg #[vi 0,.slice Option.none 0 0]) (MKey.int (kd:= .i64) rfl) rfl rfl rfl ((vq1 s)) (vr0) hGM ⟨_,rfl⟩ hgk (fun hno=>?_) (fun u hu=>?_)
   ·have hn:∀e∈E,e.2.1.fin≠S.1.fin:=fun e he h0=>hno _ (List.mem_map.2 ⟨e,he,rfl⟩) (by unfold entE;rw[h0])
    try simp only[go_sem]
    refine za2 (P:=Tryz.prog) (l:=[vi 0,.slice Option.none 0 0]) rfl (fun q hq=>by simp at hq;rcases hq with rfl|rfl<;>rfl) rfl rfl ?_
    intro X2 hX2 hs2 hC2
    try simp only[go_sem]
    refine hK _ _ ?_;clear hK hgd;clear K;try clear gd
    have e5:=zaa hX2 g5
    have e6:=zaa hX2 g6
    have hEX2:=hEX1.trans hX2
    have hGM2:=hGM.block (hX2.block _ hGM.lt (fun h=>h))
    clear hC2
    by_cases hf:S.1.fin=0
    ·refine go trivial ?_
     refine rgg [(2,92)] (an2 e5 (decide_eq_true hf)) ?_
     refine go trivial ?_
     refine go (an2 s q) ?_
     exact⟨rfl,sc (an2 s q),E,hEX2,by rw[htk];exact hEI.keep (.inl hf),hGM2⟩
    ·refine go trivial ?_
     refine rgg [(2,92)] (an2 e5 (decide_eq_false hf)) ?_
     refine go trivial ?_
     obtain⟨ap,cp,rfl,_⟩:=id hpX
     have kbd:∀(n:Int) (l c:Nat),bdV Tryz.prog 91 [(0,vi n),(1,.slice ap l c)]=some (.agg #[vi n,.slice ap l c]):=fun n l c=>by kernel_rfl
     refine rq ?_;intro gd K hgd hK
     try simp (disch:=first|omega|assumption|rfl) only[go_sem,s,e5,e6]
     refine⟨by kernel_rfl,?_⟩
     rw[kbd]
     try simp (disch:=first|omega|assumption|rfl) only[go_sem,s,e5,e6]
     refine zkW (key:=vi S.1.fin) (v:= .agg #[vi S.1.fin,.slice ap (S.2.map vi).length cp]) (MKey.int (kd:= .i64) rfl) rfl ((vq1 s)) (vr0) (vr0) hGM2 ⟨_,rfl⟩ hgk (fun p hp h0=>by
      obtain⟨e,he,rfl⟩:=List.mem_map.1 hp
      injection h0 with _ h0
      exact hn e he h0) ?_
     intro X3 hg3 hk3 hs3
     try simp only[go_sem]
     refine hK _ _ ?_;clear hK hgd;clear K;try clear gd
     refine go (an2 s q) ?_
     exact⟨rfl,sc (an2 s q),E++ [(_,S)],Keep.to_ext hEX2 rfl (fun i hi=>by omega) hk3,by rw[htk];exact hEI.add hf hn hpX,by rw[List.map_append];exact hg3⟩
   ·obtain⟨e,he,hee⟩:=List.mem_map.1 hu
    unfold entE at hee
    simp only[Prod.mk.injEq]at hee
    obtain⟨h1,rfl⟩:=hee
    have h1:e.2.1.fin=S.1.fin:=by injection h1
    try simp only[go_sem]
    refine za2 (P:=Tryz.prog) (l:=[vi e.2.1.fin,e.1]) rfl (fun q hq=>by simp at hq;rcases hq with rfl|rfl;exact rfl;exact(hEI.a e he).2.2.isOne) rfl rfl ?_
    intro X2 hX2 hs2 hC2
    try simp only[go_sem]
    refine hK _ _ ?_;clear hK hgd;clear K;try clear gd
    have hEX2:=hEX1.trans hX2
    have hGM2:=hGM.block (hX2.block _ hGM.lt (fun h=>h))
    clear hC2
    refine go trivial ?_
    refine rgg [(2,92)] trivial ?_
    refine go trivial ?_
    refine go (an2 s q) ?_
    exact⟨rfl,sc (an2 s q),E,hEX2,by rw[htk];exact hEI.keep (.inr ⟨e,he,h1⟩),hGM2⟩
  ·rintro σ x q ⟨s,E,hEX,hEI,hGM⟩
   refine go (an2 s q) ?_
   rw[List.take_length]at hEI
   exact⟨rfl,rfl,sc s,E,hEX,hEI,hGM⟩
 clear s9
 rintro _ σ2 _ v2 ⟨rfl,rfl,s,E,hEX,hEI,hGM⟩
 have hEv2:=hEX.size
 refine go s ?_
 refine zay (Q:=fun e σ' ds' x=>e= .exit 4∧ds'=[]∧(σ' 9= .pointer (some ⟨m+1,0,Option.none⟩))∧∃ev,σ' 16=ev∧Ext v2 x∧Owns 2 (EndAt v) v2.heap.size x 91 ev (zeP F)) ?_ ?_
 ·refine zfZ 9 (fun i σ x=>(σ 17=vi ((i+1:Nat):Int)∧σ 11= .map (some mp)∧σ 9= .pointer (some ⟨m+1,0,Option.none⟩))∧∃ev,σ 16=ev∧Ext v2 x∧Owns 2 (EndAt v) v2.heap.size x 91 ev (zgY F i)) ?_ ?_ ?_
  ·exact⟨⟨vr0,(vq1 s),(vq1 s)⟩,.slice Option.none 0 0,vr0,Keep.refl _ _,Owns.nil _ _ _ _ _⟩
  ·rintro i σ x hi _ ⟨s,ev,h16,hEx,ho⟩
   have hd:decide (((i+1:Nat):Int)≤9)=true:=decide_eq_true (by omega)
   have hi1:((i+1:Nat):Int)+1=((i+1+1:Nat):Int):=by push_cast;rfl
   have hGMx:=hGM.block (hEx.block _ hGM.lt (fun h=>h))
   have hgk:∀p∈E.map entE,∃n,p.1= .int .i64 n:=fun p hp=>by obtain⟨e,_,rfl⟩:=List.mem_map.1 hp;exact⟨_,rfl⟩
   refine go (an3 s h16 hd) ?_
   refine rq ?_;intro gd K hgd hK
   try simp (disch:=first|omega|assumption|rfl) only[go_sem,s]
   refine zgE (key:=vi ((i+1:Nat):Int)) (z:= .agg #[vi 0,.slice Option.none 0 0]) (MKey.int (kd:= .i64) rfl) rfl rfl rfl ((vq1 s)) (vr0) hGMx ⟨_,rfl⟩ hgk (fun hno=>?_) (fun u hu=>?_)
   ·have hn:∀e∈E,e.2.1.fin≠((i+1:Nat):Int):=fun e he h0=>hno _ (List.mem_map.2 ⟨e,he,rfl⟩) (by unfold entE;rw[h0])
    try simp only[go_sem]
    refine za2 (P:=Tryz.prog) (l:=[vi 0,.slice Option.none 0 0]) rfl (fun q hq=>by simp at hq;rcases hq with rfl|rfl<;>rfl) rfl rfl ?_
    intro y hy hsy hC
    try simp only[go_sem]
    refine hK _ _ ?_;clear hK hgd;clear K;try clear gd
    refine go trivial ?_
    refine go (an3 s h16 hi1) ?_
    exact⟨rfl,sc (an2 s hi1),ev,(vq1 h16),hEx.trans hy,by rw[zgg,hEI.no (by omega) hn];simpa using ho.ext hy⟩
   ·obtain⟨e,he,hee⟩:=List.mem_map.1 hu
    unfold entE at hee
    simp only[Prod.mk.injEq]at hee
    obtain⟨h1,rfl⟩:=hee
    have h1:e.2.1.fin=((i+1:Nat):Int):=by injection h1
    obtain⟨hf,h0,hrw⟩:=hEI.a e he
    try simp only[go_sem]
    refine za2 (P:=Tryz.prog) (l:=[vi e.2.1.fin,e.1]) rfl (fun q hq=>by simp at hq;rcases hq with rfl|rfl;exact rfl;exact hrw.isOne) rfl rfl ?_
    intro y hy hsy hC
    try simp only[go_sem]
    refine hK _ _ ?_;clear hK hgd;clear K;try clear gd
    obtain⟨c9,hc9⟩:∃c,x.heap.size=c:=⟨_,rfl⟩
    rw[hc9]at hC ⊢
    have dE:zas y (some ⟨c9,0,Option.none⟩) 2=some [vi e.2.1.fin,e.1]:=zah hC rfl
    have hEA:EndAt v [vi e.2.1.fin,e.1] (((i+1:Nat):Int),e.2.2):=⟨e.1,by rw[h1],hrw⟩
    refine go trivial ?_
    refine rq ?_;intro gd K hgd hK
    try simp (disch:=first|omega|assumption|rfl) only[go_sem,s,h16,dE]
    refine zbg (zh1 v) rfl rfl rfl rfl hEA (by decide) ?_
    intro y2 hE2 hs2 ho2
    try simp only[go_sem]
    refine zaV (zh1 v) ((ho.ext hy).ext hE2) ho2.rows rfl rfl rfl rfl rfl rfl (by decide) ((vq1 h16)) (vr0) (by have:=zh0 F i;rw[List.length_singleton];omega) (by decide) (by have:=hEx.size;have:=hy.size;omega) ?_
    intro u y3 ho3 hE3 hk3 hb3
    try simp only[go_sem]
    refine hK _ _ ?_;clear hK hgd;clear K;try clear gd
    refine go (an2 s hi1) ?_
    exact⟨rfl,sc (an2 s hi1),u,vr0,hE3 v2 ((hEx.trans hy).trans hE2) (Nat.le_refl _),by rw[zgg,show zcP F ((i+1:Nat):Int)=some e.2 by rw[←h1];exact hf];exact ho3⟩
  ·rintro σ x _ ⟨s,ev,h16,hEx,ho⟩
   have hd:decide (((9+1:Nat):Int)≤9)=false:=by decide
   refine go (an2 s hd) ?_
   exact⟨rfl,rfl,sc s,ev,(vq1 h16),hEx,ho⟩
 clear s
 rintro _ σ3 _ v3 ⟨rfl,rfl,s,ev,h16,hE3,ho⟩
 have hEv3:=hEX.trans hE3
 have c13:=zaa hEv3 c1
 refine go trivial ?_
 refine zaJ (fun _=>false) [(0,true),(1,true),(2,true),(3,true),(4,true),(5,true),(6,true),(7,true),(8,true)] NoS mixed (by kernel_rfl) ?_;intro gd K x hgd hx hxe hK;have hx0:=zh2 hxe;clear hxe
 have c1x:=zaa hx c13
 simp (disch:=first|omega|assumption|rfl) only[go_sem,s,h16,c1x,Nat.zero_add]
 refine hK _ _ ?_;clear hK hgd;clear K;try clear gd
 refine go trivial ?_
 refine zaE (.inr rfl) Tryz.ntmps35 rfl (zat (v:=ev) (vr0) (zat (v:=vi F.length) (vr0) (zat (v:=vi 0) (vr0) zaz))) ?_
 exact⟨hEwv.trans (hEv3.trans hx),.inr ⟨by omega,ev,rfl,((ho.ext hx).to fun _ _ h=>h.ext (hEv3.trans hx)).rows⟩⟩
theorem optL_of{o:Option Value}{v:Value}{w:World}{K:Value→World→Prop}{F:Prop}{m:Lck K F}(h:o=some v)(hK:K v w):optL o w K F m:=by
 subst h;rw[zhA];exact hK
theorem zme(w:World):Fn Tryz.prog 193 #[.int .u64 1] w (fun v w'=>v=vi 1∧w'=w):=by
 refine enter Tryz.func193 Tryz.ntmps193 rfl rfl ?_
 refine go (an3 (show decide ((1:Int)≥4294967296)=false from rfl) (show decide ((1:Int)≥65536)=false from rfl) (show decide ((1:Int)≥256)=false from rfl)) ?_
 refine rq ?_;intro gd K hgd hK
 try simp only[go_sem]
 refine optL_of (v:= .int .u8 1) (by kernel_rfl) ?_
 try simp only[go_sem]
 refine hK _ _ ?_;clear hK hgd;clear K;try clear gd
 refine go trivial ?_
 refine rt0 Tryz.ntmps193 ?_
 exact⟨rfl,rfl⟩
theorem BLen_one(w:World):Fn Tryz.prog 145 #[.int .u64 1] w (fun v w'=>v=vi 1∧w'=w):=by
 refine enter Tryz.func145 Tryz.ntmps145 rfl rfl ?_
 refine go trivial ?_
 refine rc trivial (zme w) ?_
 rintro _ _ ⟨rfl,rfl⟩
 refine rgo trivial ?_
 refine rt0 Tryz.ntmps145 ?_
 exact⟨rfl,rfl⟩
theorem ins_one(w:World)(a:Option Addr)(c:Nat):Fn Tryz.prog 183 #[.slice a 1 c,vi 0,vi 1] w (fun _ w'=>w'=w):=by
 refine enter Tryz.func183 Tryz.ntmps183 rfl rfl ?_
 refine go trivial ?_
 refine zfZ 0 (fun _ σ v=>(σ 6=vi 1∧σ 2=vi 1)∧v=w) ⟨⟨vr0,vq0⟩,rfl⟩ (fun i _ _ h=>absurd h (by omega)) ?_
 rintro σ v _ ⟨s,rfl⟩
 refine go (an2 s (show decide ((1:Int)<1)=false from rfl)) ?_
 exact zar (by simp) rfl rfl
theorem pdq_one(w:World)(a:Option Addr)(c:Nat):Fn Tryz.prog 144 #[.slice a 1 c,vi 0,vi 1,vi 1] w (fun _ w'=>w'=w):=by
 refine enter Tryz.func144 Tryz.ntmps144 rfl rfl ?_
 refine go trivial ?_
 refine zfZ 0 (fun _ σ v=>(σ 0= .slice a 1 c∧σ 1=vi 0∧σ 2=vi 1)∧v=w) ⟨⟨vq0,vq0,vq0⟩,rfl⟩ (fun i _ _ h=>absurd h (by omega)) ?_
 rintro σ v _ ⟨s,rfl⟩
 refine go (an3 s (show(1:Int) - 0=1 from rfl) (show decide ((1:Int)≤12)=true from rfl)) ?_
 refine rc s (ins_one _ a c) ?_
 rintro _ _ rfl
 refine rgo trivial ?_
 exact zar (by simp) rfl rfl
theorem Sort_one(w:World)(a:Option Addr)(c:Nat):Fn Tryz.prog 89 #[.slice a 1 c] w (fun _ w'=>w'=w):=by
 refine enter Tryz.func89 Tryz.ntmps89 rfl rfl ?_
 refine go trivial ?_
 refine rc trivial (BLen_one w) ?_
 rintro _ _ ⟨rfl,rfl⟩
 refine rd trivial (pdq_one _ a c) ?_
 rintro _ _ rfl
 refine rgo trivial ?_
 exact zar (by simp) rfl rfl
theorem zmg{w:World}{ev:Value}{k:Int}{p:List Int}(h:Rows 2 (EndAt w) w ev [(k,p)]):Fn Tryz.prog 39 #[ev] w (fun v w'=>Row w' v [vi k]∧Ext w w'):=by
 obtain⟨a,c,rfl,_,hg⟩:=h.open
 obtain⟨cs,hcs,hE⟩:=hg 0 (by simp)
 obtain⟨pv,rfl,hp⟩:=hE.ex
 replace hcs:zas w (adr a (0*2)) 2=some [vi k,pv]:=hcs
 obtain⟨xa,rfl⟩:=Option.isSome_iff_exists.1 (zaq hcs)
 rw[List.length_singleton]
 refine enter Tryz.func39 Tryz.ntmps39 rfl rfl ?_
 refine go trivial ?_
 refine zay (Q:=fun e σ' ds' x=>e= .exit 0∧ds'=[]∧∃kv,σ' 3=kv∧Ext w x∧Own w.heap.size x 3 kv [vi k]) ?_ ?_
 ·refine zfZ 1 (fun i σ x=>(σ 8=vi i∧σ 7=vi ((1:Nat):Int)∧σ 6= .slice (some xa) 1 c)∧∃kv,σ 3=kv∧Ext w x∧Own w.heap.size x 3 kv (if i=0 then [] else [vi k])) ?_ ?_ ?_
  ·exact⟨⟨vr0,vq0,vq0⟩,.slice Option.none 0 0,vr0,Keep.refl _ _,Own.nil _ _ _⟩
  ·rintro i σ x hi q ⟨s,kv,h3,hEx,ho⟩
   have hi0:i=0:=by omega
   have hcx:zas x (adr (some xa) (i*2)) 2=some [vi k,pv]:=by rw[hi0];exact zad hEx hcs
   rw[if_pos hi0]at ho
   obtain⟨xi,hxi⟩:∃xi,adr (some xa) (i*2)=some xi:=⟨_,rfl⟩
   rw[hxi]at hcx
   refine go (an3 s q hxi) ?_
   refine rq ?_;intro gd K hgd hK
   try simp (disch:=first|omega|assumption|rfl) only[go_sem,s,q,hxi,hcx]
   refine za2 (P:=Tryz.prog) (l:=[vi k,pv]) rfl (zei rfl hp.isOne) rfl rfl ?_
   intro y hEy hsy hC
   try simp only[go_sem]
   refine hK _ _ ?_;clear hK hgd;clear K;try clear gd
   obtain⟨c5,hc5⟩:∃c,x.heap.size=c:=⟨_,rfl⟩
   rw[hc5]at hC ⊢
   have g0:zae y (some ⟨c5,0,Option.none⟩)=some (vi k):=zab (i:=0) hC rfl
   refine go trivial ?_
   refine rq ?_;intro gd K hgd hK
   try simp (disch:=first|omega|assumption|rfl) only[go_sem,h3,g0]
   refine zed rfl rfl rfl rfl rfl ?_
   intro y2 hE2 hs2 ho2
   try simp (disch:=first|omega|assumption|rfl) only[go_sem,h3]
   refine zd0 ((ho.ext hEy).ext hE2) ho2.row rfl rfl rfl rfl rfl rfl ((vq1 h3)) (vr0) (fun q hq=>by rw[List.mem_singleton.1 hq];rfl) (by simp) (by decide) (by have:=hEx.size;have:=hEy.size;omega) ?_
   intro u y3 ho3 hE3 hk3 hb3
   try simp only[go_sem]
   refine hK _ _ ?_;clear hK hgd;clear K;try clear gd
   refine go (an2 s q) ?_
   exact⟨rfl,sc (an2 s q),u,vr0,hE3 w ((hEx.trans hEy).trans hE2) (Nat.le_refl _),ho3⟩
  ·rintro σ x q ⟨s,kv,h3,hEx,ho⟩
   refine go (an2 s q) ?_
   exact⟨rfl,rfl,kv,(vq1 h3),hEx,ho⟩
 rintro _ σ _ x ⟨rfl,rfl,kv,h3,hEx,ho⟩
 obtain⟨ak,ck,rfl,hck,hgk⟩:=ho.row
 refine go trivial ?_
 refine rc h3 (Sort_one x ak ck) ?_
 rintro _ _ rfl
 refine rgo trivial ?_
 refine rc h3 (P_ci.Clip_ok hck) ?_
 rintro _ _ ⟨rfl,rfl⟩
 refine rgo trivial ?_
 refine rt0 Tryz.ntmps39 ?_
 exact⟨⟨ak,1,rfl,Nat.le_refl _,hgk⟩,hEx⟩
def stZ:zak:=⟨0,[],0,0,false,0⟩
def zcl(N:NetL)(t:Int):List Int→List zak→List (zak×Bool)
 | [],_=>[]
 |c::cs,row=>if c<0 then [(stZ,false)] else match row[c.toNat]? with
  |some s=>(s,true)::zcl N t cs (zbk N s t)
  |Option.none=>[(stZ,false)]
def zgC(N:NetL)(q:Nm)(t:Int)(ch:List Int):zak×Bool:=(zcl N t ch (za5 N q)).getLastD (stZ,false)
def encP(C:Nat→Prop)(n0 ws:Nat)(x:zak×Bool)(U:Nat→Prop)(A:World)(args:Array Value):Prop:=∃nv,args=#[.agg (stV nv x.1).toArray,.bool x.2]∧RowY (fun b=>(C b∨(n0≤b∧b<ws))∨U b) A nv (x.1.name.map vs)
theorem zkQ{N:NetL}{t c:Int}{cs:List Int}{row:List zak}(h:c<0∨(row.length:Int)≤c):zcl N t (c::cs) row=[(stZ,false)]:=by
 unfold zcl
 by_cases h0:c<0
 ·rw[if_pos h0]
 ·rw[if_neg h0,List.getElem?_eq_none (by omega)]
theorem zhx{N:NetL}{t:Int}{cs:List Int}{row:List zak}{c:Nat}(h:c<row.length):zcl N t ((c:Int)::cs) row=(row[c],true)::zcl N t cs (zbk N row[c] t):=by
 conv=>lhs;unfold zcl
 rw[if_neg (by omega),Int.toNat_natCast,List.getElem?_eq_getElem h]
theorem playsIt{w0 w1 W0:World}{C:Nat→Prop}{bn bq bc bt:Nat}{cs:List Value}{N:NetL}{qv cv:Value}{q:Nm}{ch:List Int}{t:Int}(hE01:Ext w0 w1)(hE1:Ext w1 W0)
  (hbn:W0.heap[bn]? =some (.cells cs.toArray 25 (0,0))) (hbq:W0.heap[bq]? =some (.cells #[qv] 27 (0,0))) (hbc:W0.heap[bc]? =some (.cells #[cv] 23 (0,0))) (hbt:W0.heap[bt]? =some (.cells #[vi t] 3 (0,0)))
  (hC:∀b,C b→w1.heap.size≤b∧b<W0.heap.size) (hCb:¬C bn∧¬C bq∧¬C bc∧¬C bt) (hN:NetAt w0 cs N) (hG:za1 N) (hq:Row w1 qv (q.map vs)) (hgq:zbW q=true) (hcv:Row w1 cv (ch.map vi)) (hchl:ch.length≤1000000000):
  IterU Tryz.prog 146 #[.pointer (some ⟨bn,0,Option.none⟩),.pointer (some ⟨bq,0,Option.none⟩),.pointer (some ⟨bc,0,Option.none⟩),.pointer (some ⟨bt,0,Option.none⟩)] W0 W0.heap.size C 0 (fun pre x=>∃suf,zcl N t ch (za5 N q)=pre++x::suf) (fun xs=>xs=zcl N t ch (za5 N q)) (encP C W0.heap.size):=by
 intro lp J Jx W hW hnW hJ hJx hY h0
 have hn4:=hN.one
 have hnl:=(Array.getElem?_eq_some_iff.1 hbn).1
 have hql:=(Array.getElem?_eq_some_iff.1 hbq).1
 have hcl:=(Array.getElem?_eq_some_iff.1 hbc).1
 have htl:=(Array.getElem?_eq_some_iff.1 hbt).1
 have hs1:=hE1.size
 have hE1W:=hE1.trans hW
 obtain⟨F,hF⟩:∃F,zcl N t ch (za5 N q)=F:=⟨_,rfl⟩
 rw[hF]at hY ⊢
 have dn:=zah (n:=4) (Ext.at hW hbn) hn4.1.symm
 have dq:zae W (some ⟨bq,0,Option.none⟩)=some qv:=zab (i:=0) (Ext.at hW hbq) rfl
 have dc:zae W (some ⟨bc,0,Option.none⟩)=some cv:=zab (i:=0) (Ext.at hW hbc) rfl
 obtain⟨ac,cc,hcve,_⟩:=id hcv
 rw[List.length_map]at hcve
 refine enter Tryz.func146 Tryz.ntmps146 rfl rfl ?_
 refine go trivial ?_
 refine rc (an2 dn dq) (zfM (hE01.trans hE1W) hN hG.z.rl (hq.ext hE1W)) ?_
 rintro sv v1 ⟨hEs,hsb,_,rfl,hsr,hsn⟩
 refine rgo trivial ?_
 have dc1:=zaa hEs dc
 rw[hcve]at dc1
 refine go dc1 ?_
 obtain⟨S,hS⟩:∃S:Nat→Prop,S=fun b=>C b∨(W0.heap.size≤b∧b<W.heap.size):=⟨_,rfl⟩
 have hSw:∀b,S b→w1.heap.size≤b:=fun b hb=>by
  rw[hS]at hb
  rcases hb with hb|hb
  ·exact(hC b hb).1
  ·omega
 have hSW:∀b,S b→b<W.heap.size:=fun b hb=>by
  rw[hS]at hb
  rcases hb with hb|hb
  ·have:=(hC b hb).2;omega
  ·omega
 have hCS:∀b,C b→S b:=fun b hb=>by rw[hS];exact .inl hb
 have hSn:∀b,b<W0.heap.size→¬C b→¬S b:=fun b h1 h2 h3=>by
  rw[hS]at h3
  rcases h3 with h3|h3
  ·exact h2 h3
  ·omega
 have hKR:∀{A B:World} {U:Nat→Prop},KeepR W0.heap.size W.heap.size (fun b=>C b∨U b) A B→Keep (fun b=>S b∨U b) A B:=fun h=>⟨h.os,h.tape,h.output,h.size,fun b hb hs=>h.block b hb (by
  by_cases h1:b<W0.heap.size
  ·exact .inl h1
  ·by_cases h2:b<W.heap.size
   ·exact absurd (by rw[hS];exact .inl (.inr ⟨by omega,h2⟩)) hs
   ·exact .inr (by omega)) (fun hc=>hs (hc.imp (hCS b) id)),h.drawn⟩
 have hcy:RowY S W cv (ch.map vi):=RowY.old hcv hE1W hSw
 refine zfZ ch.length (fun i σ v=>(σ 14=vi i∧σ 13=vi ch.length∧σ 12= .slice ac ch.length cc∧σ 0= .func (.yield lp) #[] #[]∧σ 1= .pointer (some ⟨bn,0,Option.none⟩)∧σ 4= .pointer (some ⟨bt,0,Option.none⟩))∧
  ∃sv u L pre U,σ 6=sv∧Rows 6 (StN u) v sv L∧BlkB W.heap.size v sv∧(∀a n c,sv= .slice (some a) n c→¬U a.block)∧(∀b,U b→W.heap.size≤b∧b<v.heap.size)∧(∀s∈L,RowY (fun b=>S b∨U b) v u (s.name.map vs))∧(∀s∈L,GoodSt N s)∧J pre U v∧Keep S W v∧pre++zcl N t (ch.drop i) L=F) ?_ ?_ ?_
 ·exact⟨⟨vr0,vr0,vq0,vq0,vq0,vq0⟩,sv,_,za5 N q,[],NoS,vq0,hsr,hsb,fun _ _ _ _ h=>h,fun _ h=>h.elim,fun s hs=>(RowY.old hq (hE1W.trans hEs) fun b h=>h.elim (hSw b) (fun h=>h.elim)).alike (hsn s hs),zfd hG hgq,hJ _ _ _ _ h0 (hEs.mono fun _ _ h=>h.elim),hEs.mono fun _ _ h=>h.elim,hF⟩
 ·rintro i σ v hi q0 ⟨s,sv,u,L,pre,U,h6,hrows,hblk,hbu,hUw,hnm,hgds,hj,hk,hsuf⟩
  obtain⟨al,cl,rfl,_⟩:=hrows.open
  have hEv:Ext w1 v:=Keep.to_ext hE1W rfl hSw hk
  have hkz:=hk.size
  have hKB:KeepB W0.heap.size C W v:=⟨hk.os,hk.tape,hk.output,hk.size,fun b hb hc=>hk.block b (by omega) (hSn b hb hc),hk.drawn⟩
  have g:=(hcy.turn hk fun _ h=> .inl h).1
  rw[hcve]at g
  obtain⟨a',c',e',_,g⟩:=g
  rw[Value.slice.injEq]at e'
  obtain⟨rfl,_,rfl⟩:=e'
  replace g:=g i (by rw[List.length_map];exact hi)
  rw[List.getElem_map]at g
  obtain⟨c,hce⟩:∃c,ch[i]=c:=⟨_,rfl⟩
  have hdr:ch.drop i=c::ch.drop (i+1):=by rw[←hce];exact List.drop_eq_getElem_cons hi
  rw[hdr]at hsuf
  rw[hce]at g
  obtain⟨xa,rfl⟩:=Option.isSome_iff_exists.1 (zag g)
  refine go (an3 s q0 g) ?_
  by_cases hb:c<0∨(L.length:Int)≤c
  ·rw[zkQ hb]at hsuf
   refine zay (Q:=fun e σ' ds' v'=>e= .normal∧ds'=[]∧v'=v∧σ' 0= .func (.yield lp) #[] #[]∧σ' 25= .bool true) ?_ ?_
   ·by_cases hc0:c<0
    ·refine rgg [(2,20)] (an2 s (decide_eq_true hc0)) ?_
     exact⟨rfl,rfl,rfl,(vq1 s),vr0⟩
    ·have hd:decide (c≥(L.length:Int))=true:=decide_eq_true (hb.resolve_left hc0)
     refine rgg [(2,20)] (an4 s h6 (decide_eq_false hc0) hd) ?_
     exact⟨rfl,rfl,rfl,(vq1 s),vr0⟩
   rintro _ σ2 _ v2 ⟨rfl,rfl,rfl,s0,h25⟩
   refine go h25 ?_
   refine rq ?_;intro gd K hgd hK
   try simp (disch:=first|omega|assumption|rfl) only[go_sem,s0]
   refine⟨by kernel_rfl,?_⟩
   rw[show bdV Tryz.prog 80 []=some (.agg #[vi 0,.slice Option.none 0 0,vi 0,vi 0,.bool false,vi 0]) from by kernel_rfl]
   try simp (disch:=first|omega|assumption|rfl) only[go_sem,s0]
   refine Yld.mono (hY pre U (stZ,false) v2 _ ⟨_,hsuf.symm⟩ hj (by omega) hKB ⟨.slice Option.none 0 0,rfl,⟨Option.none,0,rfl,Nat.le_refl _,fun j h=>by simp[stZ]at h⟩,fun h=>absurd rfl h⟩) ?_
   rintro y z (⟨rfl,U',hjz,hU',hkr⟩| ⟨rfl,hjx⟩)
   ·try simp only[go_sem]
    refine hK _ _ ?_;clear hK hgd;clear K;try clear gd
    refine go trivial ?_
    exact zar (by simp) rfl (.inl ⟨_,_,rfl,by rw[←hsuf];exact hjz⟩)
   ·try simp only[go_sem]
    refine hK _ _ ?_;clear hK hgd;clear K;try clear gd
    refine go trivial ?_
    exact zar (by simp) rfl (.inr ⟨_,_,⟨_,hsuf.symm⟩,hjx⟩)
  ·obtain⟨k,rfl⟩:=Int.eq_ofNat_of_zero_le (show 0≤c by omega)
   have hkL:k<L.length:=by omega
   rw[zhx hkL]at hsuf
   have hc0:decide ((k:Int)<0)=false:=decide_eq_false (by omega)
   have hd:decide ((k:Int)≥(L.length:Int))=false:=decide_eq_false (by omega)
   refine rgg [(2,20)] (an4 s h6 hc0 hd) ?_
   refine go trivial ?_
   obtain⟨cs6,hcs,rfl,hone⟩:=hrows.get hkL
   obtain⟨X,hX⟩:∃X,L[k]=X:=⟨_,rfl⟩
   have hmX:X∈L:=by rw[←hX];exact List.getElem_mem hkL
   rw[hX]at hcs hsuf
   unfold stV at hcs
   have hk0:(0:Int)≤(k:Int):=by omega
   have hk1:(k:Int)<(L.length:Int):=by omega
   obtain⟨xl,rfl⟩:=Option.isSome_iff_exists.1 (zaq hcs)
   refine rq ?_;intro gd K hgd hK
   try simp (disch:=first|omega|assumption|rfl) only[go_sem,s,h6,hcs,hk0,hk1]
   refine Yld.mono (hY pre U (X,true) v _ ⟨_,hsuf.symm⟩ hj (by omega) hKB ⟨u,rfl,by have:=hnm X hmX;rw[hS]at this;exact this⟩) ?_
   rintro y z (⟨rfl,U',hjz,hU',hkr⟩| ⟨rfl,hjx⟩)
   ·try simp only[go_sem]
    refine hK _ _ ?_;clear hK hgd;clear K;try clear gd
    have hkz2:=hKR hkr
    have hWz:Keep S W z:=⟨hkz2.os.trans hk.os,hkz2.tape.trans hk.tape,hkz2.output.trans hk.output,Nat.le_trans hk.size hkz2.size,fun b hb hs=>(hkz2.block b (by omega) fun h=>h.elim hs fun hu=>by have:=hUw b hu;omega).trans (hk.block b hb hs),Nat.le_trans hk.drawn hkz2.drawn⟩
    have hsS:∀b,(S b∨U' b)→(S b∨U b)∨v.heap.size≤b:=fun b h=>by
     rcases h with h|h
     ·exact .inl (.inl h)
     ·exact(hU' b h).imp .inr (fun h=>h.1)
    have hEz:Ext w1 z:=Keep.to_ext hE1W rfl hSw hWz
    have hsz:=hWz.size
    have hsz2:=hkz2.size
    have hrz:=hrows.blocks fun a n c e=>hkz2.block _ (hblk a n c e).2 (fun h=>h.elim (fun h=>by have:=hSW _ h;have:=(hblk a n c e).1;omega) (hbu a n c e))
    have hblz:=hblk.ext hsz2
    obtain⟨cs6,hcz,rfl,_⟩:=hrz.get hkL
    rw[hX]at hcz
    unfold stV at hcz
    have hnz:=(hnm X hmX).turn hkz2 hsS
    have dnz:=zah (n:=4) ((hWz.block _ (by omega) (hSn _ hnl hCb.1)).trans (Ext.at hW hbn)) hn4.1.symm
    have dtz:zae z (some ⟨bt,0,Option.none⟩)=some (vi t):=zab (i:=0) ((hWz.block _ (by omega) (hSn _ htl hCb.2.2.2)).trans (Ext.at hW hbt)) rfl
    refine go trivial ?_
    refine zaJ (fun _=>false) [(0,true),(1,true),(2,true),(3,true),(4,true),(5,true),(6,false),(7,true)] NoS mixed (by kernel_rfl) ?_;intro gd K x hgd hx hxe hK;clear hxe
    have dnx:=zad hx dnz
    have dtx:=zaa hx dtz
    have dcx:=zad hx hcz
    simp (disch:=first|omega|assumption|rfl) only[go_sem,s,h6,dnx,dtx,dcx,hk0,hk1]
    refine Fn.mono (zhb (t:=t) (hE01.trans (hEz.trans hx)) hN hG.z (hnz.1.ext hx) ((hgds X hmX).b hG)) ?_
    rintro sv2 y ⟨hy,hsb2,u2,hok,hsr2,hsn2⟩
    refine⟨.inr hy,?_⟩
    simp (disch:=first|omega|assumption|rfl) only[go_sem]
    refine hK _ _ ?_;clear hK hgd;clear K;try clear gd
    have hxy:=hx.trans hy
    have hxs:=hx.size
    have hky:Keep (fun b=>S b∨U' b) z y:=hxy.mono fun _ _ h=>h.elim
    have hzy:=hxy.size
    have hUz:∀b,U' b→W.heap.size≤b∧b<z.heap.size:=fun b hb=>by
     rcases hU' b hb with h|h
     ·have:=hUw b h;omega
     ·omega
    refine go (an2 s q0) ?_
    refine⟨rfl,sc (an2 s q0),sv2,u2,zbk N X t,_,U',vr0,hsr2,hsb2.mono (by omega),fun a n c e hu=>by have:=(hsb2 a n c e).1;have:=hUz _ hu;omega,fun b hb=>by have:=hUz b hb;omega,fun s' hs'=>?_,fun s' hs'=>(zf6 hG (hgds X hmX) hs').2.g,hJ _ _ _ _ hjz (hxy.mono fun _ _ h=>h.elim),hWz.trans (hxy.mono fun _ _ h=>h.elim),by rw[List.append_assoc];exact hsuf⟩
    rcases hok with rfl|hok| ⟨l,hl⟩
    ·exact(hnz.turn hky fun _ h=> .inl h).alike (hsn2 s' hs')
    ·refine⟨hsn2 s' hs',fun _ a n c e=>?_⟩
     obtain⟨k1,k2⟩:=hok a n c e
     exact⟨k2,fun hj=>hj.elim (fun hj=>by have:=hSW _ hj;omega) (fun hj=>by have:=hUz _ hj;omega)⟩
    ·exact(RowY.old hl ((hE01.trans hEz).trans hxy) fun j hj=>by
      have:=hE01.size
      have:=hE1W.size
      rcases hj with hj|hj
      ·have:=hSw j hj;omega
      ·have:=hUz j hj;omega).alike (hsn2 s' hs')
   ·try simp only[go_sem]
    refine hK _ _ ?_;clear hK hgd;clear K;try clear gd
    refine go trivial ?_
    exact zar (by simp) rfl (.inr ⟨_,_,⟨_,hsuf.symm⟩,hjx⟩)
 ·rintro σ v q0 ⟨s,sv,u,L,pre,U,h6,hrows,hblk,hbu,hUw,hnm,hgds,hj,hk,hsuf⟩
  refine go (an2 s q0) ?_
  rw[List.drop_length]at hsuf
  refine zar (by simp) rfl (.inl ⟨F,U,rfl,?_⟩)
  rw[←hsuf];simpa [zcl] using hj
theorem key_al{N:NetL}{a b:zak}(ha:GoodSt N a)(hb:GoodSt N b)(h:keyS a=keyS b):AlS b a:=by
 have h':=KeyL.eq_iff.2 h
 unfold keyS at h'
 obtain⟨h1,h2,h3,h4,h5,h6⟩:=h'
 dsimp only at h1 h2 h3 h4 h5 h6
 have hn:=zkq (a:=zaj a.name) (b:=zaj b.name) (zbN ha.nm).fold.ne (zbN hb.nm).fold.ne h1
 refine⟨a.name,?_,hn⟩
 cases a;cases b;simp_all
def Pl(N:NetL)(t:Int):List Int→List zak→zak→Prop
 | [],_,_=>False
 |c::cs,L,s=>∃k:Nat,c=(k:Int)∧∃x,L[k]? =some x∧((cs=[]∧s=x)∨Pl N t cs (zbk N x t) s)
theorem Pl.snoc{N:NetL}{t:Int}{s s':zak}{k:Nat}(hk:(zbk N s t)[k]? =some s'):∀{ch:List Int} {L:List zak},Pl N t ch L s→Pl N t (ch++ [(k:Int)]) L s'
 | [],_,h=>h.elim
 |c::cs,L,⟨j,hc,x,hx,h⟩=>by
  refine⟨j,hc,x,hx,.inr ?_⟩
  rcases h with ⟨rfl,rfl⟩|h
  ·exact⟨k,rfl,s',hk,.inl ⟨rfl,rfl⟩⟩
  ·exact Pl.snoc hk h
theorem Pl.play{N:NetL}{t:Int}{s:zak}:∀{ch:List Int} {L:List zak} {d:zak×Bool},Pl N t ch L s→(zcl N t ch L).getLastD d=(s,true)
 | [],_,_,h=>h.elim
 |c::cs,L,d,⟨j,hc,x,hx,h⟩=>by
  subst hc
  obtain⟨hj,rfl⟩:=List.getElem?_eq_some_iff.1 hx
  rw[zhx hj,List.getLastD_cons]
  rcases h with ⟨rfl,rfl⟩|h
  ·rfl
  ·exact Pl.play h
theorem Pl.ne{N:NetL}{t:Int}{s:zak}{ch:List Int}{L:List zak}(h:Pl N t ch L s):ch≠ []:=fun e=>by subst e;exact h
theorem zf5(row:List MetL)(x:MetL):(putL row x=row∧∃y∈row,keyS y.1=keyS x.1)∨putL row x=row++ [x]:=by
 unfold putL
 split
 ·rename_i h
  obtain⟨y,hy,e⟩:=List.any_eq_true.1 h
  exact .inl ⟨rfl,y,hy,of_decide_eq_true e⟩
 ·exact .inr rfl
theorem zd5{p:List Int}:∀(L:List zak) (k:Nat) (row:List MetL),∃E,zbh p k row L=row++E∧∀y∈E,∃j:Nat,L[j]? =some y.1∧y.2=p++ [((k+j:Nat):Int)]
 | [],k,row=>⟨[],by simp[zbh],fun y h=>by cases h⟩
 |s::L,k,row=>by
  obtain⟨E,h1,h2⟩:=zd5 (p:=p) L (k+1) (putL row (s,p++ [(k:Int)]))
  have h3:∀y∈E,∃j:Nat,(s::L)[j]? =some y.1∧y.2=p++ [((k+j:Nat):Int)]:=fun y hy=>by
   obtain⟨j,e1,e2⟩:=h2 y hy
   exact⟨j+1,e1,by rw[e2,Nat.add_assoc,Nat.add_comm 1 j]⟩
  rcases zf5 row (s,p++ [(k:Int)]) with ⟨e,_⟩|e
  ·rw[e]at h1
   refine⟨E,?_,h3⟩
   show zbh p (k+1) (putL row (s,p++ [(k:Int)])) L=_
   rw[e];exact h1
  ·refine⟨(s,p++ [(k:Int)])::E,?_,fun y hy=>?_⟩
   ·show zbh p (k+1) (putL row (s,p++ [(k:Int)])) L=_
    rw[h1,e,List.append_assoc];rfl
   ·rcases List.mem_cons.1 hy with rfl|hy
    ·exact⟨0,rfl,rfl⟩
    ·exact h3 y hy
theorem zfq{p:List Int}:∀{L:List zak} {k:Nat} {row:List MetL} {s:zak},s∈L→∃y∈zbh p k row L,keyS y.1=keyS s
 |a::L,k,row,s,h=>by
  rcases List.mem_cons.1 h with rfl|h
  ·obtain⟨E,h1,_⟩:=zd5 (p:=p) L (k+1) (putL row (s,p++ [(k:Int)]))
   show∃y∈zbh p (k+1) (putL row (s,p++ [(k:Int)])) L,_
   rw[h1]
   rcases zf5 row (s,p++ [(k:Int)]) with ⟨e,y,hy,hk⟩|e
   ·exact⟨y,by rw[e];exact List.mem_append_left _ hy,hk⟩
   ·exact⟨(s,p++ [(k:Int)]),by rw[e];simp,rfl⟩
  ·exact zfq (L:=L) h
structure Bfs(N:NetL)(t:Int)(q:Nm)(i:Nat)(row:List MetL):Prop where
 mono:∀{a b:Nat} {x y:MetL},a≤b→row[a]? =some x→row[b]? =some y→x.2.length≤y.2.length
 near:∀{x:MetL},row[i]? =some x→∀y∈row,y.2.length≤x.2.length+1
 shut:∀{j:Nat} {x:MetL},j<i→row[j]? =some x→∀s∈zbk N x.1 t,∃y∈row,keyS y.1=keyS s∧y.2.length≤x.2.length+1
 start:∀s∈za5 N q,∃y∈row,keyS y.1=keyS s∧y.2.length≤1
 pl:∀y∈row,Pl N t y.2 (za5 N q) y.1
theorem bfs_zero{N:NetL}{t:Int}{q:Nm}:Bfs N t q 0 (zbh [] 0 [] (za5 N q)):=by
 obtain⟨E,h1,h2⟩:=zd5 (p:=[]) (za5 N q) 0 []
 have hs:∀s∈za5 N q,∃y∈zbh [] 0 [] (za5 N q),keyS y.1=keyS s:=fun s hs=>zfq hs
 rw[h1,List.nil_append]at hs ⊢
 have hl:∀y∈E,y.2.length=1:=fun y hy=>by obtain⟨j,_,e⟩:=h2 y hy;rw[e];rfl
 refine⟨fun {a b x y} hab hx hy=>?_,fun {x} hx y hy=>?_,fun {j x} hj=>absurd hj (by omega),fun s h=>?_,fun y hy=>?_⟩
 ·rw[hl x (List.mem_of_getElem? hx),hl y (List.mem_of_getElem? hy)];omega
 ·rw[hl y hy];omega
 ·obtain⟨y,hy,hk⟩:=hs s h
  exact⟨y,hy,hk,by rw[hl y hy];omega⟩
 ·obtain⟨j,e1,e2⟩:=h2 y hy
  rw[e2]
  exact⟨j,by rw[Nat.zero_add],y.1,e1,.inl ⟨rfl,rfl⟩⟩
theorem Bfs.step{N:NetL}{t:Int}{q:Nm}{i:Nat}{row:List MetL}{x:MetL}(h:Bfs N t q i row)(hx:row[i]? =some x):Bfs N t q (i+1) (zbh x.2 0 row (zbk N x.1 t)):=by
 obtain⟨E,h1,h2⟩:=zd5 (p:=x.2) (zbk N x.1 t) 0 row
 have hs:∀s∈zbk N x.1 t,∃y∈zbh x.2 0 row (zbk N x.1 t),keyS y.1=keyS s:=fun s hs=>zfq hs
 rw[h1]at hs ⊢
 have hl:∀y∈E,y.2.length=x.2.length+1:=fun y hy=>by obtain⟨j,_,e⟩:=h2 y hy;rw[e];simp
 have hi:=(List.getElem?_eq_some_iff.1 hx).1
 have hm:=List.mem_of_getElem? hx
 have hn:=h.near hx
 have all:∀y∈row++E,y.2.length≤x.2.length+1:=fun y hy=>by
  rcases List.mem_append.1 hy with hy|hy
  ·exact hn y hy
  ·rw[hl y hy];omega
 have right:∀{b:Nat} {y:MetL},row.length≤b→(row++E)[b]? =some y→y∈E:=fun {b y} hb hy=>by
  rw[List.getElem?_append_right hb]at hy;exact List.mem_of_getElem? hy
 refine⟨fun {a b u v} hab hu hv=>?_,fun {z} hz y hy=>?_,fun {j u} hj hu s h0=>?_,fun s h0=>?_,fun y hy=>?_⟩
 ·by_cases hb:b<row.length
  ·rw[List.getElem?_append_left (by omega)]at hu
   rw[List.getElem?_append_left hb]at hv
   exact h.mono hab hu hv
  ·rw[hl v (right (by omega) hv)]
   exact all u (List.mem_of_getElem? hu)
 ·have:=all y hy
  by_cases hb:i+1<row.length
  ·rw[List.getElem?_append_left hb]at hz
   have:=h.mono (by omega) hx hz
   omega
  ·have:=hl z (right (by omega) hz)
   omega
 ·by_cases hb:j<i
  ·rw[List.getElem?_append_left (by omega)]at hu
   obtain⟨y,hy,hk⟩:=h.shut hb hu s h0
   exact⟨y,List.mem_append_left _ hy,hk⟩
  ·have e:j=i:=by omega
   subst e
   rw[List.getElem?_append_left hi,hx]at hu
   obtain rfl:=Option.some.inj hu
   obtain⟨y,hy,hk⟩:=hs s h0
   exact⟨y,hy,hk,all y hy⟩
 ·obtain⟨y,hy,hk⟩:=h.start s h0
  exact⟨y,List.mem_append_left _ hy,hk⟩
 ·rcases List.mem_append.1 hy with hy|hy
  ·exact h.pl y hy
  ·obtain⟨j,e1,e2⟩:=h2 y hy
   rw[e2,Nat.zero_add]
   exact(h.pl x hm).snoc e1
theorem zjk{N:NetL}{t:Int}{q:Nm}:∀{f i:Nat} {row:List MetL},Bfs N t q i row→(zdI N t f i row).length≤4096→4097≤f+i→∃j,(zdI N t f i row).length≤j∧Bfs N t q j (zdI N t f i row)
 |0,i,row,h,hl,hf=>⟨i,by have:zdI N t 0 i row=row:=rfl;rw[this]at hl ⊢;omega,h⟩
 |f+1,i,row,h,hl,hf=>by
  unfold zdI at hl ⊢
  cases hx:row[i]? with
  |none=>
   rw[hx]at hl
   exact⟨i,List.getElem?_eq_none_iff.1 hx,h⟩
  |some x=>
   rw[hx]at hl
   dsimp only at hl ⊢
   by_cases hc:row.length≤4096
   ·rw[if_pos hc]at hl ⊢
    exact zjk (h.step hx) hl (by omega)
   ·rw[if_neg hc]at hl
    exact absurd hl hc
structure Shut(N:NetL)(t:Int)(q:Nm)(row:List MetL):Prop where
 mono:∀{a b:Nat} {x y:MetL},a≤b→row[a]? =some x→row[b]? =some y→x.2.length≤y.2.length
 shut:∀x∈row,∀s∈zbk N x.1 t,∃y∈row,keyS y.1=keyS s∧y.2.length≤x.2.length+1
 start:∀s∈za5 N q,∃y∈row,keyS y.1=keyS s∧y.2.length≤1
 pl:∀y∈row,Pl N t y.2 (za5 N q) y.1
 g:∀y∈row,GoodSt N y.1
 p:∀y∈row,y.2.length≤4098
theorem zly{N:NetL}{t:Int}{q:Nm}(hN:za1 N)(hq:zbW q=true)(h:(zcR N q t).length≤4096):Shut N t q (zcR N q t):=by
 obtain⟨j,hj,hb⟩:=zjk bfs_zero h (by omega)
 have hg:RowG N 1 (zbh [] 0 [] (za5 N q)):=RowG.meet (i:=1) ⟨fun y hy=>(by cases hy),fun y hy=>(by cases hy)⟩ (by simp) (zfd hN hq)
 have hg2:RowG N (0+4097+1) (zdI N t 4097 0 (zbh [] 0 [] (za5 N q))):=expl_g (f:=4097) hN hg
 refine⟨hb.mono,fun x hx=>?_,hb.start,hb.pl,hg2.g,hg2.p⟩
 obtain⟨k,hk,rfl⟩:=List.mem_iff_getElem.1 hx
 exact hb.shut (by have:k<(zcR N q t).length:=hk;have:(zcR N q t).length≤j:=hj;omega) (List.getElem?_eq_getElem hk)
def MetI(N:NetL)(row:List MetL)(i:Nat)(L:List zak):Prop:=∀s∈L,GoodSt N s∧∃y∈row,keyS y.1=keyS s∧y.2.length≤i
theorem Shut.m0{N:NetL}{t:Int}{q:Nm}{row:List MetL}(h:Shut N t q row)(hN:za1 N)(hq:zbW q=true):MetI N row 1 (za5 N q):=fun s hs=>⟨zfd hN hq s hs,h.start s hs⟩
theorem AllS.mem{l m:List zak}(h:AllS l m){s:zak}(hs:s∈m):∃r∈l,AlS r s:=by
 induction h with
 |nil=>cases hs
 |cons h _ ih=>
  rcases List.mem_cons.1 hs with rfl|hs
  ·exact⟨_,by simp,h⟩
  ·obtain⟨r,hr,e⟩:=ih hs
   exact⟨r,List.mem_cons_of_mem _ hr,e⟩
theorem Shut.next{N:NetL}{t:Int}{q:Nm}{row:List MetL}{i:Nat}{L:List zak}{s:zak}(h:Shut N t q row)(hN:za1 N)(hL:MetI N row i L)(hs:s∈L):MetI N row (i+1) (zbk N s t):=fun x hx=>by
 obtain⟨hg,y,hy,hk,hl⟩:=hL s hs
 have ha:=key_al hg (h.g y hy) hk.symm
 obtain⟨r,hr,e⟩:=(next_al (t:=t) (N:=N) ha).mem hx
 obtain⟨z,hz,h1,h2⟩:=h.shut y hy r hr
 exact⟨(zf6 hN hg hx).2.g,z,hz,h1.trans e.key,by omega⟩
theorem zlk{a b:zak}(h:keyS a=keyS b):a.fin=b.fin:=congrArg KeyL.d h
theorem in_ends{row:List MetL}{k:Int}{p:List Int}(h:(k,p)∈zeP row):∃x∈row,zcP row k=some x∧x.1.fin=k∧x.2=p∧k≠0:=by
 unfold zeP zgY at h
 obtain⟨j,_,h⟩:=List.mem_filterMap.1 h
 obtain⟨x,hx,e⟩:=Option.map_eq_some_iff.1 h
 simp only[Prod.mk.injEq]at e
 obtain⟨rfl,rfl⟩:=e
 have h1:=List.find?_some hx
 exact⟨x,List.mem_of_find?_eq_some hx,hx,of_decide_eq_true h1,rfl,by omega⟩
theorem ends_mem{row:List MetL}{y:MetL}(h:y∈row)(h1:1≤y.1.fin)(h9:y.1.fin≤9):∃e∈zeP row,e.1=y.1.fin:=by
 obtain⟨j,hj⟩:∃j:Nat,y.1.fin=((j+1:Nat):Int):=⟨(y.1.fin - 1).toNat,by omega⟩
 cases hf:zcP row y.1.fin with
 |none=>
  have:=List.find?_eq_none.1 hf y h
  simp at this
 |some x=>
  refine⟨(y.1.fin,x.2),?_,rfl⟩
  unfold zeP zgY
  refine List.mem_filterMap.2 ⟨j,List.mem_range.2 (by omega),?_⟩
  rw[←hj,hf];rfl
theorem Shut.told{N:NetL}{t:Int}{q:Nm}{row:List MetL}{i:Nat}{L:List zak}{s:zak}(_h:Shut N t q row)(hL:MetI N row i L)(hs:s∈L)(h0:s.fin≠0):∃e∈zeP row,e.1=s.fin:=by
 obtain⟨hg,y,hy,h1,_⟩:=hL s hs
 have hk:=zlk h1
 have:=hg.e0;have:=hg.e1
 obtain⟨e,he,h2⟩:=ends_mem hy (by omega) (by omega)
 exact⟨e,he,h2.trans hk⟩
theorem Shut.played{N:NetL}{t:Int}{q:Nm}{row:List MetL}(h:Shut N t q row){e:Int×List Int}(he:e∈zeP row):∃s,zgC N q t e.2=(s,true)∧s.fin=e.1∧e.1≠0∧e.2≠ []∧GoodSt N s∧e.2.length≤4098:=by
 obtain⟨k,p⟩:=e
 obtain⟨x,hx,_,h1,rfl,h0⟩:=in_ends he
 exact⟨x.1,(h.pl x hx).play,h1,h0,(h.pl x hx).ne,h.g x hx,h.p x hx⟩
theorem Shut.fin{N:NetL}{t:Int}{q:Nm}{row:List MetL}(h:Shut N t q row)(hN:za1 N):∀(m:Nat) {y:MetL},y∈row→N.rw+N.rf - y.1.rw - y.1.rf≤(m:Int)→∃z∈row,z.1.fin≠0
 |m,y,hy,hm=>by
  have hg:=h.g y hy
  by_cases h0:y.1.fin=0
  ·obtain⟨x,hx⟩:=List.exists_mem_of_ne_nil _ (next_ne (t:=t) hN hg h0)
   obtain⟨z,hz,hk,_⟩:=h.shut y hy x hx
   by_cases h2:z.1.fin=0
   ·have hF:=(zf6 hN hg hx).2.go ((zlk hk).symm.trans h2)
    have e1:z.1.rw=x.rw:=congrArg KeyL.b hk
    have e2:z.1.rf=x.rf:=congrArg KeyL.c hk
    have hz':=h.g z hz
    have:=hz'.w1;have:=hz'.f1
    cases m with
    |zero=>exact absurd hm (by simp;omega)
    |succ m=>exact Shut.fin h hN m hz (by push_cast at hm;omega)
   ·exact⟨z,hz,h2⟩
  ·exact⟨y,hy,h0⟩
theorem zlC(row:List MetL):(zeP row).length≤9:=zh0 row 9
theorem zkd(w:World)(A B C D:Obj):Ext w ((((w.alloc A).alloc B).alloc C).alloc D)∧((((w.alloc A).alloc B).alloc C).alloc D).heap.size=w.heap.size+4∧((((w.alloc A).alloc B).alloc C).alloc D).heap[w.heap.size]? =some A∧
  ((((w.alloc A).alloc B).alloc C).alloc D).heap[w.heap.size+1]? =some B∧((((w.alloc A).alloc B).alloc C).alloc D).heap[w.heap.size+2]? =some C∧((((w.alloc A).alloc B).alloc C).alloc D).heap[w.heap.size+3]? =some D:=by
 obtain⟨h1,h2,h3,h4,h5⟩:=zdM w A B C
 have hE:=Ext.alloc (((w.alloc A).alloc B).alloc C) D
 have hD:=zao (((w.alloc A).alloc B).alloc C) D
 rw[h2]at hD
 exact⟨h1.trans hE,by rw[zai,h2],Ext.at hE h3,Ext.at hE h4,Ext.at hE h5,hD⟩
theorem Plays_ok(w:World){nv qv tv cv:Value}:Fn Tryz.prog 91 #[nv,qv,tv,cv] w (fun v w'=>v= .func (.func 146) #[] #[.pointer (some ⟨w.heap.size,0,Option.none⟩),.pointer (some ⟨w.heap.size+1,0,Option.none⟩),.pointer (some ⟨w.heap.size+3,0,Option.none⟩),.pointer (some ⟨w.heap.size+2,0,Option.none⟩)]∧Ext w w'∧w'.heap.size=w.heap.size+4∧
  w'.heap[w.heap.size]? =some (.cells nv.cells 25 (0,0))∧w'.heap[w.heap.size+1]? =some (.cells qv.cells 27 (0,0))∧w'.heap[w.heap.size+2]? =some (.cells tv.cells 3 (0,0))∧w'.heap[w.heap.size+3]? =some (.cells cv.cells 23 (0,0))):=by
 refine enter Tryz.func91 Tryz.ntmps91 rfl rfl ?_
 refine go trivial ?_
 obtain⟨hE,hs,hA,hB,hC,hD⟩:=zkd w (.cells nv.cells 25 (0,0)) (.cells qv.cells 27 (0,0)) (.cells tv.cells 3 (0,0)) (.cells cv.cells 23 (0,0))
 refine rt0 Tryz.ntmps91 ?_
 exact⟨by simp only[zai],hE,hs,hA,hB,hC,hD⟩
theorem zfR{w0 w:World}(hE0:Ext w0 w){cs:List Value}{N:NetL}{qv cv:Value}{q:Nm}{ch:List Int}{t:Int}(hN:NetAt w0 cs N)(hG:za1 N)(hq:Row w qv (q.map vs))(hgq:zbW q=true)(hcv:Row w cv (ch.map vi))(hchl:ch.length≤1000000000):
  Fn Tryz.prog 40 #[.agg cs.toArray,qv,vi t,cv] w (fun v w'=>Ext w w'∧∃nv,v= .tuple #[.agg (stV nv (zgC N q t ch).1).toArray,.bool (zgC N q t ch).2]∧Row w' nv ((zgC N q t ch).1.name.map vs)):=by
 obtain⟨hsv,rv,rfl,hh,hr⟩:=id hN.ex
 obtain⟨ah,ch0,hhv,_⟩:=hh.open
 obtain⟨ar0,cr0,hrv,_⟩:=id hr
 obtain⟨aq,cq,hqe,_⟩:=id hq
 obtain⟨ac,cc,hce,_⟩:=id hcv
 refine enter Tryz.func40 Tryz.ntmps40 rfl rfl ?_
 rw[hhv,hrv]
 refine go trivial ?_
 rw[zai,zai,zai]
 refine zdt ?_
 rw[←hhv,←hrv]
 intro w1 hE1 hs1 hA hB hC
 obtain⟨b,hb⟩:∃b,w.heap.size=b:=⟨_,rfl⟩
 rw[hb]at hA hB hC hs1 ⊢
 rw[show b+1+1=b+2 from rfl]at hC ⊢
 refine rq ?_;intro gd K hgd hK
 try simp only[go_sem]
 rw[hs1]
 refine st_al1 ?_
 intro z hEz hsz hD
 rw[hs1]at hD
 refine zdy rfl rfl rfl hD (by simp) (by simp) ?_
 intro w2 hs2 hD2 hk2
 try simp only[go_sem]
 refine hK _ _ ?_;clear hK hgd;clear K;try clear gd
 have hE2:Ext w1 w2:=Keep.to_ext hEz rfl (fun i hi=>by omega) hk2
 have hA2:=Ext.at hE2 hA
 have hB2:=Ext.at hE2 hB
 have hC2:=Ext.at hE2 hC
 have hz2:=(Array.getElem?_eq_some_iff.1 hD2).1
 have dn:zas w2 (some ⟨b,0,Option.none⟩) 4=some [hsv,rv,vi N.rw,vi N.rf]:=zah hA2 rfl
 have hEw2:=hE1.trans hE2
 clear hEz hsz hD hs2 hk2 hA hB hC
 refine go trivial ?_
 refine rc dn (Plays_ok w2) ?_
 rintro _ w3 ⟨rfl,hE3,hs3,k1,k2,k3,k4⟩
 refine rgo trivial ?_
 have k2':w3.heap[w2.heap.size+1]? =some (.cells #[qv] 27 (0,0)):=by rw[k2,hqe];rfl
 have k4':w3.heap[w2.heap.size+3]? =some (.cells #[cv] 23 (0,0)):=by rw[k4,hce];rfl
 have hB3:=Ext.at hE3 hB2
 have hC3:=Ext.at hE3 hC2
 have hD3:=Ext.at hE3 hD2
 have hEw3:=hEw2.trans hE3
 obtain⟨S,hS⟩:∃S:Nat→Prop,S=fun i=>(i=b+1∨i=b+2∨i=b+3)∨(w3.heap.size≤i∧i<w3.heap.size+2):=⟨_,rfl⟩
 refine ze3 (own:=0) (n0:=w3.heap.size) (C:=fun i=>i=b+1∨i=b+2∨i=b+3) (W0:=w3) (vq0) (by rfl)
  (playsIt (w0:=w0) (w1:=w) (t:=t) (ch:=ch) (q:=q) hE0 hEw3 k1 k2' k4' k3 (fun i hi=>by omega) (by omega) hN hG hq hgq hcv hchl) (Keep.refl _ _) (Nat.le_refl _) (fun i hi=>by omega)
  (fun x U A args h=>by obtain⟨nv,rfl,_⟩:=h;rfl)
  (fun pre U v=>(∀i,¬U i)∧∃nv,v.heap[b+1]? =some (.cells (stV (.slice Option.none 0 0) stZ).toArray 80 (0,0))∧v.heap[b+2]? =some (.cells (stV nv (pre.getLastD (stZ,false)).1).toArray 80 (0,0))∧v.heap[b+3]? =some (.cells #[.bool (pre.getLastD (stZ,false)).2] 4 (0,0))∧RowY S v nv ((pre.getLastD (stZ,false)).1.name.map vs)∧Ext w v)
  (fun _ _ _=>False) ?_ ?_ ?_ ?_ ?_ ?_
 ·rintro pre U A B ⟨hU,nv,h1,h2,h3,h4,h5⟩ _ hk
  have l1:=(Array.getElem?_eq_some_iff.1 h3).1
  have hno:∀i,i<w3.heap.size→¬span w3.heap.size (2+0) i:=fun i h1 h2=>by unfold span at h2;omega
  refine⟨hU,nv,(hk.block _ (by omega) (hno _ (by omega))).trans h1,(hk.block _ (by omega) (hno _ (by omega))).trans h2,(hk.block _ (by omega) (hno _ (by omega))).trans h3,h4.turn (hk.mono fun i _ h=>by rw[hS];unfold span at h;exact .inr (by omega)) fun _ h=> .inl h,Keep.to_ext h5 rfl (fun i hi=>by unfold span at hi;omega) hk⟩
 ·rintro c pre A B h _
  exact h
 ·exact⟨fun _ h=>h,.slice Option.none 0 0,hB3,hC3,hD3,⟨⟨Option.none,0,rfl,Nat.le_refl _,fun j h=>by simp[stZ]at h⟩,fun h=>absurd rfl h⟩,hEw3⟩
 ·rintro lp pre U x A args ⟨suf,hsp⟩ hszA ⟨hU,nv,h1,h2,h3,h4,h5⟩ _ ⟨xv,rfl,hx⟩
  have hxS:RowY S A xv (x.1.name.map vs):=hx.turn (Keep.refl _ _) fun i h=>by rw[hS]at h;exact .inl (.inl h)
  have hl:(pre++ [x]).getLastD (stZ,false)=x:=by rw[List.getLastD_eq_getLast?];simp
  have l3:=(Array.getElem?_eq_some_iff.1 h3).1
  refine go trivial ?_
  refine rq ?_;intro gd K hgd hK
  try simp only[go_sem]
  refine zaM (P:=Tryz.prog) (l:=stV xv x.1) h2 rfl (zbZ hx.1.isOne) rfl rfl ?_
  intro A1 hs1 hA1 hk1
  try simp only[go_sem]
  refine hK _ _ ?_;clear hK hgd;clear K;try clear gd
  refine go trivial ?_
  refine rq ?_;intro gd K hgd hK
  try simp only[go_sem]
  refine zdy rfl rfl rfl ((hk1.block _ (by omega) (by omega)).trans h3) (by simp) (by simp) ?_
  intro A2 hs2 hA2 hk2
  try simp only[go_sem]
  refine hK _ _ ?_;clear hK hgd;clear K;try clear gd
  have hk12:Keep (fun i=>i=b+2∨i=b+3) A A2:=(hk1.mono fun i _ h=> .inl h).trans (hk2.mono fun i _ h=> .inr h)
  refine⟨rfl,hk12.mono fun i _ h=> .inl (.inr h),fun A3 hk3=>?_⟩
  have hno:∀i,i<w3.heap.size→¬two w3.heap.size i:=fun i h1 h2=>by unfold two at h2;omega
  refine go trivial ?_
  have hz2:=hk12.size
  refine⟨U,⟨hU,xv,?_,?_,?_,?_,?_⟩,fun i h=> .inl h,Keep.refl _ _⟩
  ·exact(hk3.block _ (by omega) (hno _ (by omega))).trans ((hk12.block _ (by omega) (by omega)).trans h1)
  ·rw[hl];exact(hk3.block _ (by omega) (hno _ (by omega))).trans ((hk2.block _ (by omega) (by omega)).trans hA1)
  ·rw[hl];exact(hk3.block _ (by omega) (hno _ (by omega))).trans hA2
  ·rw[hl];exact(hxS.turn (hk12.mono fun i _ h=>by rw[hS];exact .inl (.inr h)) fun _ h=> .inl h).turn (hk3.mono fun i _ h=>by rw[hS];unfold two at h;exact .inr (by omega)) fun _ h=> .inl h
  ·exact Keep.to_ext (Keep.to_ext h5 rfl (fun i hi=>by omega) hk12) rfl (fun i hi=>by unfold two at hi;omega) hk3
 ·rintro xs U v rfl hsz _ ⟨hU,nv,h1,h2,h3,h4,h5⟩ hDv
  have hp:(zcl N t ch (za5 N q)).getLastD (stZ,false)=zgC N q t ch:=rfl
  rw[hp]at h2 h3 h4
  obtain⟨L,hL⟩:∃L,zgC N q t ch=L:=⟨_,rfl⟩
  rw[hL]at h2 h3 h4 ⊢
  have d2:zas v (some ⟨b+2,0,Option.none⟩) 6=some [vi L.1.sv,nv,vi L.1.rw,vi L.1.rf,.bool L.1.ref,vi L.1.fin]:=zah (l:=stV nv L.1) h2 rfl
  have d3:zae v (some ⟨b+3,0,Option.none⟩)=some (.bool L.2):=zab (i:=0) h3 rfl
  have l3:=(Array.getElem?_eq_some_iff.1 h3).1
  refine go trivial ?_
  refine zaJ (fun _=>false) [(0,true),(1,true),(2,false),(3,true)] ((fun i=>i=b+1)) mixed (by kernel_rfl) ?_;intro gd K x hgd hx hxe hK;have hx0:=zh2 hxe;clear hxe
  have d2x:=zad hx0 d2
  have d3x:=zaa hx0 d3
  simp (disch:=first|omega|assumption|rfl) only[go_sem,d2x,d3x]
  refine⟨fun a ha hb=>by cases ha;dsimp only at hb;omega,fun a ha hb=>by cases ha;dsimp only at hb;omega,?_⟩
  refine zaM (P:=Tryz.prog) (l:=stV nv L.1) (Ext.at hx0 h1) rfl (zbZ h4.1.isOne) rfl rfl ?_
  intro y hsy hB8 hky
  refine⟨.inr (hky.mono fun i _ h=>h),?_⟩
  simp (disch:=first|omega|assumption|rfl) only[go_sem]
  refine hK _ _ ?_;clear hK hgd;clear K;try clear gd
  refine go trivial ?_
  have hxs:=hx0.size
  have hys:=hky.size
  refine zby (.inr rfl) Tryz.ntmps40 rfl ((hky.block _ (by omega) (by omega)).trans (Ext.at hx0 hDv)) ?_
  intro y2 hk2 hs2
  have hB9:=(hk2.block _ (by omega) (by omega)).trans hB8
  have hkxy:Keep (fun i=>i=b+1∨i=w3.heap.size) x y2:=(hky.mono fun i _ h=> .inl h).trans (hk2.mono fun i _ h=> .inr h)
  have hrow:Row y2 nv (L.1.name.map vs):=by
   by_cases hl:L.1.name=[]
   ·have h6:=h4.1
    rw[hl]at h6 ⊢
    obtain⟨a1,c1,e1,e2,_⟩:=h6
    exact⟨a1,c1,e1,e2,fun j hj=>absurd hj (by simp)⟩
   ·refine h4.1.blocks fun a n c e=>?_
    obtain⟨k1,k2⟩:=h4.2 (fun h=>hl (by simpa using h)) a n c e
    exact(hk2.block _ (by omega) (fun h=>k2 (by rw[hS];exact .inr (by omega)))).trans ((hky.block _ (by omega) (fun h=>k2 (by rw[hS];exact .inl (.inl h)))).trans (hx0.block _ k1 (fun h=>h)))
  exact⟨_,zaZ (x:=⟨b+1,0,Option.none⟩) (k:=6) (vr0) rfl rfl (zah (l:=stV nv L.1) hB9 rfl) (zat (v:= .bool L.2) (vr0) zaz),Keep.to_ext (h5.trans hx0) rfl (fun i hi=>by have:=hEw3.size;omega) hkxy,nv,rfl,hrow⟩
 ·rintro c pre x v _ _ h
  exact h.elim
theorem zkj(w:World){cs:List Value}{N:NetL}(hN:NetAt w cs N)(hv:NumN N):
  Fn Tryz.prog 34 #[.agg cs.toArray] w (fun v w'=>Ext w w'∧∃t,v= .bool t∧(t=true→za1 N)):=by
 have hN0:=hN
 obtain⟨hsv,rv,rfl,hh,hr⟩:=hN.ex
 obtain⟨ah,ch,hhv,_⟩:=hh.open
 obtain⟨ar0,cr0,hrv,_⟩:=id hr
 refine enter Tryz.func34 Tryz.ntmps34 rfl rfl ?_
 rw[hhv,hrv]
 refine go trivial ?_
 rw[←hhv,←hrv]
 refine zaB ?_
 intro w1 hE1 hs1 hA
 have dA:=zah (n:=4) (l:=[hsv,rv,vi N.rw,vi N.rf]) hA rfl
 have n0:zae w1 (some ⟨w.heap.size,0,Option.none⟩)=some (.slice ah N.hosts.length ch):=by rw[←hhv];exact zab hA rfl
 have n2:zae w1 (some ⟨w.heap.size,2,Option.none⟩)=some (vi N.rw):=zab hA rfl
 have n3:zae w1 (some ⟨w.heap.size,3,Option.none⟩)=some (vi N.rf):=zab hA rfl
 obtain⟨x1,k1⟩:∃x,decide ((N.hosts.length:Int)≤5)=x:=⟨_,rfl⟩
 obtain⟨x2,k2⟩:∃x,decide (N.rw≤3)=x:=⟨_,rfl⟩
 obtain⟨x3,k3⟩:∃x,decide (N.rf≤4)=x:=⟨_,rfl⟩
 refine rcg [(2,5),(8,11),(13,16)] dA (zmj w1 (hN0.ext hE1) hv) ?_
 rintro _ w2 ⟨hE2,t,rfl,hg⟩
 have m0:=zaa hE2 n0
 have m2:=zaa hE2 n2
 have m3:=zaa hE2 n3
 cases t
 ·refine reg [(2,5),(8,11),(13,16)] trivial ?_
  refine go trivial ?_
  refine rt0 Tryz.ntmps34 ?_
  exact⟨hE1.trans hE2,false,rfl,hg⟩
 cases x1
 ·refine reg [(2,5),(8,11),(13,16)] (an3 m0 k1 Nat.add_zero) ?_
  refine go trivial ?_
  refine rt0 Tryz.ntmps34 ?_
  exact⟨hE1.trans hE2,false,rfl,fun h=>by cases h⟩
 cases x2
 ·refine reg [(2,5),(8,11),(13,16)] (an6 m0 k1 Nat.add_zero m2 k2 Nat.zero_add) ?_
  refine go trivial ?_
  refine rt0 Tryz.ntmps34 ?_
  exact⟨hE1.trans hE2,false,rfl,fun h=>by cases h⟩
 cases x3
 ·refine reg [(2,5),(8,11),(13,16)] (an8 m0 k1 Nat.add_zero m2 k2 Nat.zero_add m3 k3) ?_
  refine go trivial ?_
  refine rt0 Tryz.ntmps34 ?_
  exact⟨hE1.trans hE2,false,rfl,fun h=>by cases h⟩
 ·refine reg [(2,5),(8,11),(13,16)] (an8 m0 k1 Nat.add_zero m2 k2 Nat.zero_add m3 k3) ?_
  refine go trivial ?_
  refine rt0 Tryz.ntmps34 ?_
  exact⟨hE1.trans hE2,true,rfl,hg⟩
section
variable {names : List Nm} (hcl : ∀ l f, l :: f ∈ names → f ∈ names) (hnd : names.Nodup)
include hcl
include hnd
end
theorem zcY{α:Type}[DecidableEq α]:∀{l m:List α},l.Nodup→(∀a∈l,a∈m)→l.length≤m.length
 | [],_,_,_=>Nat.zero_le _
 |a::l,m,h,hs=>by
  have h1:=List.nodup_cons.1 h
  have ha:=hs a (List.mem_cons_self ..)
  have:=zcY (l:=l) (m:=m.erase a) h1.2 (fun b hb=>(List.mem_erase_of_ne (fun (e:b=a)=>h1.1 (e▸hb))).2 (hs b (List.mem_cons_of_mem _ hb)))
  rw[List.length_erase_of_mem ha]at this
  have:=List.length_pos_of_mem ha
  simp;omega
end Go.Proofs.YtahbdamijngmmaaGreat
namespace Go.Proofs.YtahbdamijngmmaaGreat.T_bool
open Go Go.Proofs.YtahbdamijngmmaaGreat
set_option maxRecDepth 10000
abbrev TAt:=TreeAt 237 303
abbrev TOk:=TSok (.bool false)
def encD(s:TS)(f:Nm)(k:Nat)(_:World)(args:Array Value):Prop:=args=#[vi k,zkP (s.nb (sfx f k))]
def encK(k:Lab)(_:World)(args:Array Value):Prop:=args=#[vs k]
def preK(l:List (Lab×Value))(pre:List Lab)(k:Lab):Prop:=k∈l.map (·.1)∧k∉pre∧pre.Nodup∧∀j∈pre,j∈l.map (·.1)
def fullK(l:List (Lab×Value))(xs:List Lab):Prop:=xs.Perm (l.map (·.1))
theorem zcY{α:Type}[DecidableEq α]:∀{l m:List α},l.Nodup→(∀a∈l,a∈m)→l.length≤m.length
 | [],_,_,_=>Nat.zero_le _
 |a::l,m,h,hs=>by
  have h1:=List.nodup_cons.1 h
  have ha:=hs a (List.mem_cons_self ..)
  have:=zcY (l:=l) (m:=m.erase a) h1.2 (fun b hb=>(List.mem_erase_of_ne (fun (e:b=a)=>h1.1 (e▸hb))).2 (hs b (List.mem_cons_of_mem _ hb)))
  rw[List.length_erase_of_mem ha]at this
  have:=List.length_pos_of_mem ha
  simp;omega
theorem keys1_ok{W0:World}{n0:Nat}{C:Nat→Prop}{b m:Nat}{l:List (Lab×Value)}(hb:W0.cell? ⟨b,0,Option.none⟩=some (.map (some m)))(hm:MapAt W0 m l)(hn:(l.map (·.1)).Nodup)
  (hbn:b<n0) (hbC:¬C b) (hmn:m<n0) (hmC:¬C m):
  ziS Tryz.prog 274 #[.pointer (some ⟨b,0,Option.none⟩)] W0 n0 C 1 (preK l) (fullK l) encK:=by
 intro lp J Jx W hW hnW hJ hJx hY h0
 have hmW:MapAt W m l:=hm.block (hW.block _ (by obtain⟨es,clk,h1,_⟩:=hm;exact(Array.getElem?_eq_some_iff.1 h1).1) (fun h=>h))
 have hcell:zae W (some ⟨b,0,Option.none⟩)=some (.map (some m)):=zjs hW hb
 refine enter Tryz.func274 Tryz.ntmps274 rfl rfl ?_
 repeat refine c_r ?_
 refine rq ?_;intro gd K hgd hK
 try simp (disch:=first|omega|assumption|rfl) only[go_sem,hcell]
 refine op_range rfl (vq0) hmW ?_
 intro W1 hit1 hE1 hs1
 try simp only[go_sem]
 refine hK _ _ ?_;clear hK hgd;clear K;try clear gd
 repeat refine c_r ?_
 refine zam (fun k σ ds v=>ds=[]∧σ 5= .pointer (some ⟨W.heap.size,0,Option.none⟩)∧σ 0= .func (.yield lp) #[] #[]∧∃pre,MapIt v W.heap.size m l pre∧J pre v∧KeepB n0 C W v∧W.heap.size+1≤v.heap.size∧
  pre.Nodup∧(∀j∈pre,j∈l.map (·.1))∧k+pre.length=(l.map (·.1)).length) (l.map (·.1)).length ?_ ?_
 ·refine⟨rfl,vq0,vq0,[],hit1,?_,hE1.toB hnW (fun _ _ h=>h.elim),by omega,by simp,by simp,by simp⟩
  exact hJ _ _ _ h0 (hE1.mono (fun _ _ h=>h.elim))
 ·rintro k σ ds v ⟨rfl,h5,hf0,pre,hit,hj,hKB,hsz,hnd,hsub,hlen⟩
  repeat refine c_r ?_
  refine rq ?_;intro gd K hgd hK
  try simp (disch:=first|omega|assumption|rfl) only[go_sem,h5]
  have hkr:∀x,Keep (fun b=>b=W.heap.size) v x→KeepB n0 C W x:=fun x hx=>hKB.trans (hx.toB (by have:=hKB.size;omega) (fun i hi h=>by omega))
  refine op_next ((vq1 h5)) hit hn ?_ ?_
  ·intro hall
   try simp only[go_sem]
   refine hK _ _ ?_;clear hK hgd;clear K;try clear gd
   repeat refine c_r ?_
   refine wc0 ?_ ?_
   ·intro h;simp at h
   ·intro _
    repeat refine c_r ?_
    refine zar (by simp) rfl (.inl ⟨pre,?_,hj⟩)
    exact(List.perm_ext_iff_of_nodup hnd hn).2 fun a=>⟨hsub a,hall a⟩
  ·intro key u w2 hkv hnk hit2 hk2 hs2
   have hkm:key∈l.map (·.1):=List.mem_map.2 ⟨_,hkv,rfl⟩
   try simp only[go_sem]
   refine hK _ _ ?_;clear hK hgd;clear K;try clear gd
   repeat refine c_r ?_
   refine wc0 ?_ ?_
   ·intro _
    repeat refine c_r ?_
    refine rq ?_;intro gd K hgd hK
    try simp (disch:=first|omega|assumption|rfl) only[go_sem,h5]
    refine op_entry ((vq1 h5)) hit2 (fun u'=>?_)
    try simp only[go_sem]
    refine hK _ _ ?_;clear hK hgd;clear K;try clear gd
    have hj2:J pre w2:=hJ _ _ _ hj (hk2.mono (fun i _ h=>by unfold span;omega))
    repeat refine c_r ?_
    refine rq ?_;intro gd K hgd hK
    try simp (disch:=first|omega|assumption|rfl) only[go_sem,hf0]
    refine Yld.mono (hY pre key w2 _ ⟨hkm,hnk,hnd,hsub⟩ hj2 (by omega) (hkr _ hk2) rfl) ?_
    rintro u z (⟨rfl,hj',hk',ho'⟩| ⟨rfl,hjx⟩)
    ·try simp only[go_sem]
     refine hK _ _ ?_;clear hK hgd;clear K;try clear gd
     repeat refine c_r ?_
     refine wc0 ?_ ?_
     ·intro h;simp at h
     ·intro _
      repeat refine c_r ?_
      have hnd':(pre++ [key]).Nodup:=by
       rw[List.nodup_append]
       exact⟨hnd,by simp,fun a ha b hb=>by simp at hb;subst hb;rintro rfl;exact hnk ha⟩
      have hsub':∀j∈pre++ [key],j∈l.map (·.1):=fun j hj=>by
       rcases List.mem_append.1 hj with h|h
       ·exact hsub j h
       ·rw[List.mem_singleton.1 h];exact hkm
      have hlt:(pre++ [key]).length≤(l.map (·.1)).length:=zcY hnd' hsub'
      refine⟨k - 1,?_,rfl,(vq1 h5),(vq1 hf0),pre++ [key],?_,hj',(hkr _ hk2).trans hk',?_,hnd',hsub',?_⟩
      ·simp at hlt hlen;omega
      ·refine hit2.block ?_ (ho' _ (by unfold span;omega))
       exact hk'.block _ hmn hmC
      ·have:=hk'.size;omega
      ·simp at hlt hlen ⊢;omega
    ·try simp only[go_sem]
     refine hK _ _ ?_;clear hK hgd;clear K;try clear gd
     repeat refine c_r ?_
     refine wc0 ?_ ?_
     ·intro _
      repeat refine c_r ?_
      exact zar (by simp) rfl (.inr ⟨pre,key,⟨hkm,hnk,hnd,hsub⟩,hjx⟩)
     ·intro h;simp at h
   ·intro h;simp at h
theorem Keys_ok{w:World}{m:Nat}{l:List (Lab×Value)}(hm:MapAt w m l)(hn:(l.map (·.1)).Nodup):
  Fn Tryz.prog 228 #[.map (some m)] w (fun v w'=>Ext w w'∧∃cap,v= .func (.func 274) #[] cap∧
   ∀n0 C,w'.heap.size≤n0→(∀b,C b→w'.heap.size≤b)→ziS Tryz.prog 274 cap w' n0 C 1 (preK l) (fullK l) encK):=by
 refine enter Tryz.func228 Tryz.ntmps228 rfl rfl ?_
 repeat refine c_r ?_
 refine rg0 ?_
 repeat refine c_r ?_
 refine rg0 ?_
 repeat refine c_r ?_
 refine rt0 Tryz.ntmps228 ?_
 have hmlt:m<w.heap.size:=by obtain⟨es,clk,h1,_⟩:=hm;exact(Array.getElem?_eq_some_iff.1 h1).1
 refine⟨Ext.alloc _ _,_,rfl,fun n0 C hn0 hC=>?_⟩
 rw[zai]at hn0 hC
 refine keys1_ok ?_ (hm.block (RowKit.Below.heap_alloc _ _ _ hmlt)) hn (by omega) (fun h=>by have:=hC _ h;omega) (by omega) (fun h=>by have:=hC _ h;omega)
 rw[za0 (zao _ _)];rfl
end Go.Proofs.YtahbdamijngmmaaGreat.T_bool
namespace Go.Proofs.YtahbdamijngmmaaGreat
open Go
set_option maxRecDepth 10000
theorem zcX{S:Nat→Prop}{w x:World}{base:Nat}{e:TypeId}{size:Nat}{v:Value}{n:Nat}{xs:List Value}(h:w.ownsRow base e size v n xs)(hk:Keep S w x)(hS:∀b,base≤b→¬S b):x.ownsRow base e size v n xs:=by
 obtain⟨h1,h2⟩:=h
 refine⟨h1,?_⟩
 rcases h2 with h2| ⟨g,cap,cur,hv,hb,hg,rest⟩
 ·exact .inl h2
 ·exact .inr ⟨g,cap,cur,hv,hb,(hk.block _ (Array.getElem?_eq_some_iff.1 hg).1 (hS _ hb)).trans hg,rest⟩
theorem own_ge{w:World}{base:Nat}{e:TypeId}{size:Nat}{v:Value}{n:Nat}{xs:List Value}(h:w.ownsRow base e size v n xs){b:Nat}(hb:some b=v.ownBlock):base≤b:=by
 rcases h.2 with ⟨rfl,_⟩| ⟨g,cap,cur,rfl,hg,_⟩
 ·cases hb
 ·cases hb;exact hg
def encT(k:Lab)(_:World)(args:Array Value):Prop:=args=#[vs k]
theorem zin{w:World}{g:FuncId}{cap:Array Value}{own:Nat}{Pre:List Lab→Lab→Prop}{Full:List Lab→Prop}(hc:zan Tryz.prog g=true)
  (hit:∀n0 C,w.heap.size≤n0→(∀b,C b→w.heap.size≤b)→ziS Tryz.prog g cap w n0 C own Pre Full encT) (hlen:∀pre x,Pre pre x→pre.length<1000000000000):
  Fn Tryz.prog 295 #[.slice Option.none 0 0,.func (.func g) #[] cap] w (fun v w'=>Ext w w'∧∃xs,Full xs∧w'.ownsRow w.heap.size 9 1 v xs.length (xs.map vs)):=by
 refine enter Tryz.func295 Tryz.ntmps295 rfl rfl ?_
 repeat refine c_r ?_
 refine rg0 ?_
 repeat refine c_r ?_
 refine rg0 ?_
 repeat refine c_r ?_
 have hbox:=zao w (.cells #[.slice Option.none 0 0] 26 (0,0))
 have hE0:=Ext.alloc w (.cells #[.slice Option.none 0 0] 26 (0,0))
 have hs0:=zai w (.cells #[.slice Option.none 0 0] 26 (0,0))
 revert hbox hE0 hs0
 generalize w.alloc (.cells #[.slice Option.none 0 0] 26 (0,0))=w1
 intro hbox hE0 hs0
 refine zjw (g:=g) (cap:=cap) (vq0) hc (hit w1.heap.size (fun b=>b=w.heap.size) hE0.size (fun b hb=>by omega)) hE0 (Nat.le_refl _) (fun b hb=>by omega)
  (fun x A args h=>by rw[h];rfl)
  (fun pre A=>Ext w A∧∃v,A.heap[w.heap.size]? =some (.cells #[v] 26 (0,0))∧A.ownsRow (w1.heap.size+2+own) 9 1 v pre.length (pre.map vs))
  (fun _ _ _=>False) ?_ (fun _ _ _ _ h _=>h.elim) ?_ ?_ ?_ (fun _ _ _ _ _ _ h _=>h.elim)
 ·rintro pre A B ⟨h1,v,h2,h3⟩ hk
  exact⟨Keep.to_ext h1 rfl (fun b hb=>by unfold span at hb;omega) hk,v,(hk.block _ (Array.getElem?_eq_some_iff.1 h2).1 (by unfold span;omega)).trans h2,zcX h3 hk (fun b hb=>by unfold span;omega)⟩
 ·exact⟨hE0,_,hbox,rfl,.inl ⟨rfl,rfl⟩⟩
 ·rintro lp pre x A args hpx hszA ⟨hEA,v,hbx,hown⟩ rfl
  repeat (first|refine c_r ?_|refine rg0 ?_)
  refine⟨rfl,KeepB.refl _ _ _,fun A2 hA2=>?_⟩
  have hEA2:Ext w A2:=Keep.to_ext hEA rfl (fun b hb=>by unfold two at hb;omega) hA2
  have hb2:=(hA2.block _ (Array.getElem?_eq_some_iff.1 hbx).1 (by unfold two;omega)).trans hbx
  have hown2:=zcX hown hA2 (fun b hb=>by unfold two;omega)
  have hs2:=hA2.size
  have hcell:zae A2 (some ⟨w.heap.size,0,Option.none⟩)=some v:=by
   show A2.cell? _=_
   rw[za0 hb2];rfl
  have hpl:=hlen _ _ hpx
  have hvs:∃a n c,v= .slice a n c:=by
   rcases hown2.2 with ⟨rfl,_⟩| ⟨g,cap,cur,rfl,_⟩
   ·exact⟨_,_,_,rfl⟩
   ·exact⟨_,_,_,rfl⟩
  obtain⟨sa,sn,sc,rfl⟩:=hvs
  repeat refine c_r ?_
  refine rq ?_;intro gd K hgd hK
  try simp (disch:=first|omega|assumption|rfl) only[go_sem,hcell]
  have hbs:bsC Tryz.prog 26 1 [(0,vs x)]=some (9,#[vs x]):=ziO (z:=vs []) rfl rfl rfl rfl rfl
  unfold bsL bsK
  rw[hbs]
  simp only[]
  have hbn:=zao A2 (.cells #[vs x] 9 (0,0))
  have hE3:=Ext.alloc A2 (.cells #[vs x] 9 (0,0))
  have hs3:=zai A2 (.cells #[vs x] 9 (0,0))
  revert hbn hE3 hs3
  generalize A2.alloc (.cells #[vs x] 9 (0,0))=A3
  intro hbn hE3 hs3
  try simp only[go_sem]
  refine zdZ (P:=Tryz.prog) (e:=9) (size:=1) (bytes:=16) (m:=1) (news:=[vs x]) rfl rfl rfl rfl rfl rfl (by decide) (vr0) (vr0) (zcX hown2 hE3 (fun _ _ h=>h)) ?_ ?_ ?_ ?_ (by omega) ?_
  ·refine⟨_,_,rfl,rfl,fun j hj=>?_⟩
   have:j=0:=by simpa using hj
   subst this
   rw[zaU]
   show A3.cell? _=_
   rw[za0 hbn];rfl
  ·intro q hq
   rw[List.mem_singleton.1 hq];rfl
  ·simp[maxLen];omega
  ·omega
  intro v' A4 hown4 hk4 _
  have hge:∀b,some b=(Value.slice sa sn sc).ownBlock→w1.heap.size+2+own≤b:=fun b hb=>own_ge hown2 hb
  have hb4:=(hk4.block _ (by have:=(Array.getElem?_eq_some_iff.1 hb2).1;omega) (fun h=>by have:=hge _ h;omega)).trans ((hE3.block _ (Array.getElem?_eq_some_iff.1 hb2).1 (fun h=>h)).trans hb2)
  have hov:one v'=true:=by
   rcases hown4.2 with ⟨rfl,_⟩| ⟨g,cap,cur,rfl,_⟩<;>rfl
  try simp only[go_sem]
  refine zdy rfl rfl hov hb4 (by simp) (by simp) ?_
  intro A5 hs5 hb5 hk5
  refine hK _ _ ?_;clear hK hgd;clear K;try clear gd
  repeat refine c_r ?_
  have hs4:=hk4.size
  refine⟨⟨?_,v',hb5,?_⟩,((hE3.toB (by omega) (fun _ _ h=>h.elim)).trans (hk4.toB (by omega) (fun b hb h=>by have:=hge _ h;omega))).trans (hk5.toB (by omega) (fun b _ h=>h))⟩
  ·exact Keep.to_ext (Keep.to_ext (hEA2.trans hE3) rfl (fun b hb=>by have:=hge _ hb;omega) hk4) rfl (fun b hb=>by omega) hk5
  ·have:=zcX hown4 hk5 (fun b hb=>by omega)
   simpa using this
 ·rintro xs w4 hfull hsz4 ⟨hE4,v,hb4,hown4⟩ hD
  have hcell:zae w4 (some ⟨w.heap.size,0,Option.none⟩)=some v:=by
   show w4.cell? _=_
   rw[za0 hb4];rfl
  repeat refine c_r ?_
  refine rg1 hcell ?_
  repeat refine c_r ?_
  refine zdh (by simp) rfl Tryz.ntmps295 (by simp only[go_sem];rfl) hD ?_
  intro w5 hk5 _
  have h5:=zcX hown4 hk5 (fun b hb=>by omega)
  refine⟨Keep.to_ext hE4 rfl (fun b hb=>by omega) hk5,xs,hfull,h5.1,?_⟩
  rcases h5.2 with h| ⟨g,c,cur,h1,h2,h3⟩
  ·exact .inl h
  ·exact .inr ⟨g,c,cur,h1,by omega,h3⟩
theorem zkm{w:World}{g:FuncId}{cap:Array Value}{own:Nat}{Pre:List Lab→Lab→Prop}{Full:List Lab→Prop}(hc:zan Tryz.prog g=true)
  (hit:∀n0 C,w.heap.size≤n0→(∀b,C b→w.heap.size≤b)→ziS Tryz.prog g cap w n0 C own Pre Full encT) (hlen:∀pre x,Pre pre x→pre.length<1000000000000):
  Fn Tryz.prog 272 #[.func (.func g) #[] cap] w (fun v w'=>Ext w w'∧∃xs,Full xs∧w'.ownsRow w.heap.size 9 1 v xs.length (xs.map vs)):=by
 refine enter Tryz.func272 Tryz.ntmps272 rfl rfl ?_
 repeat refine c_r ?_
 refine rg0 ?_
 repeat refine c_r ?_
 refine rq ?_;intro gd K hgd hK
 try simp only[go_sem]
 refine Fn.mono (zin hc hit hlen) ?_
 rintro v w1 ⟨hE,xs,hf,ho⟩
 try simp only[go_sem]
 refine hK _ _ ?_;clear hK hgd;clear K;try clear gd
 repeat refine c_r ?_
 refine rt0 Tryz.ntmps272 ?_
 exact⟨hE,xs,hf,ho⟩
end Go.Proofs.YtahbdamijngmmaaGreat
namespace Go.Proofs
open Go.Shelf
def Tryz.sortL_ren:Go.Shelf.Ren:=⟨fun|6=>273|15=>145|14=>296|28=>192|29=>193|20=>307|21=>308|22=>309|23=>310|24=>311|25=>312|26=>313|27=>314|46=>317|47=>236|48=>237|49=>318|50=>319|57=>321|n=>n,fun|22=>26|24=>9|25=>306|3=>3|39=>262|0=>0|53=>199|55=>324|4=>4|46=>316|45=>315|50=>265|5=>5|9=>9|66=>368|70=>372|76=>404|77=>133|n=>n,fun|n=>n⟩
theorem Tryz.sortL:Go.Proofs.SlLaysF.n6 Tryz.prog Tryz.sortL_ren:={
 mixed:=by kernel_rfl
 f6:=⟨Tryz.f273.name,by decide,Tryz.func273.trans (congrArg some (by kernel_rfl))⟩
 f14:=⟨Tryz.f296.name,by decide,Tryz.func296.trans (congrArg some (by kernel_rfl))⟩
 f15:=Tryz.func145.trans (congrArg some (by kernel_rfl))
 f20:=⟨Tryz.f307.name,by decide,Tryz.func307.trans (congrArg some (by kernel_rfl))⟩
 f21:=⟨Tryz.f308.name,by decide,Tryz.func308.trans (congrArg some (by kernel_rfl))⟩
 f22:=⟨Tryz.f309.name,by decide,Tryz.func309.trans (congrArg some (by kernel_rfl))⟩
 f23:=⟨Tryz.f310.name,by decide,Tryz.func310.trans (congrArg some (by kernel_rfl))⟩
 f24:=⟨Tryz.f311.name,by decide,Tryz.func311.trans (congrArg some (by kernel_rfl))⟩
 f25:=⟨Tryz.f312.name,by decide,Tryz.func312.trans (congrArg some (by kernel_rfl))⟩
 f26:=⟨Tryz.f313.name,by decide,Tryz.func313.trans (congrArg some (by kernel_rfl))⟩
 f27:=⟨Tryz.f314.name,by decide,Tryz.func314.trans (congrArg some (by kernel_rfl))⟩
 f28:=Tryz.func192.trans (congrArg some (by kernel_rfl))
 f29:=Tryz.func193.trans (congrArg some (by kernel_rfl))
 f46:=⟨Tryz.f317.name,by decide,Tryz.func317.trans (congrArg some (by kernel_rfl))⟩
 f47:=Tryz.func236.trans (congrArg some (by kernel_rfl))
 f48:=Tryz.func237.trans (congrArg some (by kernel_rfl))
 f49:=⟨Tryz.f318.name,by decide,Tryz.func318.trans (congrArg some (by kernel_rfl))⟩
 f50:=⟨Tryz.f319.name,by decide,Tryz.func319.trans (congrArg some (by kernel_rfl))⟩
 f57:=⟨Tryz.f321.name,by decide,Tryz.func321.trans (congrArg some (by kernel_rfl))⟩
 t0:=Tryz.underlying0
 a0:=Tryz.isAgg0
 z0:=Tryz.sizeOf0
 v0:=Tryz.zeroValue0
 t3:=Tryz.underlying3
 a3:=Tryz.isAgg3
 z3:=Tryz.sizeOf3
 v3:=Tryz.zeroValue3
 t4:=Tryz.underlying4
 a4:=Tryz.isAgg4
 z4:=Tryz.sizeOf4
 v4:=Tryz.zeroValue4
 t5:=Tryz.underlying5
 a5:=Tryz.isAgg5
 z5:=Tryz.sizeOf5
 v5:=Tryz.zeroValue5
 t9:=Tryz.underlying9
 a9:=Tryz.isAgg9
 z9:=Tryz.sizeOf9
 v9:=Tryz.zeroValue9
 t22:=Tryz.underlying26
 a22:=Tryz.isAgg26
 z22:=Tryz.sizeOf26
 v22:=Tryz.zeroValue26
 a24:=Tryz.isAgg9
 z24:=Tryz.sizeOf9
 t25:=Tryz.underlying306
 a25:=Tryz.isAgg306
 z25:=Tryz.sizeOf306
 v25:=Tryz.zeroValue306
 t39:=Tryz.underlying262
 a39:=Tryz.isAgg262
 z39:=Tryz.sizeOf262
 v39:=Tryz.zeroValue262
 t45:=Tryz.underlying315
 a45:=Tryz.isAgg315
 z45:=Tryz.sizeOf315
 v45:=Tryz.zeroValue315
 t46:=Tryz.underlying316
 a46:=Tryz.isAgg316
 z46:=Tryz.sizeOf316
 v46:=Tryz.zeroValue316
 t50:=Tryz.underlying265
 a50:=Tryz.isAgg265
 z50:=Tryz.sizeOf265
 v50:=Tryz.zeroValue265
 t53:=Tryz.underlying199
 a53:=Tryz.isAgg199
 z53:=Tryz.sizeOf199
 v53:=Tryz.zeroValue199
 t55:=Tryz.underlying324
 a55:=Tryz.isAgg324
 z55:=Tryz.sizeOf324
 v55:=Tryz.zeroValue324
 t66:=Tryz.underlying368
 a66:=Tryz.isAgg368
 z66:=Tryz.sizeOf368
 v66:=Tryz.zeroValue368
 t70:=Tryz.underlying372
 a70:=Tryz.isAgg372
 z70:=Tryz.sizeOf372
 v70:=Tryz.zeroValue372
 t76:=Tryz.underlying404
 a76:=Tryz.isAgg404
 z76:=Tryz.sizeOf404
 v76:=Tryz.zeroValue404
 t77:=Tryz.underlying133
 a77:=Tryz.isAgg133
 z77:=Tryz.sizeOf133
 v77:=Tryz.zeroValue133}
end Go.Proofs
namespace Go.Proofs.YtahbdamijngmmaaGreat
open Go
set_option maxRecDepth 10000
theorem ziD{w w':World}(h:Ext w w'):w'=Go.Sort.grow (w.drewN (w'.drawn - w.drawn)) (w'.heap.extract w.heap.size w'.heap.size):=by
 have h1:=h.drawn
 have h2:=h.size
 cases w;cases w'
 obtain⟨e1,e2,e3,_,hb,_⟩:=h
 simp only at e1 e2 e3 hb h1 h2
 subst e1 e2 e3
 simp only[Go.Sort.grow,World.drewN,World.mk.injEq,true_and,and_true]
 refine⟨?_,by omega⟩
 apply Array.ext_getElem?
 intro i
 rw[Array.getElem?_append]
 split
 ·rename_i hi;exact hb i hi (fun h=>h)
 ·rename_i hi
  rw[Array.getElem?_extract]
  split
  ·congr 1;omega
  ·rw[Array.getElem?_eq_none (by omega)]
structure FLab where
 val:Lab
 fold:zaS val=val
 len:val.length≤9000000000000000000
instance:Inhabited FLab:=⟨⟨[],rfl,by decide⟩⟩
def encF(x:FLab):Value:=vs x.val
def cmpF(x y:FLab):Int:=cmpL x.val y.val
theorem FLab.eq{x y:FLab}(h:x.val=y.val):x=y:=by cases x;cases y;cases h;rfl
theorem ltF_t{x y:FLab}:Go.Proofs.ltOf cmpF x y=true↔cmpL x.val y.val<0:=by unfold Go.Proofs.ltOf;exact decide_eq_true_iff
theorem zjS{x y:FLab}:Go.Proofs.ltOf cmpF x y=false↔¬cmpL x.val y.val<0:=by unfold Go.Proofs.ltOf;exact decide_eq_false_iff_not
theorem swoF:Go.Sort.SWO (Go.Proofs.ltOf cmpF):=by
 refine⟨fun x=>?_,fun x y z h1 h2=>?_,fun x y z h1 h2=>?_⟩
 ·rw[zjS,zfA];omega
 ·rw[ltF_t]at*
  exact zcK h1 (by omega)
 ·rw[zjS]at*
  have b1:=zbp x.val y.val
  have b2:=zbp y.val z.val
  have b3:=zbp x.val z.val
  have:=zdn (a:=z.val) (b:=y.val) (c:=x.val) (by omega) (by omega)
  omega
theorem sortWorld_keep{α:Type}[Inhabited α]{enc:α→Value}{w:World}{blk off n:Nat}{d:Array α}{os:Array Obj}:Keep (fun b=>b=blk) w (sortWorld enc w blk off n d os):=by
 refine⟨rfl,rfl,rfl,?_,fun b hb hne=>?_,?_⟩
 ·show w.heap.size≤((w.heap.modify blk _)++os).size
  simp
 ·show((w.heap.modify blk _)++os)[b]? =_
  rw[Array.getElem?_append_left (by simpa using hb),Array.getElem?_modify,if_neg (Ne.symm hne)]
 ·show w.drawn≤w.drawn+n
  omega
theorem zfh{α:Type}[Inhabited α]{enc:α→Value}{w:World}{blk off n:Nat}{d:Array α}{os:Array Obj}{cur:Array Value}{e:TypeId}{fr:Nat×Nat}(h:w.heap[blk]? =some (.cells cur e fr)):
  (sortWorld enc w blk off n d os).heap[blk]? =some (.cells (Go.Sort.putCells enc off d cur) e fr):=by
 show((w.heap.modify blk _)++os)[blk]? =_
 have hlt:=(Array.getElem?_eq_some_iff.1 h).1
 rw[Array.getElem?_append_left (by simpa using hlt),Array.getElem?_modify,if_pos rfl,h]
 rfl
theorem ziP{w:World}{B:Nat}{v:Value}{xs:List Lab}(hown:w.ownsRow B 9 1 v xs.length (xs.map vs))(hfold:∀x∈xs,zaS x=x)(hlab:∀x∈xs,x.length≤9000000000000000000)(hlen:xs.length≤1000000000000):
  Fn Tryz.prog 273 #[v,.func (.func 176) #[] #[]] w (fun _ w'=>w'.ownsRow B 9 1 v xs.length ((zgv xs).map vs)∧Keep (fun b=>some b=v.ownBlock) w w'):=by
 obtain⟨hl,hcase⟩:=hown
 rcases hcase with ⟨rfl,h0⟩| ⟨g,cap,cur,rfl,hB,hg,hn,hcap,hcs,htake⟩
 ·refine Fn.of_calls (Calls.mono (AnyF.slices_SortFunc_none {Tryz.sortL with} Option.none 0 _ w) ?_)
  rintro _ _ ⟨rfl,rfl⟩
  have:xs=[]:=List.length_eq_zero_iff.1 h0
  subst this
  exact⟨_,rfl,⟨by simp[zgv],.inl ⟨rfl,rfl⟩⟩,Keep.refl _ _⟩
 ·obtain⟨ds,hds⟩:∃ds:List FLab,ds.map (·.val)=xs:=by
   refine⟨xs.pmap (fun x (h:zaS x=x∧x.length≤9000000000000000000)=>FLab.mk x h.1 h.2) (fun x hx=>⟨hfold x hx,hlab x hx⟩),?_⟩
   rw[List.map_pmap];simp
  have hdl:ds.length=xs.length:=by rw[←hds];simp
  have hto:∀x y:FLab,Go.Proofs.ltOf cmpF x y=false→Go.Proofs.ltOf cmpF y x=false→x=y:=fun x y h1 h2=>by
   rw[zjS]at h1 h2
   have:=zbp x.val y.val
   exact FLab.eq (zbX (by omega))
  have hcell:∀j (hj:j<ds.length),cur[j]? =some (encF ds[j]):=fun j hj=>by
   have h1:(xs.map vs)[j]? =some (vs (xs[j]'(by omega))):=by rw[List.getElem?_map,List.getElem?_eq_getElem (by omega)];rfl
   rw[←htake,List.getElem?_take,if_pos (by omega)]at h1
   have h2:xs[j]'(by omega)=ds[j].val:=by simp[←hds]
   rw[h2]at h1
   simpa [encF] using h1
  have key:=Any.slices_SortFunc_total Tryz.sortL encF (fun x=>rfl) cmpF swoF 176 #[] g 0 cap ds.toArray w
   (fun args w=>zbU rfl)
   (fun m os dk hdk x y=>by
    refine Calls.mono (Fn.calls (zfU _ x.val y.val x.len y.len)) ?_
    rintro _ w' ⟨_,rfl,rfl,hE⟩
    rw[x.fold,y.fold]
    exact⟨rfl,_,_,ziD hE⟩)
   (fun j hj=>by
    have hj':j<ds.length:=by simpa using hj
    rw[za0 hg,zfs hg,Nat.zero_add,hcell j hj',getElem!_pos _ j hj]
    simp)
   (Array.getElem?_eq_some_iff.1 hg).1 (by simp;omega) hto
  rw[show ds.toArray.size=xs.length from by simpa using hdl]at key
  refine Fn.of_calls (Calls.mono key ?_)
  rintro _ _ ⟨rfl,n,os,rfl⟩
  refine⟨_,rfl,?_,sortWorld_keep.mono (fun b _ hb=>by rw[hb];rfl)⟩
  have hsort:(ds.mergeSort fun x y=>!Go.Proofs.ltOf cmpF y x).map (·.val)=zgv xs:=by
   refine zho ?_ (zcV _) ?_
   ·rw[List.pairwise_map]
    have:=List.pairwise_mergeSort (le:=fun x y:FLab=>!Go.Proofs.ltOf cmpF y x) (fun a b c h1 h2=>by
     rw[Bool.not_eq_true']at*
     exact swoF.ntrans c b a h2 h1) (fun a b=>by
     rw[Bool.or_eq_true,Bool.not_eq_true',Bool.not_eq_true',zjS,zjS]
     have:=zbp a.val b.val
     omega) ds
    refine this.imp (fun {a b} h=>?_)
    rw[Bool.not_eq_true',zjS]at h
    simp only[leL,decide_eq_true_eq]
    have:=zbp a.val b.val
    omega
   ·have h1:=(List.mergeSort_perm ds (fun x y=>!Go.Proofs.ltOf cmpF y x)).map (·.val)
    rw[hds]at h1
    exact h1.trans (zem xs).symm
  obtain⟨es,hes⟩:∃es,(ds.mergeSort fun x y=>!Go.Proofs.ltOf cmpF y x)=es:=⟨_,rfl⟩
  have hesl:es.length=xs.length:=by rw[←hes,List.length_mergeSort,hdl]
  show World.ownsRow (sortWorld encF w g 0 n (ds.mergeSort fun x y=>!Go.Proofs.ltOf cmpF y x).toArray os) B _ _ _ _ _
  rw[hes]at hsort ⊢
  rw[←hsort]
  refine⟨by simp[hesl],.inr ⟨g,cap,_,rfl,hB,zfh hg,hn,hcap,by simpa [Go.Sort.putCells] using hcs,?_⟩⟩
  apply List.ext_getElem?
  intro j
  rw[List.getElem?_take]
  split
  ·rename_i hj
   simp only[Nat.mul_one]at hj
   rw[Array.getElem?_toList]
   unfold Go.Sort.putCells
   rw[Array.getElem?_mapIdx]
   have hj2:j<cur.size:=by rw[hcs];omega
   rw[Array.getElem?_eq_getElem hj2]
   simp only[Option.map_some,Nat.zero_le,true_and,Nat.zero_add,Nat.sub_zero]
   have hj3:j<es.toArray.size:=by simp[hesl];exact hj
   rw[if_pos hj3,getElem!_pos _ j hj3]
   simp[encF,hesl,hj]
  ·rename_i hj
   rw[List.getElem?_eq_none (by simp[hesl];omega)]
theorem zg7{w:World}{g:FuncId}{cap:Array Value}{own:Nat}{Pre:List Lab→Lab→Prop}{Full:List Lab→Prop}(hc:zan Tryz.prog g=true)
  (hit:∀n0 C,w.heap.size≤n0→(∀b,C b→w.heap.size≤b)→ziS Tryz.prog g cap w n0 C own Pre Full encT) (hlen:∀pre x,Pre pre x→pre.length<1000000000000)
  (hfull:∀xs,Full xs→xs.length≤1000000000000∧∀x∈xs,zaS x=x∧x.length≤9000000000000000000):
  Fn Tryz.prog 227 #[.func (.func g) #[] cap,.func (.func 176) #[] #[]] w (fun v w'=>Ext w w'∧∃xs,Full xs∧RowB w.heap.size w' v ((zgv xs).map vs)):=by
 refine enter Tryz.func227 Tryz.ntmps227 rfl rfl ?_
 repeat refine c_r ?_
 refine rg0 ?_
 repeat refine c_r ?_
 refine rq ?_;intro gd K hgd hK
 try simp only[go_sem]
 refine Fn.mono (zkm hc hit hlen) ?_
 rintro v w1 ⟨hE,xs,hf,ho⟩
 have hvs:∃a n c,v= .slice a n c:=by
  rcases ho.2 with ⟨rfl,_⟩| ⟨g,cap,cur,rfl,_⟩
  ·exact⟨_,_,_,rfl⟩
  ·exact⟨_,_,_,rfl⟩
 obtain⟨sa,sn,sc,rfl⟩:=hvs
 try simp only[go_sem]
 refine hK _ _ ?_;clear hK hgd;clear K;try clear gd
 repeat refine c_r ?_
 refine rq ?_;intro gd K hgd hK
 try simp only[go_sem]
 refine Fn.mono (ziP ho (fun x hx=>((hfull xs hf).2 x hx).1) (fun x hx=>((hfull xs hf).2 x hx).2) (hfull xs hf).1) ?_
 rintro u w2 ⟨ho2,hk2⟩
 try simp only[go_sem]
 refine hK _ _ ?_;clear hK hgd;clear K;try clear gd
 repeat refine c_r ?_
 refine rg0 ?_
 repeat refine c_r ?_
 refine rt0 Tryz.ntmps227 ?_
 exact⟨Keep.to_ext hE rfl (fun b hb=>own_ge ho hb) hk2,xs,hf,RowB.of_owns ho2⟩
--??end
end Go.Proofs.YtahbdamijngmmaaGreat
namespace Go.Proofs.YtahbdamijngmmaaGreat.T_bool
open Go Go.Proofs.YtahbdamijngmmaaGreat
set_option maxRecDepth 10000
structure Small(s:TS):Prop where
 fold:∀g∈s.names,zaj g=g
 lb:∀g∈s.names,LB g
 many:s.names.length≤1000000000
theorem zhP{names:List Nm}(h:names.Nodup)(f:Nm):(zd8 names f).Nodup:=by
 unfold zd8
 rw[List.nodup_iff_pairwise_ne]at h ⊢
 rw[List.pairwise_filterMap]
 refine h.imp (fun {a b} hab x hx y hy e=>?_)
 subst e
 apply hab
 cases a with
 |nil=>cases hx
 |cons p t=>
  cases b with
  |nil=>cases hy
  |cons q t'=>
   simp only at hx hy
   split at hx
   ·split at hy
    ·cases hx;cases hy;rename_i h1 h2;rw[h1,h2]
    ·cases hy
   ·cases hx
theorem zb2(s:TS)(f:Nm):(zgL s f).map (·.1)=zd8 s.names f:=by
 unfold zgL;rw[List.map_map];simp[Function.comp_def]
theorem zhO{w:World}{tb:Nat}{s:TS}{f:Nm}(hT:TAt w tb s)(hs:TOk s)(hS:Small s)(hf:f∈s.names):
  Fn Tryz.prog 179 #[zkP (s.nb f)] w (fun v w'=>RowB w.heap.size w' v ((zgv (zd8 s.names f)).map vs)∧Ext w w'):=by
 have hc:zae w (some ⟨s.nb f,0,Option.none⟩)=some (.map (some (s.mb f))):=by
  show w.cell? _=_
  rw[za0 (hT.node _ hf)];rfl
 have hnd:=zhP hs.nd f
 have hkl:(zd8 s.names f).length≤s.names.length:=by unfold zd8;exact List.length_filterMap_le _ _
 have hmany:=hS.many
 refine enter Tryz.func179 Tryz.ntmps179 rfl rfl ?_
 repeat refine c_r ?_
 refine rg0 ?_
 repeat refine c_r ?_
 refine rq ?_;intro gd K hgd hK
 try simp (disch:=first|omega|assumption|rfl) only[go_sem,zkP,hc]
 refine Fn.mono (Keys_ok (hT.map f hf) (by rw[zb2];exact hnd)) ?_
 rintro _ w1 ⟨hE1,cap,rfl,hit⟩
 try simp only[go_sem]
 refine Fn.mono (zg7 (own:=1) (by rfl) (fun n0 C h1 h2=>hit n0 C h1 h2) ?_ ?_) ?_
 ·rintro pre x ⟨h1,h2,h3,h4⟩
  rw[zb2]at h4
  have:=zcY h3 h4
  omega
 ·intro xs hp
  unfold fullK at hp
  rw[zb2]at hp
  refine⟨by rw[hp.length_eq];omega,fun x hx=>?_⟩
  have hx':=zjR.1 (hp.mem_iff.1 hx)
  refine⟨?_,hS.lb _ hx' _ (List.mem_cons_self ..)⟩
  have:=hS.fold _ hx'
  simp only[zaj,List.map_cons,List.cons.injEq]at this
  exact this.1
 rintro v w2 ⟨hE2,xs,hp,hrow⟩
 try simp only[go_sem]
 refine hK _ _ ?_;clear hK hgd;clear K;try clear gd
 repeat refine c_r ?_
 refine rt0 Tryz.ntmps179 ?_
 unfold fullK at hp
 rw[zb2]at hp
 refine⟨?_,hE1.trans hE2⟩
 rw[←zis hp];exact hrow.mono hE1.size
end Go.Proofs.YtahbdamijngmmaaGreat.T_bool
namespace Go.Proofs.YtahbdamijngmmaaGreat.P_pp
open Go Go.Proofs.YtahbdamijngmmaaGreat
set_option maxRecDepth 10000
theorem Clip_ok{w:World}{a:Option Addr}{n c:Nat}(hc:n≤c):Fn Tryz.prog 129 #[.slice a n c] w (fun u w'=>u= .slice a n n∧w'=w):=by
 refine enter Tryz.func129 Tryz.ntmps129 rfl rfl ?_
 repeat refine c_r ?_
 refine rg0 ?_
 repeat refine c_r ?_
 refine rq ?_;intro gd K hgd hK
 try simp only[go_sem]
 have hcl:slD Tryz.prog (some (TypeDesc.slice 238)) (Value.slice a n c) Option.none (some (Value.int IntKind.i64 ↑n)) (some (Value.int IntKind.i64 ↑n))=some (.slice a n n):=zdU hc (by rfl)
 rw[hcl]
 try simp only[go_sem]
 refine hK _ _ ?_;clear hK hgd;clear K;try clear gd
 repeat refine c_r ?_
 refine rt0 Tryz.ntmps129 ?_
 exact⟨rfl,rfl⟩
end Go.Proofs.YtahbdamijngmmaaGreat.P_pp
