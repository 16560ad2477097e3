/-
  Texts of a proof, joined: LJ, LM, M4wd, LN, LO, LQ, LR, LS, LT, QF, NB, QG, QH.
  Conditions: none.
-/
import Derived.Test.YtihbdhjibplldaaGreatDoorQLM08
import Derived.Test.YtihbdhjibplldaaGreatDoorQLM01
import Derived.Test.YtihbdhjibplldaaGreatDoorQLM02
import Derived.Test.YtihbdhjibplldaaGreatDoorQLM04
import Derived.Test.YtihbdhjibplldaaGreatDoorQLM07
import Derived.Test.YtihbdhjibplldaaGreatDoorQLM06
set_option linter.unusedVariables false
set_option linter.unusedSimpArgs false
set_option linter.defProp false
set_option linter.unnecessarySimpa false
set_option maxHeartbeats 8000000
namespace Go.Proofs.YtihbdhjibplldaaGreatDoor
open Go
set_option maxRecDepth 10000
def dgW(t:Lab):Bool:=!decide (t=[]) && decide (Lib.trimS t digs10=[])
def inW(t:Lab):Bool:=decide (zaV t=[105,110])
def goH(x:Lab×Bool)(p k:Bool):Bool:=!x.2 && ((dgW x.1 && !p)|| (inW x.1 && !k))
def zcc(i:Nat)(p k:Bool):List (Lab×Bool)→List (Nat×Bool)
 | []=>[]
 |x::ws=>if goH x p k=true then(i,dgW x.1)::zcc (i+1) (p||dgW x.1) (k||inW x.1) ws else []
def encHd(x:Nat×Bool)(_:World)(args:Array Value):Prop:=args=#[vi x.1,.bool x.2]
theorem headIt{w0 W0:World}{n0:Nat}{C:Nat→Prop}{c:Nat}{lv:Value}{ws:List (Lab×Bool)}{T:TypeId}{fr:Nat×Nat}(hb:W0.heap[c]? =some (.cells #[lv] T fr))(hE0:Ext w0 W0)(hR:Rows 2 WdC w0 lv ws)(hn:w0.heap.size≤n0)(hC:∀i,C i→w0.heap.size≤i)(hl:ws.length≤1000000)(hll:∀x∈ws,x.1.length≤1000000):
    Iter Tryz.prog 129 #[.pointer (some ⟨c,0,Option.none⟩)] W0 n0 C (zcc 0 false false ws) encHd:=by
  intro lp J Jx W hW hnW hJ hJx hY h0
  have old:∀{v:World},KeepB n0 C W v→Ext w0 v:=fun {v} hk=>zf3 (hE0.trans hW) hk hn hC
  obtain⟨a,cc,rfl,hcap,hg⟩:=hR.open
  have c0:zad W (some ⟨c,0,Option.none⟩)=some (.slice a ws.length cc):=zaa (hW.at hb) rfl
  refine enter Tryz.func129 Tryz.ntmps129 rfl rfl ?_
  refine go c0 ?_
  refine zbq ws.length (fun i σ v=>∃p k pre,(σ 0= .func (.yield lp) #[] #[]∧σ 3= .bool p∧σ 4= .bool k∧σ 9= .slice a ws.length cc∧σ 10=vi ws.length∧σ 11=vi i)∧J pre v∧KeepB n0 C W v∧zcc 0 false false ws=pre++zcc i p k (ws.drop i)) ?_ ?_ ?_
  · exact⟨false,false,[],⟨vr0,vr0,vr0,vr0,vr0,vr0⟩,h0,KeepB.refl _ _ _,rfl⟩
  · rintro i σ v hi r ⟨p,k,pre,⟨s0,s3,s4,s9,s10,s11⟩,hj,hK,hf⟩
    obtain⟨cs,g0,hcs⟩:=hg i hi
    have g:=zaj (old hK) g0
    have hxl:=hll _ (List.getElem_mem hi)
    rw[List.drop_eq_getElem_cons hi]at hf
    obtain⟨⟨t,q⟩,hx⟩:∃x,ws[i]=x:=⟨_,rfl⟩
    rw[hx]at hcs hf hxl
    obtain rfl:cs=[vs t,.bool q]:=hcs
    replace hxl:t.length≤1000000:=hxl
    obtain⟨xa,rfl⟩:=Option.isSome_iff_exists.1 (zaO g)
    obtain⟨xi,hxi⟩:∃xi,adr (some xa) (i*2)=some xi:=⟨_,rfl⟩
    rw[hxi]at g
    have hi0:(0:Int)≤(i:Int):=by omega
    have hi1:(i:Int)<(ws.length:Int):=by omega
    have hi2:(i:Int)+1=((i+1:Nat):Int):=by push_cast;rfl
    refine go (an7 s0 s3 s4 s9 s10 s11 r) ?_
    refine rq ?_;intro gd K hgd hK
    try simp (disch:=first|omega|assumption|rfl) only[go_sem,s9,s11,hi0,hi1,hxi,g]
    refine zbj (P:=Tryz.prog) (l:=[vs t,.bool q]) rfl (fun v hv=>by simp at hv;rcases hv with rfl|rfl<;>rfl) rfl rfl ?_
    intro v1 hE1 hs1 hB
    try simp only[go_sem]
    refine hK _ _ ?_;clear hK hgd;clear K;try clear gd
    have q0:zad v1 (some ⟨v.heap.size,0,Option.none⟩)=some (vs t):=zaa hB rfl
    have q1:zad v1 (some ⟨v.heap.size,1,Option.none⟩)=some (.bool q):=zaa hB rfl
    refine go trivial ?_
    refine zav (Q:=fun e' σ' ds' v'=>e'= .normal∧ds'=[]∧(σ' 0= .func (.yield lp) #[] #[]∧σ' 3= .bool p∧σ' 4= .bool k∧σ' 5=vi i∧σ' 6= .pointer (some ⟨v.heap.size,0,Option.none⟩)∧σ' 7= .bool (dgW t)∧σ' 9= .slice (some xa) ws.length cc∧σ' 10=vi ws.length∧σ' 11=vi i)∧Ext v1 v') ?_ ?_
    · by_cases h0:t=[]
      · subst h0
        refine rgg [(3,19)] (an5 s0 s3 s4 q0 Nat.add_zero) ?_
        exact⟨rfl,rfl,⟨(vr1 s0),(vr1 s3),(vr1 s4),vr0,vr0,vr0,(vr1 s9),(vr1 s10),(vr1 s11)⟩,Keep.refl _ _⟩
      · refine rcg [(3,19)] (an3 q0 Nat.add_zero (decide_eq_false h0)) (zjS v1 t h0 (by omega)) ?_
        rintro _ v2 ⟨rfl,hE2⟩
        refine reg [(3,19)] (decide_eq_false h0) ?_
        have hd:dgW t=decide (Lib.trimS t digs10=[]):=by unfold dgW;rw[decide_eq_false h0];rfl
        exact⟨rfl,rfl,⟨(vr1 s0),(vr1 s3),(vr1 s4),vr0,vr0,by rw[hd];first| (simp only[go_sem];done)| (simp only[go_sem];rfl),(vr1 s9),(vr1 s10),(vr1 s11)⟩,hE2⟩
    rintro _ σ2 _ v2 ⟨rfl,rfl,⟨s0,s3,s4,s5,s6,s7,s9,s10,s11⟩,hE2⟩
    have q0':=zab hE2 q0
    have q1':=zab hE2 q1
    refine go trivial ?_
    refine rc (an3 s6 q0' Nat.add_zero) (zfB v2 t (by omega)) ?_
    rintro _ v3 ⟨rfl,hE3⟩
    have q13:=zab hE3 q1'
    have hE13:Ext v v3:=(hE1.trans hE2).trans hE3
    have hK3:KeepB n0 C W v3:=hK.trans (hE13.toB (by have:=hK.size;omega) (fun _ _ h=>h.elim))
    have hj3:J pre v3:=hJ _ _ _ hj hE13
    obtain⟨dg,hdg⟩:∃z,dgW t=z:=⟨_,rfl⟩
    obtain⟨cl,hcl⟩:∃z,inW t=z:=⟨_,rfl⟩
    rw[hdg]at s7
    have hcl':decide (zaV t=[105,110])=cl:=hcl
    rw[zcc]at hf
    unfold goH at hf
    rw[hdg,hcl]at hf
    refine rgo (an4 s0 s3 s4 hcl') ?_
    refine zav (Q:=fun e' σ' ds' v'=>e'= .normal∧ds'=[]∧(σ' 0= .func (.yield lp) #[] #[]∧σ' 3= .bool p∧σ' 4= .bool k∧σ' 5=vi i∧σ' 7= .bool dg∧σ' 8= .bool cl∧σ' 9= .slice (some xa) ws.length cc∧σ' 10=vi ws.length∧σ' 11=vi i)∧
      ((σ' 52= .bool true∧(J pre v'∧(!q && ((dg && !p)|| (cl && !k)))=false∨∃suf,zcc 0 false false ws=pre++(i,dg)::suf∧Jx (pre++ [(i,dg)]) v'))∨
       (σ' 52= .bool false∧(!q && ((dg && !p)|| (cl && !k)))=true∧J (pre++ [(i,dg)]) v'∧KeepB n0 C W v'))) ?_ ?_
    · have hY':∀suf,zcc 0 false false ws=pre++(i,dg)::suf→Yld Tryz.prog lp #[vi i,.bool dg] v3 (fun v B=>(v= .bool true∧J (pre++ [(i,dg)]) B∧KeepB n0 C v3 B)∨(v= .bool false∧Jx (pre++ [(i,dg)]) B)):=fun suf e=>hY pre (i,dg) suf v3 _ e hj3 hK3 rfl
      cases q<;>cases dg<;>cases p<;>cases cl<;>cases k
      all_goals
        refine rq ?_;intro gd K hgd hK
        have hg2:∀n σ b,zaJ gd n σ (some (2,b))=zat (ev n σ (.tmp 31)) b:=(fun n σ b=>by rw[zag,show gd 2=some 31 from(by rw[hgd];rfl)];rfl);have hg4:∀n σ b,zaJ gd n σ (some (4,b))=zat (ev n σ (.tmp 33)) b:=(fun n σ b=>by rw[zag,show gd 4=some 33 from(by rw[hgd];rfl)];rfl);have hg8:∀n σ b,zaJ gd n σ (some (8,b))=zat (ev n σ (.tmp 37)) b:=(fun n σ b=>by rw[zag,show gd 8=some 37 from(by rw[hgd];rfl)];rfl);have hg10:∀n σ b,zaJ gd n σ (some (10,b))=zat (ev n σ (.tmp 39)) b:=(fun n σ b=>by rw[zag,show gd 10=some 39 from(by rw[hgd];rfl)];rfl);have hg17:∀n σ b,zaJ gd n σ (some (17,b))=zat (ev n σ (.tmp 46)) b:=(fun n σ b=>by rw[zag,show gd 17=some 46 from(by rw[hgd];rfl)];rfl)
        try simp (disch:=first|omega|assumption|rfl) only[go_sem,s0,s3,s4,s5,s6,s7,q13,Nat.zero_add,Bool.not_true,Bool.not_false,zgm,↓hg2,↓hg4,↓hg8,↓hg10,↓hg17]
      any_goals
        refine hK _ _ ?_;clear hK hgd;clear K;try clear gd
        exact⟨rfl,rfl,⟨(vr1 s0),(vr1 s3),(vr1 s4),(vr1 s5),(vr1 s7),vr0,(vr1 s9),(vr1 s10),(vr1 s11)⟩,.inl ⟨vr0,.inl ⟨hj3,rfl⟩⟩⟩
      all_goals
        refine Yld.mono (hY' _ hf) ?_
        rintro u B (⟨rfl,hj',hk'⟩| ⟨rfl,hjx⟩)
        · try simp (disch:=first|omega|assumption|rfl) only[go_sem,s0,s3,s4,s5,s6,s7,Bool.not_true,Bool.not_false,zgm,↓hg2,↓hg4,↓hg8,↓hg10,↓hg17]
          refine hK _ _ ?_;clear hK hgd;clear K;try clear gd
          exact⟨rfl,rfl,⟨(vr1 s0),(vr1 s3),(vr1 s4),(vr1 s5),(vr1 s7),vr0,(vr1 s9),(vr1 s10),(vr1 s11)⟩,.inr ⟨vr0,rfl,hj',hK3.trans hk'⟩⟩
        · try simp (disch:=first|omega|assumption|rfl) only[go_sem,s0,s3,s4,s5,s6,s7,Bool.not_true,Bool.not_false,zgm,↓hg2,↓hg4,↓hg8,↓hg10,↓hg17]
          refine hK _ _ ?_;clear hK hgd;clear K;try clear gd
          exact⟨rfl,rfl,⟨(vr1 s0),(vr1 s3),(vr1 s4),(vr1 s5),(vr1 s7),vr0,(vr1 s9),(vr1 s10),(vr1 s11)⟩,.inl ⟨vr0,.inr ⟨_,hf,hjx⟩⟩⟩
    rintro _ σ4 _ v4 ⟨rfl,rfl,⟨s0,s3,s4,s5,s7,s8,s9,s10,s11⟩,(⟨s52,(⟨hjs,hst⟩| ⟨suf,hsf,hjx⟩)⟩| ⟨s52,hgo,hj4,hK4⟩)⟩
    · rw[if_neg (by rw[hst];decide),List.append_nil]at hf
      refine go s52 ?_
      exact zaA (by simp) rfl (.inl (hf▸hjs))
    · refine go s52 ?_
      exact zaA (by simp) rfl (.inr ⟨pre,_,suf,hsf,hjx⟩)
    · rw[if_pos hgo]at hf
      refine go (an2 s52 trivial) ?_
      refine zav (Q:=fun e' σ' ds' v'=>e'= .normal∧ds'=[]∧v'=v4∧(σ' 0= .func (.yield lp) #[] #[]∧σ' 3= .bool (p||dg)∧σ' 4= .bool (k||cl)∧σ' 9= .slice (some xa) ws.length cc∧σ' 10=vi ws.length∧σ' 11=vi i)) ?_ ?_
      · cases p<;>cases k
        all_goals
          refine rgg [(1,54),(5,58)] (an4 s3 s4 s7 s8) ?_
          exact⟨rfl,rfl,rfl,⟨(vr1 s0),vr0,vr0,(vr1 s9),(vr1 s10),(vr1 s11)⟩⟩
      rintro _ σ5 _ v5 ⟨rfl,rfl,rfl,⟨s0,s3,s4,s9,s10,s11⟩⟩
      refine go (an7 s0 s3 s4 s9 s10 s11 (an2 hi2 r)) ?_
      exact⟨rfl,p||dg,k||cl,_,⟨(vq1 s0),(vq1 s3),(vq1 s4),(vq1 s9),(vq1 s10),(vq1 hi2)⟩,hj4,hK4,by rw[hf];simp⟩
  · rintro σ v r ⟨p,k,pre,⟨s0,s3,s4,s9,s10,s11⟩,hj,hK,hf⟩
    refine go (an4 s10 s11 r s9) ?_
    rw[List.drop_length]at hf
    refine zaA (by simp) rfl (.inl ?_)
    rw[hf,zcc,List.append_nil]
    exact hj
def wdAt(ws:List (Lab×Bool))(i:Nat):Lab:=(ws.getD i ([],false)).1
def tmH(ws:List (Lab×Bool))(hs:List (Nat×Bool)):Option Int:=hs.foldl (fun tm y=>if y.2=true then some ((decP 2147483647 (wdAt ws y.1)).1:Int) else tm) Option.none
structure zj5(st:LdS)(ws:List (Lab×Bool))(e:Int)(st':LdS):Prop where
 few:ws.length≤100000
 short:∀x∈ws,x.1.length≤1000000
 good:∀y∈zcc 0 false false ws,y.2=true→(decP 2147483647 (wdAt ws y.1)).2=0
 add:AddR st (tmH ws (zcc 0 false false ws)) (ws.drop (zcc 0 false false ws).length) e st'
 own:st.owner.isSome=true
inductive RecR(st:LdS):Bool→List (Lab×Bool)→Int→LdS→Prop
 |own (t:Lab) (ws:List (Lab×Bool)):t.length≤1000000→¬(zaI t st.origin).2=0→RecR st false ((t,false)::ws) (zaI t st.origin).2 st
 |named (t:Lab) (ws:List (Lab×Bool)) (e:Int) (st':LdS):t.length≤1000000→(zaI t st.origin).2=0→zj5 {st with owner:=some (zaI t st.origin).1} ws e st'→RecR st false ((t,false)::ws) e st'
 |blank (ws:List (Lab×Bool)) (e:Int) (st':LdS):zj5 st ws e st'→RecR st true ws e st'
theorem zfl:∀(ws:List (Lab×Bool)) (i:Nat) (p k:Bool) (pre:List (Nat×Bool)) (x:Nat×Bool) (suf:List (Nat×Bool)),zcc i p k ws=pre++x::suf→x.1=i+pre.length∧pre.length<ws.length
 | [],i,p,k,pre,x,suf,h=>by
  rw[zcc]at h
  have:=congrArg List.length h
  simp at this
 |y::ws,i,p,k,pre,x,suf,h=>by
  rw[zcc]at h
  split at h
  ·cases pre with
   |nil=>
    injection h with h1 h2
    exact⟨by rw[←h1];rfl,by simp⟩
   |cons z pre=>
    injection h with h1 h2
    obtain⟨a,b⟩:=zfl ws (i+1) _ _ pre x suf h2
    exact⟨by rw[a,List.length_cons];omega,by simp only[List.length_cons];omega⟩
  ·have:=congrArg List.length h
   simp at this
theorem head_ok(w:World)(a:Option Addr)(n c:Nat):Fn Tryz.prog 111 #[.slice a n c] w (fun u w'=>u= .func (.func 129) #[] #[.pointer (some ⟨w.heap.size,0,Option.none⟩)]∧Ext w w'∧w'.heap.size=w.heap.size+1∧w'.heap[w.heap.size]? =some (.cells #[.slice a n c] 113 (0,0))):=by
 refine enter Tryz.func111 Tryz.ntmps111 rfl rfl ?_
 repeat refine c_r ?_
 refine rg0 ?_
 repeat refine c_r ?_
 refine zam ?_
 intro w1 hE1 hs1 hA
 refine go trivial ?_
 refine rt0 Tryz.ntmps111 ?_
 exact⟨rfl,hE1,hs1,hA⟩
section
variable {D : Nat → Prop} {B b : Nat} {w x : World} {fs : Value → World → Prop} {st : LdS} {fv ov rv orv owv : Value} {G : List (RecL × List Value)}
theorem LdX.step(h:LdX D B w b fs st){D':Nat→Prop}(hE:Ext w x)(hD:∀i,D' i→D i∨(w.heap.size≤i∧i<x.heap.size)):LdX D' B x b fs st:=by
 obtain⟨fv,ov,rv,orv,owv,G,h⟩:=h
 exact⟨fv,ov,rv,orv,owv,G,h.step hE hD⟩
theorem LdX.loc(h:LdX D B w b fs st)(hk:Keep D w x):LdX D B x b fs st:=by
 obtain⟨fv,ov,rv,orv,owv,G,h⟩:=h
 exact⟨fv,ov,rv,orv,owv,G,h.loc hk⟩
theorem LdX.lt(h:LdX D B w b fs st):b<w.heap.size:=by
 obtain⟨fv,ov,rv,orv,owv,G,h⟩:=h
 exact Nat.lt_of_lt_of_le h.lt h.le
theorem LdX.dd(h:LdX D B w b fs st):∀i,D i→b<i∧i<w.heap.size:=by
 obtain⟨fv,ov,rv,orv,owv,G,h⟩:=h
 exact fun i hi=>⟨(h.dd i hi).1,(h.dd i hi).2.1⟩
theorem zfP{W0:World}(hX:WX W0)(hE0:Ext W0 w)(hb0:W0.heap.size≤b)(h:LdX D B w b fs st){ln:Int}{bl:Bool}{wv:Value}{ws:List (Lab×Bool)}{e:Int}{st':LdS}(hw:Hz (fun i=>b≤i∧¬D i) w (fun X=>Rows 2 WdC X wv ws))(hr:RecR st bl ws e st')(hl:ws.length≤100000):
    Fn Tryz.prog 87 #[.pointer (some ⟨b,0,Option.none⟩),.agg #[vi ln,.bool bl,wv]] w (fun v w'=>v=vi e∧LdX D B w' b fs st'∧zaT D b w w'):=by
  obtain⟨wa,wc,rfl,hcap,_⟩:=hw.now.open
  have hbl:=h.lt
  have hDd:=h.dd
  have z0:(0:Int)≤0:=by decide
  obtain⟨n,hn⟩:∃n,w.heap.size=n:=⟨_,rfl⟩
  obtain⟨D1,hD1⟩:∃D1:Nat→Prop,D1=fun i=>D i∨(n≤i∧i<n+3):=⟨_,rfl⟩
  refine enter Tryz.func87 Tryz.ntmps87 rfl rfl ?_
  refine go trivial ?_
  refine zfy ?_
  intro w1 hE1 hs1 hA hB
  simp only[World.size_alloc,hn]at hs1 hA hB ⊢
  have q2:zad w1 (some ⟨n,2,Option.none⟩)=some (.slice wa ws.length wc):=zaa hA rfl
  refine go (an2 q2 Nat.zero_add) ?_
  refine rq ?_;intro gd K hgd hK
  try simp (disch:=first|omega|assumption|rfl) only[go_sem,q2,Nat.zero_add]
  refine st_al1 ?_
  intro w1' hE1' hs1' hC0
  refine zan (P:=Tryz.prog) rfl rfl rfl hC0 (by simp) (by simp) ?_
  intro w2 hs2 hC hk2
  try simp only[go_sem]
  refine hK _ _ ?_;clear hK hgd;clear K;try clear gd
  have hE2:Ext w w2:=Keep.to_ext (hE1.trans hE1') rfl (fun i hi=>by omega) hk2
  rw[hs1]at hs1' hk2 hC ⊢
  have hA2:=(hk2.block n (by omega) (by omega)).trans (Ext.at hE1' hA)
  have hB2:=(hk2.block (n+1) (by omega) (by omega)).trans (Ext.at hE1' hB)
  have h2:LdX D1 B w2 b fs st:=h.step hE2 (fun i hi=>by rw[hD1]at hi;rcases hi with hi|hi;exact .inl hi;exact .inr ⟨by omega,by omega⟩)
  have hw2:Hz (fun i=>b≤i∧¬D1 i) w2 (fun X=>Rows 2 WdC X (.slice wa ws.length wc) ws):=Hz.app hw hE2 (fun _ _ h=>h.elim) (fun i hi h=>⟨h.1,fun hd=>h.2 (by rw[hD1];exact .inl hd)⟩)
  have hDn:∀i,n≤i→i<n+3→D1 i:=fun i h1 h2=>by rw[hD1];exact .inr ⟨h1,h2⟩
  have hKL:∀{X Y:World},zaT D1 b X Y→zaT D b X Y:=fun hk=>hk.mono fun i _ h=>⟨h.1,fun hd=>h.2 (by rw[hD1];exact .inl hd)⟩
  have kp:∀{X:World} {i:Nat} {o:Obj},zaT D1 b w2 X→n≤i→i<n+3→w2.heap[i]? =some o→X.heap[i]? =some o:=fun hk h1 h2 ho=>(hk.block _ (by omega) fun h=>h.2 (hDn _ h1 h2)).trans ho
  have q1:zad w2 (some ⟨n,1,Option.none⟩)=some (.bool bl):=zaa hA2 rfl
  have q5:zad w2 (some ⟨n+2,0,Option.none⟩)=some (.slice wa ws.length wc):=zaa hC rfl
  refine go (an2 q1 Nat.zero_add) ?_
  refine zav (Q:=fun e' σ' ds' v'=>ds'=[]∧(σ' 4= .pointer (some ⟨n+1,0,Option.none⟩))∧zaT D b w2 v'∧
    ((e'= .ret∧zad v' (some ⟨n+1,0,Option.none⟩)=some (vi e)∧LdX D1 B v' b fs st')∨
     (e'= .normal∧(σ' 0= .pointer (some ⟨b,0,Option.none⟩)∧σ' 5= .pointer (some ⟨n+2,0,Option.none⟩))∧∃stm wsm wv',zj5 stm wsm e st'∧LdX D1 B v' b fs stm∧v'.heap[n+2]? =some (.cells #[wv'] 113 (0,0))∧v'.heap[n+1]? =w2.heap[n+1]?∧∀X,Rows 2 WdC X (.slice wa ws.length wc) ws→Rows 2 WdC X wv' wsm))) ?_ ?_
  · cases hr with
    |blank ws e st' hH=>
      refine go q1 ?_
      exact⟨rfl,vr0,Keep.refl _ _,.inr ⟨rfl,⟨vr0,vr0⟩,_,_,_,hH,h2,hC,rfl,fun _ h=>h⟩⟩
    |own t r htl hne=>
      obtain⟨xa,c,he,hc,c0,x1,hx1,c1⟩:=row1 hw2.now
      injection he with he1 he2 he3
      subst he1
      have l1:(0:Int)<((((t,false)::r).length:Nat):Int):=by rw[List.length_cons];omega
      have hf:ownF st t=st:=if_neg hne
      refine go (an9 q1 q5 z0 l1 Int.toNat_zero Nat.zero_mul zak hx1 c1) ?_
      refine rc (an7 q5 z0 l1 Int.toNat_zero Nat.zero_mul zak c0) (ziN h2 t (by omega)) ?_
      rintro _ w3 ⟨rfl,h3,hk3⟩
      rw[hf]at h3
      refine rgo (decide_eq_false hne) ?_
      have hB3:=kp hk3 (by omega) (by omega) hB2
      refine rq ?_;intro gd K hgd hK
      try simp only[go_sem]
      refine zan (P:=Tryz.prog) rfl rfl rfl hB3 (by simp) (by simp) ?_
      intro w4 hs4 hB4 hk4
      try simp only[go_sem]
      refine hK _ _ ?_;clear hK hgd;clear K;try clear gd
      refine go trivial ?_
      exact⟨rfl,vr0,(hKL hk3).trans (hk4.mono fun i _ e=>⟨by omega,fun hd=>by have:=hDd i hd;omega⟩),.inl ⟨rfl,zaa hB4 rfl,h3.loc (hk4.mono fun i _ e=>by rw[e];exact hDn _ (by omega) (by omega))⟩⟩
    |named t r e st' htl hne hH=>
      obtain⟨xa,c,he,hc,c0,x1,hx1,c1⟩:=row1 hw2.now
      injection he with he1 he2 he3
      subst he1
      have l1:(0:Int)<((((t,false)::r).length:Nat):Int):=by rw[List.length_cons];omega
      have hf:ownF st t={st with owner:=some (zaI t st.origin).1}:=if_pos hne
      refine go (an9 q1 q5 z0 l1 Int.toNat_zero Nat.zero_mul zak hx1 c1) ?_
      refine rc (an7 q5 z0 l1 Int.toNat_zero Nat.zero_mul zak c0) (ziN h2 t (by omega)) ?_
      rintro _ w3 ⟨rfl,h3,hk3⟩
      rw[hf]at h3
      refine rgo (decide_eq_true hne) ?_
      have hC3:=kp hk3 (by omega) (by omega) hC
      have q53:zad w3 (some ⟨n+2,0,Option.none⟩)=some (.slice (some xa) ((t,false)::r).length wc):=zaa hC3 rfl
      have l2:(1:Int)≤((((t,false)::r).length:Nat):Int):=by rw[List.length_cons];omega
      have l3:(1:Int)≤(wc:Int):=by omega
      have z1:(0:Int)≤1:=by decide
      have t1:(1:Int).toNat=1:=rfl
      refine rq ?_;intro gd K hgd hK
      try simp (disch:=first|omega|assumption|rfl) only[go_sem,q53,l2,l3,z1,t1]
      refine zan (P:=Tryz.prog) rfl rfl rfl hC3 (by simp) (by simp) ?_
      intro w4 hs4 hC4 hk4
      try simp only[go_sem]
      refine hK _ _ ?_;clear hK hgd;clear K;try clear gd
      exact⟨rfl,vr0,(hKL hk3).trans (hk4.mono fun i _ e=>⟨by omega,fun hd=>by have:=hDd i hd;omega⟩),.inr ⟨rfl,⟨vr0,vr0⟩,_,r,_,hH,h3.loc (hk4.mono fun i _ e=>by rw[e];exact hDn _ (by omega) (by omega)),hC4,(hk4.block _ (by have:=hk3.size;omega) (by omega)).trans (hk3.block _ (by omega) fun h=>h.2 (hDn _ (by omega) (by omega))),fun X h=>h.drop (m:=1) (by simp)⟩⟩
  rintro e' σ3 _ w3 ⟨rfl,s4,hk3,(⟨rfl,q4,h3⟩| ⟨rfl,⟨s0,s5⟩,stm,wsm,wv',hH,h3,hC3,hB3,hwm⟩)⟩
  · repeat refine c_r ?_
    refine zaf (.inr rfl) Tryz.ntmps87 rfl (zb4 ((vr1 s4)) rfl rfl q4 zae) ?_
    exact⟨rfl,h3.step (Keep.refl _ _) (fun i hi=> .inl (by rw[hD1];exact .inl hi)),(hE2.mono fun _ _ h=>h.elim).trans hk3⟩
  have hs3:=hk3.size
  have hB3:=hB3.trans hB2
  have hX3:∀{X:World},zaT D b w X→WX X:=fun hk=>hX.ext (Keep.to_ext hE0 rfl (fun i hi=>by omega) hk)
  have hkw3:zaT D b w w3:=(hE2.mono fun _ _ h=>h.elim).trans hk3
  have hw3:Hz (fun i=>b≤i∧¬D i) w3 (fun X=>Rows 2 WdC X wv' wsm):=fun X hX=>hwm X (hw X (hkw3.trans hX))
  have k8:zad w3 (some ⟨b,8,Option.none⟩)=some (.bool true):=by
    obtain⟨fv,ov,rv,orv,owv,G,h⟩:=h3
    have:=zaa (i:=8) (v:= .bool stm.owner.isSome) h.h rfl
    rw[hH.own]at this
    exact this
  refine go (an4 s0 s5 s4 k8) ?_
  refine zam ?_
  intro w4 hE4 hs4 hM
  refine rq ?_;intro gd K hgd hK
  try simp only[go_sem]
  refine st_al1 ?_
  intro w4' hE4' hs4' hN0
  refine zan (P:=Tryz.prog) rfl rfl rfl hN0 (by simp) (by simp) ?_
  intro w5 hs5 hN hk5
  try simp only[go_sem]
  refine hK _ _ ?_;clear hK hgd;clear K;try clear gd
  obtain⟨m,hm⟩:∃m,w3.heap.size=m:=⟨_,rfl⟩
  have e9:w4.heap.size=m+1:=by omega
  simp only[World.size_alloc,hm,e9]at hs4 hM hs4' hN0 hN hk5 ⊢
  have hE35:Ext w3 w5:=Keep.to_ext (hE4.trans hE4') rfl (fun i hi=>by omega) hk5
  have hM5:=(hk5.block m (by omega) (by omega)).trans (Ext.at hE4' hM)
  obtain⟨D2,hD2⟩:∃D2:Nat→Prop,D2=fun i=>D1 i∨(m≤i∧i<m+5):=⟨_,rfl⟩
  have hC5:=Ext.at hE35 hC3
  have hB5:=Ext.at hE35 hB3
  have q5:zad w5 (some ⟨n+2,0,Option.none⟩)=some wv':=zaa hC5 rfl
  obtain⟨va,vc,rfl,hvc,_⟩:=(hwm _ hw.now).open
  refine go (an2 s5 q5) ?_
  refine rc (an2 s5 q5) (head_ok w5 va wsm.length vc) ?_
  rintro _ w6 ⟨rfl,hE6,hs6,hH6⟩
  refine rgo trivial ?_
  refine zcs (g:=129) (cap:=#[.pointer (some ⟨w5.heap.size,0,Option.none⟩)]) (vq0) rfl (headIt (w0:=w3) (W0:=w6) (n0:=w6.heap.size) (C:=fun i=>i=m∨i=m+1) hH6 (hE35.trans hE6) (hw3.now) (by omega) (fun i hi=>by omega) (by have:=hH.few;omega) hH.short) (Keep.refl _ _) (Nat.le_refl _) (fun i hi=>by omega)
    (fun x A args h=>by rw[h];rfl)
    (fun pre A=>A.heap[m]? =some (.cells #[.int .u32 ((tmH wsm pre).getD 0),.bool (tmH wsm pre).isSome] 81 (0,0))∧A.heap[m+1]? =some (.cells #[vi pre.length] 3 (0,0))∧Keep (fun i=>i=m∨i=m+1) w6 A)
    (fun _ _ _=>False) ?_ (fun _ _ _ _ h _=>h.elim) ?_ ?_ ?_ (fun _ _ _ _ _ _ _ h _=>h.elim)
  · rintro pre A A' ⟨h1,h2,h3⟩ hk
    have lt:=fun {i:Nat} {o:Obj} (h:A.heap[i]? =some o)=>(Array.getElem?_eq_some_iff.1 h).1
    exact⟨(hk.block m (lt h1) (by unfold two;omega)).trans h1,(hk.block (m+1) (lt h2) (by unfold two;omega)).trans h2,h3.own hk fun i hi hs=>by unfold two at hs;omega⟩
  · exact⟨Ext.at hE6 hM5,Ext.at hE6 hN,Keep.refl _ _⟩
  · rintro lp pre ⟨j,dg⟩ suf A args hxs hszA ⟨hM,hN,hkA⟩ rfl
    obtain⟨hj,hjl⟩:=zfl _ _ _ _ _ _ _ hxs
    replace hj:j=pre.length:=by have:j=0+pre.length:=hj;omega
    subst hj
    refine go trivial ?_
    refine⟨rfl,KeepB.refl _ _ _,fun Y hY=>?_⟩
    have hsY:=hY.size
    have lt:=fun {i:Nat} {o:Obj} (h:A.heap[i]? =some o)=>(Array.getElem?_eq_some_iff.1 h).1
    have hMY:=(hY.block m (lt hM) (by unfold two;omega)).trans hM
    have hNY:=(hY.block (m+1) (lt hN) (by unfold two;omega)).trans hN
    have hkY:Keep (fun i=>i=m∨i=m+1) w6 Y:=hkA.own hY fun i hi hs=>by unfold two at hs;omega
    have wN:IntKind.i64.wrap ((pre.length:Int)+1)=((pre.length+1:Nat):Int):=by rw[zcW (by omega) (by have:=hH.few;omega)];push_cast;rfl
    refine go trivial ?_
    refine rq ?_;intro gd K hgd hK
    try simp (disch:=first|omega|assumption|rfl) only[go_sem,wN]
    refine zan (P:=Tryz.prog) rfl rfl rfl hNY (by simp) (by simp) ?_
    intro y1 hy1 hN1 hky1
    try simp only[go_sem]
    refine hK _ _ ?_;clear hK hgd;clear K;try clear gd
    have hM1:=(hky1.block m (by omega) (by omega)).trans hMY
    have htm:tmH wsm (pre++ [(pre.length,dg)])=if dg=true then some ((decP 2147483647 (wdAt wsm pre.length)).1:Int) else tmH wsm pre:=by unfold tmH;rw[List.foldl_append];rfl
    have hln:(((pre++ [(pre.length,dg)]).length:Nat):Int)=((pre.length+1:Nat):Int):=by simp
    cases dg with
    |false=>
      refine go (show(!false)=true from rfl) ?_
      refine⟨⟨by rw[htm];exact hM1,by rw[hln];exact hN1,hkY.own hky1 fun i _ e=> .inr e⟩,hky1.toB (by omega) fun i _ e=> .inr e⟩
    |true=>
      have hgd:=hH.good (pre.length,true) (by rw[hxs];simp) rfl
      have hky:zaT D b w3 y1:=((hE35.trans hE6).mono fun _ _ h=>h.elim).own (hkY.own hky1 fun i _ e=> .inr e) (fun i hi e=>by omega)
      obtain⟨va',vc',hva,hvc',hgg⟩:=(hw3 y1 hky).open
      injection hva with hva1 hva2 hva3
      subst hva1
      obtain⟨cs,g,hcs⟩:=hgg pre.length hjl
      unfold WdC at hcs
      rw[hcs]at g
      have hwd:(wsm[pre.length]).1=wdAt wsm pre.length:=by unfold wdAt;rw[List.getD_eq_getElem?_getD,List.getElem?_eq_getElem hjl];rfl
      rw[hwd]at g
      obtain⟨xa,rfl⟩:=Option.isSome_iff_exists.1 (zaO g)
      obtain⟨xi,hxi⟩:∃xi,adr (some xa) (pre.length*2)=some xi:=⟨_,rfl⟩
      rw[hxi]at g
      have g0:zad y1 (some xi)=some (vs (wdAt wsm pre.length)):=by
        have:=zaR g (j:=0) (by simp)
        rw[zak]at this
        exact this
      have hi0:(0:Int)≤(pre.length:Int):=by omega
      have hi1:(pre.length:Int)<(wsm.length:Int):=by omega
      have hC1:y1.heap[n+2]? =some (.cells #[.slice (some xa) wsm.length vc] 113 (0,0)):=by
        refine((hky1.block (n+2) (by omega) (by omega)).trans ((hkY.block (n+2) (by omega) (by omega)).trans (Ext.at hE6 hC5)))
      have q51:zad y1 (some ⟨n+2,0,Option.none⟩)=some (.slice (some xa) wsm.length vc):=zaa hC1 rfl
      refine go (show(!true)=false from rfl) ?_
      refine rc (an8 s5 q51 hi0 hi1 hxi g0 Int.toNat_natCast zak) (ttl_ok (hX3 (hkw3.trans hky)) (wdAt wsm pre.length) (by have:=hH.short _ (List.getElem_mem hjl);rw[←hwd];omega)) ?_
      rintro _ y2 ⟨rfl,hE2y⟩
      rw[hgd]
      refine rgo (show decide ((0:Int)=0)=true from rfl) ?_
      refine rq ?_;intro gd K hgd hK
      try simp only[go_sem]
      refine Fn.mono (zg7 y2 _) ?_
      rintro _ y3 ⟨rfl,hE3y⟩
      try simp only[go_sem]
      refine zaK (P:=Tryz.prog) (t:=81) (l:=[.int .u32 ((decP 2147483647 (wdAt wsm pre.length)).1:Int),.bool true]) (Ext.at (hE2y.trans hE3y) hM1) rfl (fun v hv=>by simp at hv;rcases hv with rfl|rfl<;>rfl) rfl rfl ?_
      intro y4 hs4y hM4 hk4y
      try simp only[go_sem]
      refine hK _ _ ?_;clear hK hgd;clear K;try clear gd
      refine go trivial ?_
      have hN4:=(hk4y.block (m+1) (by have:=hE2y.size;have:=hE3y.size;omega) (by omega)).trans (Ext.at (hE2y.trans hE3y) hN1)
      have hk14:Keep (fun i=>i=m∨i=m+1) y1 y4:=((hE2y.trans hE3y).mono fun _ _ h=>h.elim).own hk4y fun i _ e=> .inl e
      refine⟨⟨by rw[htm];exact hM4,by rw[hln];exact hN4,(hkY.own hky1 fun i _ e=> .inr e).own hk14 fun i _ e=>e⟩,(hky1.toB (by omega) fun i _ e=> .inr e).trans (hk14.toB (by omega) fun i _ e=>e)⟩
  · rintro z hsz ⟨hMz,hNz,hkz⟩ hdz
    obtain⟨hs,hhs⟩:∃hs,zcc 0 false false wsm=hs:=⟨_,rfl⟩
    have hsl:hs.length≤wsm.length:=by
      rcases List.eq_nil_or_concat hs with e| ⟨p,y,e⟩
      · rw[e];simp
      · rw[List.concat_eq_append]at e
        have:=(zfl wsm 0 false false p y [] (by rw[hhs,e])).2
        rw[e,List.length_append,List.length_singleton];omega
    have hadd:=hH.add
    rw[hhs]at hMz hNz hadd
    have hkz3:zaT D b w3 z:=((hE35.trans hE6).mono fun _ _ h=>h.elim).own hkz (fun i hi e=>by omega)
    have hEz:Ext w3 z:=Keep.to_ext (hE35.trans hE6) rfl (fun i hi=>by omega) hkz
    have hD2z:LdX D2 B z b fs stm:=h3.step hEz fun i hi=>by
      rw[hD2]at hi
      rcases hi with hi|hi
      · exact .inl hi
      · exact .inr ⟨by omega,by omega⟩
    have hDn2:∀i,(n≤i∧i<n+3∨m≤i∧i<m+5)→D2 i:=fun i h=>by
      rw[hD2]
      rcases h with h|h
      · exact .inl (hDn _ h.1 h.2)
      · exact .inr h
    have hnm:n+3≤m:=by omega
    have hCz:z.heap[n+2]? =some (.cells #[.slice va wsm.length vc] 113 (0,0)):=Ext.at hEz hC3
    have hBz:=Ext.at hEz hB3
    have qM:zaq z (some ⟨m,0,Option.none⟩) 2=some [.int .u32 ((tmH wsm hs).getD 0),.bool (tmH wsm hs).isSome]:=zai (n:=2) (l:=[.int .u32 ((tmH wsm hs).getD 0),.bool (tmH wsm hs).isSome]) hMz rfl
    have qC:zad z (some ⟨n+2,0,Option.none⟩)=some (.slice va wsm.length vc):=zaa hCz rfl
    have qN:zad z (some ⟨m+1,0,Option.none⟩)=some (vi hs.length):=zaa hNz rfl
    have i0:(0:Int)≤(hs.length:Int):=by omega
    have i1:(hs.length:Int)≤(wsm.length:Int):=by omega
    have i2:(hs.length:Int)≤(vc:Int):=by omega
    have hrz:=(hw3 z hkz3).drop (m:=hs.length) hsl
    have hll:(wsm.drop hs.length).length≤1000000:=by rw[List.length_drop];have:=hH.few;omega
    repeat refine c_r ?_
    refine zav (Q:=fun e' σ' ds' v'=>e'= .normal∧ds'=[{target:= .collected w6.heap.size,args:=#[]}]∧σ' 4= .pointer (some ⟨n+1,0,Option.none⟩)∧LdX D2 B v' b fs st'∧zaT D b z v'∧zad v' (some ⟨n+1,0,Option.none⟩)=some (vi e)∧v'.heap[w6.heap.size]? =some (.deferred (some []))) ?_ ?_
    · refine zaS (fun i=>i==5||i==6) [(0,true),(1,true),(2,true),(3,true),(4,true),(5,false),(6,false)] NoS mixed (by kernel_rfl) ?_;intro gd K x hgd hx hxe hK;have hx0:=zaP hxe;clear hxe
      have qMx:=zaj hx0 qM
      have qCx:=zab hx0 qC
      have qNx:=zab hx0 qN
      simp (disch:=first|omega|assumption|rfl) only[go_sem,s0,s4,s5,qMx,qCx,qNx,i0,i1,i2,Int.toNat_natCast]
      refine Fn.mono (add_ok (hX3 (hkw3.trans (hkz3.trans (hx0.mono fun _ _ h=>h.elim)))) (hD2z.ext hx0) (hrz.ext hx0) hadd hll) ?_
      rintro _ y1 ⟨rfl,h4,hk4⟩
      refine⟨.inl rfl,?_⟩
      have hszx:z.heap.size≤x.heap.size:=hx0.size
      have hB1:=(hk4.block (n+1) (by omega) fun h=>h.2 (hDn2 _ (by omega))).trans (Ext.at hx0 hBz)
      have hd1:=(hk4.block w6.heap.size (by omega) fun h=>h.2 (hDn2 _ (by omega))).trans (Ext.at hx0 hdz)
      have hs1:=hk4.size
      simp (disch:=first|omega|assumption|rfl) only[go_sem,s4]
      refine zan (P:=Tryz.prog) rfl rfl rfl hB1 (by simp) (by simp) ?_
      intro y2 hs2 hB2 hk2
      refine⟨.inl rfl,?_⟩
      simp (disch:=first|omega|assumption|rfl) only[go_sem]
      refine hK _ _ ?_;clear hK hgd;clear K;try clear gd
      exact⟨rfl,rfl,(vr1 s4),h4.loc (hk2.mono fun i _ e=>by rw[e];exact hDn2 _ (by omega)),((hx0.mono fun _ _ h=>h.elim).trans (hk4.mono fun i _ h=>⟨h.1,fun hd=>h.2 (by rw[hD2,hD1];exact .inl (.inl hd))⟩)).trans (hk2.mono fun i _ e=>⟨by omega,fun hd=>by have:=hDd i hd;omega⟩),zaa hB2 rfl,(hk2.block w6.heap.size (by omega) (by omega)).trans hd1⟩
    rintro _ σ7 _ z2 ⟨rfl,rfl,s4,h7,hk7,q7,hd7⟩
    refine go trivial ?_
    refine zcw (.inr rfl) Tryz.ntmps87 rfl hd7 ?_
    intro z3 hk8 hs8
    have q8:zad z3 (some ⟨n+1,0,Option.none⟩)=some (vi e):=zdt hk8 (fun a ha hb=>by cases ha;dsimp only at hb;omega) q7
    refine⟨_,zb4 ((vr1 s4)) rfl rfl q8 zae,rfl,?_,?_⟩
    · exact(h7.loc (hk8.mono fun i _ e=>by rw[e];exact hDn2 _ (by omega))).step (Keep.refl _ _) fun i hi=> .inl (by rw[hD2,hD1];exact .inl (.inl hi))
    · exact((hkw3.trans hkz3).trans hk7).trans (hk8.mono fun i _ e=>⟨by omega,fun hd=>by have:=hDd i hd;omega⟩)
end
end Go.Proofs.YtihbdhjibplldaaGreatDoor
namespace Go.Proofs.YtihbdhjibplldaaGreatDoor.S_wd
open Go Go.Proofs.YtihbdhjibplldaaGreatDoor
set_option maxRecDepth 10000
theorem Clone_ok{w:World}{v:Value}{L:List (List Value)}(hr:RowK 2 w v L)(hk:∀x∈L,x.length=2)(h1:∀x∈L,∀q∈x,one q=true)(hlen:L.length≤10000000000):
  Fn Tryz.prog 126 #[v] w (fun u w'=>OwnK 2 w.heap.size w' 145 u L∧Ext w w'):=by
 have hr':=hr
 obtain⟨a,c,rfl,hc,hl⟩:=hr
 refine enter Tryz.func126 Tryz.ntmps126 rfl rfl ?_
 repeat refine c_r ?_
 refine rg0 ?_
 repeat refine c_r ?_
 refine rq ?_;intro gd K hgd hK
 try simp only[go_sem]
 refine zjt (by rfl) (by rfl) (by rfl) ?_
 try simp only[go_sem]
 refine hK _ _ ?_;clear hK hgd;clear K;try clear gd
 repeat refine c_r ?_
 cases a with
 |none=>
  have:L=[]:=by
   cases L with
   |nil=>rfl
   |cons x L=>have:=hl 0 (by simp);simp[zaq,adr]at this
  subst this
  refine wc0 ?_ ?_
  ·intro _
   repeat refine c_r ?_
   refine rg0 ?_
   repeat refine c_r ?_
   refine rt0 Tryz.ntmps126 ?_
   exact⟨OwnK.nil _ _ _ _,Keep.refl _ _⟩
  ·intro h;cases h
 |some a=>
  refine wc0 ?_ ?_
  ·intro h;cases h
  intro _
  repeat refine c_r ?_
  refine rq ?_;intro gd K hgd hK
  try simp only[go_sem]
  refine bs_nilK (k:=2) (by rfl) (by rfl) (by rfl) (by rfl) ?_
  intro w1 hE1 hs1 ho1
  try simp only[go_sem]
  refine ziV (k:=2) (B:=w.heap.size) ho1 (hr'.ext hE1) (by rfl) (by rfl) (by rfl) (by rfl) (by rfl) (by rfl) (by decide) (by rfl) (by rfl) hk h1 (by simpa using by omega) (by decide) (by omega) ?_
  intro v' w2 ho2 hE2 _ _ _
  try simp only[go_sem]
  refine hK _ _ ?_;clear hK hgd;clear K;try clear gd
  repeat refine c_r ?_
  refine rt0 Tryz.ntmps126 ?_
  exact⟨by simpa using ho2,hE2 w hE1 (Nat.le_refl _)⟩
end Go.Proofs.YtihbdhjibplldaaGreatDoor.S_wd
namespace Go.Proofs.YtihbdhjibplldaaGreatDoor
open Go
set_option maxRecDepth 10000
theorem zch{k:Nat}{α:Type}{C:List Value→α→Prop}{w:World}{a:Option Addr}{n c:Nat}{xs:List α}(h:Rows k C w (.slice a n c) xs):n=xs.length∧n≤c∧∀i (hi:i<xs.length),∃cs,zaq w (adr a (i*k)) k=some cs∧C cs xs[i]:=by
 obtain⟨a',c',hv,hc,hg⟩:=h.open
 injection hv with h1 h2 h3
 subst h1 h3
 exact⟨h2,by omega,hg⟩
theorem bare1_ok(w:World)(x:Lab×Bool):Fn Tryz.prog 139 #[.agg #[vs x.1,.bool x.2]] w (fun v w'=>v= .bool x.2∧Ext w w'):=by
 refine enter Tryz.func139 Tryz.ntmps139 rfl rfl ?_
 refine go trivial ?_
 refine zam ?_
 intro w1 hE1 hs1 hA
 have q1:zad w1 (some ⟨w.heap.size,1,Option.none⟩)=some (.bool x.2):=zaa hA rfl
 refine go (an2 q1 Nat.zero_add) ?_
 refine rt0 Tryz.ntmps139 ?_
 exact⟨rfl,hE1⟩
theorem zeQ{w:World}{lv:Value}{ws:List (Lab×Bool)}(h:Rows 2 WdC w lv ws)(hl:ws.length≤1000000)(hb:∀x∈ws,x.2=false):Fn Tryz.prog 121 #[lv] w (fun v w'=>v=vi 0∧Ext w w'):=by
 obtain⟨a,c,rfl,hc,hg⟩:=h.open
 refine enter Tryz.func121 Tryz.ntmps121 rfl rfl ?_
 refine go trivial ?_
 have hix:ixB (fun _=>false) ws.length= -1:=zhl fun _ _=>rfl
 refine rc trivial (zj6 (a:=a) (n:=ws.length) (c:=c) (q:=fun _=>false) (N:=139) (by rfl) (by omega) (fun i hi=>?_)) ?_
 ·obtain⟨cs,g,hcs⟩:=hg i hi
  unfold WdC at hcs
  refine⟨cs,g,fun v hv=>?_⟩
  have:=bare1_ok v ws[i]
  rw[hb _ (List.getElem_mem hi)]at this
  rw[hcs,hb _ (List.getElem_mem hi)]
  exact this
 rintro _ w1 ⟨rfl,hE1⟩
 refine rgo (show decide (0≤ixB (fun _=>false) ws.length)=false from by rw[hix];rfl) ?_
 refine rt0 Tryz.ntmps121 ?_
 exact⟨rfl,hE1⟩
def zb6(p:Lab):List (Lab×Lab)→Lab×Bool
 | []=>([],false)
 |f::fs=>if f.1=p then(f.2,true) else zb6 p fs
theorem findL_ix(p:Lab)(fs:List (Lab×Lab)):(∃i,∃h:i<fs.length,ixB (fun i=>decide ((fs.getD i ([],[])).1=p)) fs.length=(i:Int)∧zb6 p fs=(fs[i].2,true))∨(ixB (fun i=>decide ((fs.getD i ([],[])).1=p)) fs.length= -1∧zb6 p fs=([],false)):=by
 have key:∀(gs:List (Lab×Lab)),(∃i,∃h:i<gs.length,gs[i].1=p∧(∀j,(hj:j<i)→¬gs[j].1=p)∧zb6 p gs=(gs[i].2,true))∨((∀g∈gs,¬g.1=p)∧zb6 p gs=([],false)):=by
  intro gs
  induction gs with
  |nil=>exact .inr ⟨(fun _ h=>by cases h),rfl⟩
  |cons f gs ih=>
   by_cases hf:f.1=p
   ·exact .inl ⟨0,by simp,hf,(fun j hj=>by omega),by rw[zb6,if_pos hf];rfl⟩
   ·rcases ih with ⟨i,hi,h1,h2,h3⟩| ⟨h1,h2⟩
    ·refine .inl ⟨i+1,by simpa using hi,h1,fun j hj=>?_,by rw[zb6,if_neg hf,h3];rfl⟩
     cases j with
     |zero=>exact hf
     |succ j=>exact h2 j (by omega)
    ·refine .inr ⟨fun g hg=>?_,by rw[zb6,if_neg hf,h2]⟩
     rcases List.mem_cons.1 hg with rfl|hg
     ·exact hf
     ·exact h1 g hg
 have gd:∀i (h:i<fs.length),fs.getD i ([],[])=fs[i]:=fun i h=>by rw[List.getD_eq_getElem?_getD,List.getElem?_eq_getElem h];rfl
 rcases key fs with ⟨i,hi,h1,h2,h3⟩| ⟨h1,h2⟩
 ·exact .inl ⟨i,hi,zjg hi (by rw[gd i hi];exact decide_eq_true h1) (fun j hj=>by rw[gd j (by omega)];exact decide_eq_false (h2 j hj)),h3⟩
 ·exact .inr ⟨zhl fun j hj=>by rw[gd j hj];exact decide_eq_false (h1 _ (List.getElem_mem hj)),h2⟩
theorem find1_ok{w:World}{c:Nat}{p:Lab}{x:Lab×Lab}(hb:zad w (some ⟨c,0,Option.none⟩)=some (vs p)):Fn Tryz.prog 40 #[.agg #[vs x.1,vs x.2],.pointer (some ⟨c,0,Option.none⟩)] w (fun v w'=>v= .bool (decide (x.1=p))∧Ext w w'):=by
 refine enter Tryz.func40 Tryz.ntmps40 rfl rfl ?_
 refine go trivial ?_
 refine zam ?_
 intro w1 hE1 hs1 hA
 have q0:zad w1 (some ⟨w.heap.size,0,Option.none⟩)=some (vs x.1):=zaa hA rfl
 refine go (an3 q0 Nat.add_zero (zab hE1 hb)) ?_
 refine rt0 Tryz.ntmps40 ?_
 exact⟨rfl,hE1⟩
theorem zfD{w:World}{fv:Value}{fs:List (Lab×Lab)}(h:Rows 2 zdy w fv fs)(hl:fs.length≤1000000)(p:Lab):Fn Tryz.prog 19 #[fv,vs p] w (fun v w'=>v= .tuple #[vs (zb6 p fs).1,.bool (zb6 p fs).2]∧Ext w w'):=by
 obtain⟨a,c,rfl,hc,hg⟩:=h.open
 refine enter Tryz.func19 Tryz.ntmps19 rfl rfl ?_
 refine go trivial ?_
 refine zam ?_
 intro w1 hE1 hs1 hA
 have q0:zad w1 (some ⟨w.heap.size,0,Option.none⟩)=some (vs p):=zaa hA rfl
 refine go trivial ?_
 refine rc trivial (IxFil_ok (a:=a) (n:=fs.length) (c:=c) (q:=fun i=>decide ((fs.getD i ([],[])).1=p)) (N:=40) (cap:= .pointer (some ⟨w.heap.size,0,Option.none⟩)) (by rfl) (by omega) (fun i hi=>?_)) ?_
 ·obtain⟨cs,g,hcs⟩:=hg i hi
  unfold zdy at hcs
  refine⟨cs,zaj hE1 g,fun v hv=>?_⟩
  have:=find1_ok (x:=fs[i]) (zab hv q0)
  rw[hcs,List.getD_eq_getElem?_getD,List.getElem?_eq_getElem hi]
  exact this
 rintro _ w2 ⟨rfl,hE2⟩
 have hE:=hE1.trans hE2
 rcases findL_ix p fs with ⟨i,hi,h1,h2⟩| ⟨h1,h2⟩
 ·rw[h1,h2]
  obtain⟨cs,g0,hcs⟩:=hg i hi
  unfold zdy at hcs
  subst hcs
  have g:=zaj hE g0
  obtain⟨xa,rfl⟩:=Option.isSome_iff_exists.1 (zaO g)
  obtain⟨xi,hxi⟩:∃xi,adr (some xa) (i*2)=some xi:=⟨_,rfl⟩
  rw[hxi]at g
  obtain⟨x1,hx1⟩:∃x,adr (some xi) 1=some x:=⟨_,rfl⟩
  have g1:zad w2 (some x1)=some (vs fs[i].2):=by
   have:=zaR g (j:=1) (by simp)
   rw[hx1]at this
   exact this
  have hi0:(0:Int)≤(i:Int):=by omega
  have hi1:(i:Int)<(fs.length:Int):=by omega
  refine rgo (an8 (decide_eq_false (show¬(i:Int)<0 by omega)) hi0 hi1 hxi hx1 g1 Int.toNat_natCast trivial) ?_
  refine zaf (.inr rfl) Tryz.ntmps19 rfl (zac (vr0) (zac (vr0) zae)) ?_
  exact⟨rfl,hE⟩
 ·rw[h1,h2]
  refine rgo (show decide ((-1:Int)<0)=true from rfl) ?_
  refine zaf (.inr rfl) Tryz.ntmps19 rfl (zac (vr0) (zac (vr0) zae)) ?_
  exact⟨rfl,hE⟩
def cw(x:Lab×Bool):List Value:=[vs x.1,.bool x.2]
theorem zgy{w:World}{v:Value}{ws:List (Lab×Bool)}:Rows 2 WdC w v ws↔RowK 2 w v (ws.map cw):=by
 constructor
 ·rintro⟨L,h1,h2,h3⟩
  have:L=ws.map cw:=by
   refine List.ext_getElem (by simpa using h2) fun i hi hj=>?_
   rw[List.getElem_map]
   exact h3 i hi (by simpa using hj)
  rw[←this];exact h1
 ·intro h
  exact⟨_,h,by simp,fun i hi hj=>by rw[List.getElem_map];exact rfl⟩
theorem numI_few(a b d:Int):(numI a b d).1.length≤4096:=by
 unfold numI
 split
 ·exact Nat.zero_le _
 ·rename_i h1
  split
  ·exact Nat.zero_le _
  ·rename_i h2
   obtain⟨x,y,z,rfl,rfl,rfl,hxy,hy,hz⟩:=zfM (by simpa using h1)
   have hdv:((y:Int) - (x:Int)) / (z:Int)=(((y - x) / z:Nat):Int):=by rw[Int.natCast_ediv];congr 1;omega
   rw[hdv]at h2
   show(zbV _ _ _).length≤_
   rw[zc6]
   simp only[Int.toNat_natCast]
   omega
def zgp(s:Lab)(n:Int)(out:Lab):Prop:=∀w,WX w→Fn Tryz.prog 127 #[vs s,vi n] w (fun v w'=>v= .tuple #[vs out,vi 0]∧Ext w w')
structure zjY(ws:List (Lab×Bool))(n:Int)(vs':List (Lab×Bool)):Prop where
 len:vs'.length=ws.length
 put:∀i (h:i<ws.length) (h':i<vs'.length),zgp ws[i].1 n vs'[i].1
 flag:∀i (h:i<ws.length) (h':i<vs'.length),vs'[i].2=ws[i].2
inductive GenRun(ws:List (Lab×Bool)):LdS→List Int→LdS→Prop
 |done (st:LdS):GenRun ws st [] st
 |more (st:LdS) (n:Int) (ns:List Int) (o:Lab) (q:Bool) (r:List (Lab×Bool)) (st1 st2:LdS):zjY ws n ((o,q)::r)→o.length≤1000000→(zaI o st.origin).2=0→AddR {st with owner:=some (zaI o st.origin).1} Option.none r 0 st1→GenRun ws st1 ns st2→GenRun ws st (n::ns) st2
theorem cw_set{ws vs':List (Lab×Bool)}{i:Nat}(h:i<ws.length)(h':i<vs'.length)(hf:vs'[i].2=ws[i].2):((vs'.take i++ws.drop i).map cw).set i ((((vs'.take i++ws.drop i).map cw)[i]'(by simp;omega)).set 0 (vs vs'[i].1))=(vs'.take (i+1)++ws.drop (i+1)).map cw:=by
 have e1:vs'.take i++ws.drop i=vs'.take i++ws[i]::ws.drop (i+1):=by rw[List.drop_eq_getElem_cons h]
 have hl:(vs'.take i).length=i:=by rw[List.length_take];omega
 have e2:((vs'.take i++ws.drop i).map cw)[i]'(by simp;omega)=cw ws[i]:=by
  rw[List.getElem_map]
  congr 1
  rw[List.getElem_append_right (by omega)]
  simp[hl]
 rw[e2,e1,List.map_append,List.map_cons,List.set_append_right _ _ (by rw[List.length_map,hl];exact Nat.le_refl _)]
 rw[show i - ((vs'.take i).map cw).length=0 by rw[List.length_map,hl,Nat.sub_self],List.set_cons_zero]
 rw[show (cw ws[i]).set 0 (vs vs'[i].1)=cw vs'[i] by unfold cw;rw[hf];rfl]
 rw[zal h',List.map_append,List.map_append,List.append_assoc]
 rfl
section
variable {D : Nat → Prop} {B b : Nat} {w x : World} {fs : Value → World → Prop} {st : LdS} {fv ov rv orv owv : Value} {G : List (RecL × List Value)}
theorem zgJ{W0:World}(hX:WX W0)(hE0:Ext W0 w)(hb0:W0.heap.size≤b)(h:LdX D B w b fs st){wv:Value}{r:Lab}{ws:List (Lab×Bool)}{st':LdS}(hw:Hz (fun i=>b≤i∧¬D i) w (fun X=>Rows 2 WdC X wv ((r,false)::ws)))
  {a c d:Nat} {ns:List Int} (hra:zbc r=((a,c,d),0)) (hnu:numI a c d=(ns,0)) (hrun:GenRun ws st ns st') (hrl:r.length≤1000000) (hl3:3≤ws.length) (hl:ws.length≤1000) (hb1:∀x∈ws.take 2,x.2=false) (hd:d≤9223372036854775807):
  Fn Tryz.prog 108 #[.pointer (some ⟨b,0,Option.none⟩),wv] w (fun v w'=>v=vi 0∧LdX D B w' b fs st'∧zaT D b w w'):=by
 obtain⟨wa,wc,rfl,hcap,hwg⟩:=hw.now.open
 have hbl:=h.lt
 have hDd:=h.dd
 have hX3:∀{X:World},zaT D b w X→WX X:=fun hk=>hX.ext (Keep.to_ext hE0 rfl (fun i hi=>by omega) hk)
 obtain⟨xa,rfl,x1,hx1,c0,hcut,hdr⟩:∃xa,wa=some xa∧∃x1:Addr,adr (some xa) 1=some x1∧zad w (some xa)=some (vs r)∧Rows 2 WdC w (.slice wa 3 wc) (((r,false)::ws).take 3)∧∀X,Rows 2 WdC X (.slice wa ((r,false)::ws).length wc) ((r,false)::ws)→Rows 2 WdC X (.slice (if wc=1 then wa else adr wa (1*2)) (((r,false)::ws).length - 1) (wc - 1)) ws:=by
  obtain⟨xa,cc,he,hc,c0,x1,hx1,c1⟩:=row1 hw.now
  injection he with he1 he2 he3
  subst he1
  refine⟨xa,rfl,x1,hx1,c0,?_,fun X h=>h.drop (m:=1) (by simp)⟩
  exact hw.now.take (by rw[List.length_cons];omega) (by rw[List.length_cons]at hcap;omega)
 have d4:decide (((((r,false)::ws).length:Nat):Int)<4)=false:=decide_eq_false (by rw[List.length_cons];omega)
 have l3:(3:Int)≤(wc:Int):=by rw[List.length_cons]at hcap;omega
 have t3:(3:Int).toNat=3:=rfl
 have z3:(0:Int)≤3:=by decide
 have z0:(0:Int)≤0:=by decide
 have l1:(0:Int)<((((r,false)::ws).length:Nat):Int):=by rw[List.length_cons];omega
 refine enter Tryz.func108 Tryz.ntmps108 rfl rfl ?_
 refine go trivial ?_
 refine rcg [(3,15)] (an9 d4 l3 t3 z3 Nat.sub_zero Nat.zero_mul zak (show(if wc=0 then some xa else some xa)=some xa from by split<;>rfl) trivial) (zeQ hcut (by rw[List.length_take];omega) (fun x hx=>?_)) ?_
 ·rcases List.mem_cons.1 (show x∈(r,false)::ws.take 2 from hx) with rfl|hx
  ·rfl
  ·exact hb1 x hx
 rintro _ w1 ⟨rfl,hE1⟩
 refine reg [(3,15)] (an2 d4 trivial) ?_
 refine go trivial ?_
 have c0':=zab hE1 c0
 refine rq ?_;intro gd K hgd hK
 try simp (disch:=first|omega|assumption|rfl) only[go_sem,z0,l1,Int.toNat_zero,Nat.zero_mul,zak,c0']
 refine Fn.mono (Parse_ok (hX3 (hE1.mono fun _ _ h=>h.elim)) r hrl) ?_
 rintro _ w2 ⟨rfl,hE2⟩
 rw[hra]
 try simp only[go_sem]
 refine zbj (P:=Tryz.prog) (l:=[vi a,vi c,vi d]) rfl (fun v hv=>by simp at hv;rcases hv with rfl|rfl|rfl<;>rfl) rfl rfl ?_
 intro w3 hE3 hs3 hA3
 try simp only[go_sem]
 refine hK _ _ ?_;clear hK hgd;clear K;try clear gd
 have hE03:=((hE1.trans hE2).trans hE3)
 refine go (show decide ((0:Int)=0)=true from rfl) ?_
 have q3:=zai (n:=3) (l:=[vi a,vi c,vi d]) hA3 rfl
 refine rc q3 (zgV w3 a c d (by omega)) ?_
 rintro _ w4 ⟨lv,rfl,hrn,hE4,hlv⟩
 rw[hnu]at hrn ⊢
 obtain⟨na,nc,rfl,hnc,hng⟩:=hrn
 simp only[List.length_map]at hng hnc hlv ⊢
 have hE04:=hE03.trans hE4
 have hs04:=hE04.size
 have hs03:=hE03.size
 have hnsl:ns.length≤4096:=by have:=numI_few a c d;rw[hnu]at this;exact this
 obtain⟨D1,hD1⟩:∃D1:Nat→Prop,D1=fun i=>D i∨(w.heap.size≤i∧i<w4.heap.size):=⟨_,rfl⟩
 have h4:LdX D1 B w4 b fs st:=h.step hE04 (fun i hi=>by rw[hD1]at hi;exact hi)
 have hKL:∀{X Y:World},zaT D1 b X Y→zaT D b X Y:=fun hk=>hk.mono fun i _ h=>⟨h.1,fun hd=>h.2 (by rw[hD1];exact .inl hd)⟩
 have hkw4:zaT D b w w4:=hE04.mono fun _ _ h=>h.elim
 have l2:(1:Int)≤((((r,false)::ws).length:Nat):Int):=by rw[List.length_cons];omega
 have l4:(1:Int)≤(wc:Int):=by rw[List.length_cons]at hcap;omega
 have z1:(0:Int)≤1:=by decide
 have t1:(1:Int).toNat=1:=rfl
 refine rgo (show decide ((0:Int)=0)=true from rfl) ?_
 refine zbq ns.length (fun i σ v=>(σ 0= .pointer (some ⟨b,0,Option.none⟩)∧σ 1= .slice (some xa) ((r,false)::ws).length wc∧σ 40= .slice na ns.length nc∧σ 41=vi ns.length∧σ 42=vi i)∧∃sti,LdX D1 B v b fs sti∧GenRun ws sti (ns.drop i) st'∧zaT D1 b w4 v) ?_ ?_ ?_
 ·exact⟨⟨vr0,vr0,vr0,vr0,vr0⟩,st,h4,hrun,Keep.refl _ _⟩
 ·rintro i σ v hi rr ⟨⟨s0,s1,s40,s41,s42⟩,sti,hv,hgr,hkv⟩
  rw[List.drop_eq_getElem_cons hi]at hgr
  obtain⟨n,hn⟩:∃n,ns[i]=n:=⟨_,rfl⟩
  have g0:=hng i (by simpa using hi)
  rw[List.getElem_map,hn]at g0
  rw[hn]at hgr
  have g:zad v (adr na i)=some (vi n):=zdt hkv (fun y hy hb=>by
   cases na with
   |none=>cases hy
   |some z=>
    have:=hlv z _ _ rfl
    have e:y.block=z.block:=by injection hy with hy;rw[←hy];exact zbK z i
    exact hb.2 (by rw[hD1,e];exact .inr (by omega))) g0
  cases hgr with
  |more _ _ _ o q rest st1 _ hput hol ho0 hadd hgr=>
   obtain⟨vs',hvs⟩:∃l,(o,q)::rest=l:=⟨_,rfl⟩
   rw[hvs]at hput
   have hkwv:=hkw4.trans (hKL hkv)
   have hrv:=hdr v (hw v hkwv)
   obtain⟨xn,rfl⟩:=Option.isSome_iff_exists.1 (zap g)
   obtain⟨xi,hxi⟩:∃xi,adr (some xn) (i*1)=some xi:=⟨_,rfl⟩
   have hi0:(0:Int)≤(i:Int):=by omega
   have hi1:(i:Int)<(ns.length:Int):=by omega
   have hi2:(i:Int)+1=((i+1:Nat):Int):=by push_cast;rfl
   have hsv:=hkv.size
   refine go (an9 s0 s1 s40 s41 s42 (show adr (some xn) (i*1)=adr (some xn) i by rw[Nat.mul_one]) g (an3 hi0 hi1 Int.toNat_natCast) rr) ?_
   refine rc (an5 s1 l2 l4 z1 t1) (S_wd.Clone_ok (zgy.1 hrv) (fun x hx=>?_) (fun x hx=>?_) (by rw[List.length_map];omega)) ?_
   ·obtain⟨y,_,rfl⟩:=List.mem_map.1 hx;rfl
   ·obtain⟨y,_,rfl⟩:=List.mem_map.1 hx;intro z hz;simp[cw]at hz;rcases hz with rfl|rfl<;>rfl
   rintro u v1 ⟨hu,hE1v⟩
   have hs1v:=hE1v.size
   have hwl:(ws.map cw).length=ws.length:=List.length_map ..
   obtain⟨p,cap,rfl,hpv,hcp,hcm,hSD⟩:∃p cap,u= .slice (some ⟨p,0,Option.none⟩) ws.length cap∧v.heap.size≤p∧ws.length≤cap∧cap≤maxLen∧SD 2 v1 p 145 cap (ws.map cw):=by
    rcases hu.cases with ⟨_,e⟩| ⟨p,cap,e,h1,h2,h3,h4⟩
    ·have:ws.length=0:=by rw[←hwl,e];rfl
     omega
    ·rw[hwl]at e h2
     exact⟨p,cap,e,h1,h2,h3,h4⟩
   have hvl:=hput.len
   refine rgo trivial ?_
   refine zav (Q:=fun e' σ' ds' v'=>e'= .exit 2∧ds'=[]∧(σ' 0= .pointer (some ⟨b,0,Option.none⟩)∧σ' 1= .slice (some xa) ((r,false)::ws).length wc∧σ' 40= .slice (some xn) ns.length nc∧σ' 41=vi ns.length∧σ' 42=vi i∧σ' 10= .slice (some ⟨p,0,Option.none⟩) ws.length cap)∧SD 2 v' p 145 cap (vs'.map cw)∧Ext v v') ?_ ?_
   ·refine zbq ws.length (fun j σ v'=>(σ 0= .pointer (some ⟨b,0,Option.none⟩)∧σ 1= .slice (some xa) ((r,false)::ws).length wc∧σ 40= .slice (some xn) ns.length nc∧σ 41=vi ns.length∧σ 42=vi i∧σ 10= .slice (some ⟨p,0,Option.none⟩) ws.length cap∧σ 9=vi n∧σ 50=vi ws.length∧σ 51=vi j)∧SD 2 v' p 145 cap ((vs'.take j++ws.drop j).map cw)∧Ext v v') ?_ ?_ ?_
    ·exact⟨⟨(vr1 s0),(vr1 s1),(vr1 s40),(vr1 s41),(vr1 s42),vr0,vr0,vr0,vr0⟩,by simpa using hSD,hE1v⟩
    ·rintro j σ1 v2 hj r1 ⟨⟨s0,s1,s40,s41,s42,s10,s9,s50,s51⟩,hSD2,hE2v⟩
     have hjv:j<vs'.length:=by omega
     obtain⟨y,hy⟩:∃y,ws[j]=y:=⟨_,rfl⟩
     obtain⟨y',hy'⟩:∃y,vs'[j]=y:=⟨_,rfl⟩
     have hP:=hput.put j hj hjv
     rw[hy,hy']at hP
     have hDl:j<((vs'.take j++ws.drop j).map cw).length:=by simp;omega
     have gj:=hSD2.get hDl
     have eDj:((vs'.take j++ws.drop j).map cw)[j]=cw y:=by
      rw[List.getElem_map]
      congr 1
      rw[List.getElem_append_right (by rw[List.length_take];omega),List.getElem_drop,←hy]
      congr 1
      rw[List.length_take];omega
     rw[eDj]at gj
     have gj0:zad v2 (some ⟨p,j*2,Option.none⟩)=some (vs y.1):=by
      have:=zaR gj (j:=0) (by simp[cw])
      rw[zak]at this
      exact this
     have j0:(0:Int)≤(j:Int):=by omega
     have j1:(j:Int)<(ws.length:Int):=by omega
     have j2:(j:Int)+1=((j+1:Nat):Int):=by push_cast;rfl
     have aj:adr (some (⟨p,0,Option.none⟩:Addr)) (j*2)=some ⟨p,j*2,Option.none⟩:=by rw[zaZ,Nat.zero_add]
     refine go (an9 s0 s1 s40 s41 s42 s10 s9 s50 (an2 s51 r1)) ?_
     refine rq ?_;intro gd K hgd hK
     try simp (disch:=first|omega|assumption|rfl) only[go_sem,s9,s10,j0,j1,aj,gj0,Nat.add_zero,Int.toNat_natCast]
     refine Fn.mono (hP v2 (hX3 (hkwv.trans (hE2v.mono fun _ _ h=>h.elim)))) ?_
     rintro _ v2' ⟨rfl,hE2'⟩
     try simp (disch:=first|omega|assumption|rfl) only[go_sem,s10,s9,j0,j1,aj,Nat.add_zero,Int.toNat_natCast]
     refine SD.setAt (P:=Tryz.prog) (t:=9) (hSD2.ext hE2') (j:=j) (i:=0) hDl (by decide) rfl rfl rfl ?_
     intro v3 hs3v hSD3 hk3v
     try simp only[go_sem]
     refine hK _ _ ?_;clear hK hgd;clear K;try clear gd
     refine go (an9 s0 s1 s40 s41 s42 s10 s9 s50 (an4 s51 (show decide ((0:Int)=0)=true from rfl) j2 r1)) ?_
     have hset:=cw_set hj hjv (hput.flag j hj hjv)
     rw[hy']at hset
     rw[hset]at hSD3
     exact⟨rfl,⟨(vq1 s0),(vq1 s1),(vq1 s40),(vq1 s41),(vq1 s42),(vq1 s10),(vq1 s9),(vq1 s50),(vq1 j2)⟩,hSD3,Keep.to_ext (hE2v.trans hE2') rfl (fun i hi=>by omega) hk3v⟩
    ·rintro σ1 v2 r1 ⟨⟨s0,s1,s40,s41,s42,s10,s9,s50,s51⟩,hSD2,hE2v⟩
     refine go (an9 s0 s1 s40 s41 s42 s10 s50 s51 r1) ?_
     rw[List.drop_length,List.append_nil,List.take_of_length_le (by omega)]at hSD2
     exact⟨rfl,rfl,⟨(vr1 s0),(vr1 s1),(vr1 s40),(vr1 s41),(vr1 s42),(vr1 s10)⟩,hSD2,hE2v⟩
   rintro _ σ2 _ v3 ⟨rfl,rfl,⟨s0,s1,s40,s41,s42,s10⟩,hSD3,hE3v⟩
   have hs3v:=hE3v.size
   have hpl:=hSD3.lt
   obtain⟨D2,hD2⟩:∃D2:Nat→Prop,D2=fun i=>D1 i∨(v.heap.size≤i∧i<v3.heap.size):=⟨_,rfl⟩
   have h3:LdX D2 B v3 b fs sti:=hv.step hE3v (fun i hi=>by rw[hD2]at hi;exact hi)
   have hp2:D2 p:=by rw[hD2];exact .inr ⟨hpv,hpl⟩
   have hvl':vs'.length=ws.length:=hvl
   have hrows:Rows 2 WdC v3 (.slice (some ⟨p,0,Option.none⟩) ws.length cap) vs':=by
    have:=(OwnK.of_sd hSD3 hpv (by rw[List.length_map];omega) hcm).rowK
    rw[List.length_map,hvl']at this
    exact zgy.2 this
   rw[←hvs]at hrows
   obtain⟨xa',c',he',hc',cc0,x1',hx1',cc1⟩:=row1 hrows
   injection he' with he1 he2 he3
   injection he1 with he1
   subst he1 he3
   have hl0:(0:Int)<(ws.length:Int):=by omega
   have hl1':(1:Int)≤(ws.length:Int):=by omega
   have hl2:(1:Int)≤(cap:Int):=by omega
   have hf:ownF sti o={sti with owner:=some (zaI o sti.origin).1}:=if_pos ho0
   refine go trivial ?_
   refine rc (an9 s0 s10 z0 hl0 Int.toNat_zero Nat.zero_mul zak cc0 trivial) (ziN h3 o (by omega)) ?_
   rintro _ v4 ⟨rfl,h4v,hk4v⟩
   rw[hf]at h4v
   rw[ho0]
   refine rgo (show decide ((0:Int)=0)=true from rfl) ?_
   have hrows4:Rows 2 WdC v4 (.slice (some ⟨p,0,Option.none⟩) ws.length cap) ((o,q)::rest):=by
    have:=(OwnK.of_sd (hSD3.keep hk4v (fun h=>h.2 hp2)) hpv (by rw[List.length_map];omega) hcm).rowK
    rw[List.length_map,hvl',←hvs]at this
    exact zgy.2 this
   have hrl2:rest.length≤1000000:=by have:=congrArg List.length hvs;rw[List.length_cons]at this;omega
   have hrd:=hrows4.drop (m:=1) (by omega)
   have hkw4v:zaT D b v v4:=(hE3v.mono fun _ _ h=>h.elim).trans (hk4v.mono fun i _ h=>⟨h.1,fun hd=>h.2 (by rw[hD2,hD1];exact .inl (.inl hd))⟩)
   refine rq ?_;intro gd K hgd hK
   try simp (disch:=first|omega|assumption|rfl) only[go_sem,s0,s10,hl1',hl2,z1,t1]
   refine⟨by kernel_rfl,?_⟩
   rw[show bdV Tryz.prog 81 []=some (tmV Option.none) from by kernel_rfl]
   try simp (disch:=first|omega|assumption|rfl) only[go_sem,s0,s10,hl1',hl2,z1,t1]
   refine Fn.mono (add_ok (hX3 (hkwv.trans hkw4v)) h4v hrd hadd hrl2) ?_
   rintro _ v5 ⟨rfl,h5v,hk5v⟩
   try simp only[go_sem]
   refine hK _ _ ?_;clear hK hgd;clear K;try clear gd
   refine go (an8 s0 s1 s40 s41 s42 (show decide ((0:Int)=0)=true from rfl) hi2 rr) ?_
   refine⟨rfl,⟨(vq1 s0),(vq1 s1),(vq1 s40),(vq1 s41),(vq1 hi2)⟩,_,h5v.step (Keep.refl _ _) (fun i hi=> .inl (by rw[hD2];exact .inl hi)),hgr,hkv.trans ((hE3v.mono fun _ _ h=>h.elim).trans ((hk4v.trans hk5v).mono fun i _ h=>⟨h.1,fun hd=>h.2 (by rw[hD2];exact .inl hd)⟩))⟩
 ·rintro σ v rr ⟨⟨s0,s1,s40,s41,s42⟩,sti,hv,hgr,hkv⟩
  rw[List.drop_length]at hgr
  cases hgr
  refine go (an6 s0 s1 s40 s41 s42 rr) ?_
  refine rt0 Tryz.ntmps108 ?_
  exact⟨rfl,hv.step (Keep.refl _ _) (fun i hi=> .inl (by rw[hD1];exact .inl hi)),hkw4.trans (hKL hkv)⟩
end
theorem zeZ{w:World}{v:Value}{ps:List Lab}(h:Row w v (ps.map vs)):∃a c,v= .slice a ps.length c∧ps.length≤c∧∀i (hi:i<ps.length),∃x,a=some x∧zad w (adr (some x) i)=some (vs ps[i]):=by
 obtain⟨a,c,rfl,hc,hg⟩:=h
 refine⟨a,c,by rw[List.length_map],by simpa using hc,fun i hi=>?_⟩
 have g:=hg i (by rw[List.length_map];exact hi)
 rw[List.getElem_map]at g
 obtain⟨x,rfl⟩:=Option.isSome_iff_exists.1 (zap g)
 exact⟨x,rfl,g⟩
theorem zj4{w:World}{lv:Value}{l:List Lab}{n:Lab}(hl:Row w lv (l.map vs))(hlen:l.length≤1000000000):
  Fn Tryz.prog 144 #[lv,vs n] w (fun v w'=>(∃k,v=vi k∧decide (k≥0)=decide (n∈l))∧w'=w):=by
 obtain⟨a,c,rfl,_,hga⟩:=zeZ hl
 refine enter Tryz.func144 Tryz.ntmps144 rfl rfl ?_
 refine go trivial ?_
 refine zbq l.length (fun i σ v=>(σ 8=vi i∧σ 7=vi l.length∧σ 0= .slice a l.length c∧σ 1=vs n)∧v=w∧n∉l.take i) ?_ ?_ ?_
 ·exact⟨⟨vr0,vr0,vq0,vq0⟩,rfl,by simp⟩
 ·rintro i σ v hi r ⟨s,rfl,ht⟩
  obtain⟨x1,rfl,g1⟩:=hga i hi
  by_cases h:n=l[i]
  ·refine go (an4 s r g1 (decide_eq_true h)) ?_
   refine rt0 Tryz.ntmps144 ?_
   exact⟨⟨(i:Int),rfl,by rw[decide_eq_true (show(i:Int)≥0 by omega),decide_eq_true (h▸List.getElem_mem hi)]⟩,rfl⟩
  ·refine go (an4 s r g1 (decide_eq_false h)) ?_
   refine⟨rfl,sc (an2 s r),rfl,fun hm=>?_⟩
   rw[zal hi]at hm
   rcases List.mem_append.1 hm with hm|hm
   ·exact ht hm
   ·exact h (List.mem_singleton.1 hm)
 ·rintro σ v r ⟨s,rfl,ht⟩
  rw[List.take_length]at ht
  refine go (an2 s r) ?_
  refine rt0 Tryz.ntmps144 ?_
  exact⟨⟨-1,rfl,by rw[decide_eq_false ht];rfl⟩,rfl⟩
theorem zgw{w:World}{lv:Value}{l:List Lab}{n:Lab}(hl:Row w lv (l.map vs))(hlen:l.length≤1000000000):
  Fn Tryz.prog 123 #[lv,vs n] w (fun v w'=>v= .bool (decide (n∈l))∧w'=w):=by
 obtain⟨a,c,rfl,_⟩:=id (zeZ hl)
 refine enter Tryz.func123 Tryz.ntmps123 rfl rfl ?_
 refine go trivial ?_
 refine rc trivial (zj4 (n:=n) hl hlen) ?_
 rintro _ _ ⟨⟨k,rfl,hk⟩,rfl⟩
 refine rgo hk ?_
 refine rt0 Tryz.ntmps123 ?_
 exact⟨rfl,rfl⟩
def OutAt(b:Nat)(w:World)(v:Value):Option FltL→Prop
 |Option.none=>v= .pointer Option.none
 |some f=>∃p,p≠b∧v= .pointer (some ⟨p,0,Option.none⟩)∧w.heap[p]? =some (.cells #[vs f.path,vi f.line,vi f.err] 59 (0,0))
theorem OutAt.keep{b:Nat}{w x:World}{v:Value}{o:Option FltL}(h:OutAt b w v o)(hk:Keep (fun i=>i=b) w x):OutAt b x v o:=by
 cases o with
 |none=>exact h
 |some f=>
  obtain⟨p,h1,h2,h3⟩:=h
  exact⟨p,h1,h2,(hk.block p (Array.getElem?_eq_some_iff.1 h3).1 h1).trans h3⟩
def fltE(st:LdS)(e:Int):Option FltL:=if e=0 then Option.none else some ⟨st.path,st.line,e⟩
def FlOk(W0:World)(B b:Nat)(fl:List (Lab×Lab))(inc:LdS→Lab→Option FltL→LdS→Prop):Prop:=∀(D:Nat→Prop) (w:World) (fs:Value→World→Prop) (st:LdS) (p:Lab) (o:Option FltL) (st':LdS),(∀v X,fs v X→Rows 2 zdy X v fl)→Ext W0 w→LdX D B w b fs st→inc st p o st'→
 Fn Tryz.prog 33 #[.pointer (some ⟨b,0,Option.none⟩),vs p] w (fun v w'=>OutAt b w' v o∧LdX D B w' b fs st'∧zaT D b w w')
inductive IncIs(fl:List (Lab×Lab))(inc:LdS→Lab→Option FltL→LdS→Prop)(st:LdS)(p:Lab)(o:Nm):Option FltL→LdS→Prop
 |ring:(zb6 p fl).2=true→p∈st.reads→IncIs fl inc st p o (fltE st 9) st
 |deep:(zb6 p fl).2=true→p∉st.reads→8<st.reads.length→IncIs fl inc st p o (fltE st 10) st
 |read (out:Option FltL) (st1:LdS):(zb6 p fl).2=true→p∉st.reads→st.reads.length≤8→0≤st.many→st.many<64→inc {st with many:=st.many+1,origin:=o} p out st1→IncIs fl inc st p o out {st with out:=st1.out,reads:=st1.reads,many:=st1.many}
inductive AskIs(fl:List (Lab×Lab))(inc:LdS→Lab→Option FltL→LdS→Prop)(st:LdS):List (Lab×Bool)→Option FltL→LdS→Prop
 |one (p:Lab) (q:Bool) (out:Option FltL) (st':LdS):IncIs fl inc st p st.origin out st'→AskIs fl inc st [(p,q)] out st'
 |bad (p s:Lab) (q:Bool):s.length≤1000000→¬(zaI s st.origin).2=0→AskIs fl inc st [(p,q),(s,false)] (fltE st (zaI s st.origin).2) st
 |two (p s:Lab) (q:Bool) (out:Option FltL) (st':LdS):s.length≤1000000→(zaI s st.origin).2=0→NmT (zaI s st.origin).1→IncIs fl inc st p (zaI s st.origin).1 out st'→AskIs fl inc st [(p,q),(s,false)] out st'
section
variable {D : Nat → Prop} {B b : Nat} {w x : World} {fs : Value → World → Prop} {st : LdS} {fv ov rv orv owv : Value} {G : List (RecL × List Value)}
theorem zcl{e:Int}{p:Value}(h:LdX D B w b fs st)(hp:p= .pointer (some ⟨b,0,Option.none⟩)):Fn Tryz.prog 86 #[p,vi e] w (fun v w'=>OutAt b w' v (fltE st e)∧Ext w w'):=by
 subst hp
 by_cases he:e=0
 ·subst he
  refine Fn.mono (fault_no w _) ?_
  rintro _ w' ⟨rfl,hw⟩
  rw[hw]
  exact⟨rfl,Keep.refl _ _⟩
 ·refine Fn.mono (fault_ok h he) ?_
  rintro _ w' ⟨hE,p,rfl,hp⟩
  unfold fltE
  rw[if_neg he]
  refine⟨⟨p,fun e=>?_,rfl,hp⟩,hE⟩
  obtain⟨fv,ov,rv,orv,owv,G,h⟩:=h.ext hE
  have:=h.h
  rw[e]at hp
  rw[hp]at this
  injection this with this
  injection this with h1
  have:=congrArg Array.size h1
  exact absurd this (by show¬(3:Nat)=13;decide)
def OwR(X:World)(v:Value):Option Nm→Prop
 |some n=>Row X v (n.map vs)
 |Option.none=>v= .slice Option.none 0 0
theorem ownR{M:Nat→Prop}{w:World}{v:Value}{o:Option Nm}:OwnerZ M w v o↔Hz M w (fun X=>OwR X v o):=by
 cases o with
 |none=>exact⟨fun h _ _=>h,fun h=>h.now⟩
 |some n=>exact Iff.rfl
theorem LX.to{fs':Value→World→Prop}(h:LX D B w b fs st fv ov rv orv owv G)(hf:∀v X,fs v X→fs' v X):LX D B w b fs' st fv ov rv orv owv G:={h with ff:=fun X hX=>hf _ _ (h.ff X hX)}
theorem ask_len{fl:List (Lab×Lab)}{inc:LdS→Lab→Option FltL→LdS→Prop}{ws:List (Lab×Bool)}{out:Option FltL}{st':LdS}(h:AskIs fl inc st ws out st'):1≤ws.length∧ws.length≤2∧∀x∈ws.drop 1,x.2=false:=by
 cases h with
 |one p q _ _ _=>exact⟨by simp,by simp,fun x hx=>by cases hx⟩
 |bad p s q _ _=>exact⟨by simp,by simp,fun x hx=>by rw[List.mem_singleton.1 hx]⟩
 |two p s q _ _ _ _ _ _=>exact⟨by simp,by simp,fun x hx=>by rw[List.mem_singleton.1 hx]⟩
theorem zhT{W0:World}(hX:WX W0)(hE0:Ext W0 w)(hb0:W0.heap.size≤b)(h:LdX D B w b fs st){fl:List (Lab×Lab)}{inc:LdS→Lab→Option FltL→LdS→Prop}{wv:Value}{ws:List (Lab×Bool)}{out:Option FltL}{st':LdS}(hF:∀v X,fs v X→Rows 2 zdy X v fl)(hfl:fl.length≤1000000)(hrl:st.reads.length≤1000)(hw':Hz (fun i=>b≤i∧¬D i) w (fun X=>Rows 2 WdC X wv ws))(hq:AskIs fl inc st ws out st')(hc:FlOk W0 B b fl inc):
  Fn Tryz.prog 107 #[.pointer (some ⟨b,0,Option.none⟩),wv] w (fun v w'=>OutAt b w' v out∧LdX D B w' b fs st'∧zaT D b w w'):=by
 have hw:=hw'.now
 obtain⟨hn1,hn2,hnb⟩:=ask_len hq
 obtain⟨n,hn⟩:∃n,ws.length=n:=⟨_,rfl⟩
 have hb1:=h.lt
 have hDd:=h.dd
 obtain⟨fv,ov,rv,orv,owv,G,h⟩:=h
 have hbB:=h.lt
 have hBw:=h.le
 obtain⟨p,q,rest,rfl⟩:∃p q rest,ws=(p,q)::rest:=by
  cases ws with
  |nil=>simp at hn1
  |cons x r=>exact⟨x.1,x.2,r,rfl⟩
 obtain⟨xa,wc,rfl,hcap,c0,x1,hx1,c1⟩:=row1 hw
 have hdr:=hw.drop (m:=1) (by simp)
 rw[List.length_cons]at hn
 rw[hn]at hdr hcap hw hw' ⊢
 have hDb:¬D b:=fun hd=>by have:=hDd b hd;omega
 rw[List.drop_one,List.tail_cons]at hdr hnb
 have hn1:1≤n:=by omega
 have hn2:n≤2:=by rw[List.length_cons]at hn2;omega
 have z0:(0:Int)≤0:=by decide
 have z1:(0:Int)≤1:=by decide
 have t1:(1:Int).toNat=1:=rfl
 have l0:(0:Int)<(n:Int):=by omega
 have l1:(1:Int)≤(n:Int):=by omega
 have l2:(1:Int)≤(wc:Int):=by omega
 have d1:decide ((n:Int)<1)=false:=decide_eq_false (by omega)
 have d2:decide ((2:Int)<(n:Int))=false:=decide_eq_false (by omega)
 refine enter Tryz.func107 Tryz.ntmps107 rfl rfl ?_
 refine go trivial ?_
 refine rcg [(3,15),(8,20)] (an6 d1 d2 l1 l2 z1 t1) (zeQ hdr (by omega) hnb) ?_
 rintro _ w1 ⟨rfl,hE1⟩
 refine reg [(3,15),(8,20)] (an2 d1 d2) ?_
 have h1:=h.ext hE1
 have q9:zaq w1 (some ⟨b,4,Option.none⟩) 9=some [vs st.path,vi st.line,orv,owv,.bool st.owner.isSome,.int .u32 (st.ttl.getD 0),.bool st.ttl.isSome,.int .u32 (st.last.getD 0),.bool st.last.isSome]:=by
  have h13:=zai (n:=13) h1.h rfl
  have:=zcC (m:=4) (k:=9) h13
  rw[zaZ]at this
  exact this
 have hone:∀v∈([vs st.path,vi st.line,orv,owv,.bool st.owner.isSome,.int .u32 (st.ttl.getD 0),.bool st.ttl.isSome,.int .u32 (st.last.getD 0),.bool st.last.isSome]:List Value),one v=true:=fun v hv=>by
  simp only[List.mem_cons,List.not_mem_nil,or_false]at hv
  rcases hv with rfl|rfl|rfl|rfl|rfl|rfl|rfl|rfl|rfl
  ·rfl
  ·rfl
  ·exact h.fo.now.isOne
  ·exact h.fw.one
  all_goals rfl
 refine go trivial ?_
 refine rq ?_;intro gd K hgd hK
 try simp (disch:=first|omega|assumption|rfl) only[go_sem,q9]
 refine zbj (P:=Tryz.prog) (l:=[vs st.path,vi st.line,orv,owv,.bool st.owner.isSome,.int .u32 (st.ttl.getD 0),.bool st.ttl.isSome,.int .u32 (st.last.getD 0),.bool st.last.isSome]) rfl hone rfl rfl ?_
 intro w2 hE2 hs2 hA
 try simp only[go_sem]
 refine hK _ _ ?_;clear hK hgd;clear K;try clear gd
 obtain⟨A,hAe⟩:∃A,w1.heap.size=A:=⟨_,rfl⟩
 rw[hAe]at hA hs2 ⊢
 have hs1:=hE1.size
 have hE02:=hE1.trans hE2
 obtain⟨D1,hD1⟩:∃D1:Nat→Prop,D1=fun i=>D i∨i=A:=⟨_,rfl⟩
 have hKL:∀{X Y:World},zaT D1 b X Y→zaT D b X Y:=fun hk=>hk.mono fun i _ h=>⟨h.1,fun hd=>h.2 (by rw[hD1];exact .inl hd)⟩
 have hAD:D1 A:=by rw[hD1];exact .inr rfl
 have h2:LX D1 B w2 b fs st fv ov rv orv owv G:=h.step hE02 (fun i hi=>by rw[hD1]at hi;rcases hi with hi|hi;exact .inl hi;exact .inr (by omega))
 have q2:zad w2 (some ⟨A,2,Option.none⟩)=some orv:=zaa hA rfl
 have hbad:∀{X:World},Ext w2 X→LdX D B X b fs st∧zaT D b w X:=fun hE=>⟨⟨_,_,_,_,_,_,(h.ext hE02).ext hE⟩,(hE02.trans hE).mono fun _ _ h=>h.elim⟩
 refine go (an2 q2 Nat.zero_add) ?_
 refine zav (Q:=fun e' σ' ds' v'=>ds'=[]∧Ext w2 v'∧((e'= .ret∧OutAt b v' (σ' 4) out∧st'=st)∨
  (e'= .normal∧∃o orow,(σ' 0= .pointer (some ⟨b,0,Option.none⟩)∧σ' 1= .slice (some xa) n wc∧σ' 5= .pointer (some ⟨A,0,Option.none⟩)∧σ' 6=orow)∧NmT o∧Hz (MutL D1 b ov rv) v' (fun X=>Row X orow (o.map vs))∧IncIs fl inc st p o out st'))) ?_ ?_
 ·cases hq with
  |one _ _ _ _ hi=>
   obtain rfl:n=1:=by simp at hn;omega
   refine go (show decide (((1:Nat):Int)=2)=false from rfl) ?_
   exact⟨rfl,Keep.refl _ _,.inr ⟨rfl,st.origin,orv,⟨vr0,vr0,vr0,vr0⟩,h.ot,h2.fo,hi⟩⟩
  |bad _ s _ hsl he=>
   obtain rfl:n=2:=by simp at hn;omega
   obtain⟨cs,g0,hcs⟩:=(zch hw).2.2 1 (by simp)
   unfold WdC at hcs
   rw[hcs]at g0
   obtain⟨x2,hx2⟩:∃x2,adr (some xa) (1*2)=some x2:=⟨_,rfl⟩
   have g1:zad w2 (some x2)=some (vs s):=by
    have:=zaR (zaj hE02 g0) (j:=0) (by simp)
    rw[zak,hx2]at this
    exact this
   refine go (show decide (((2:Nat):Int)=2)=true from rfl) ?_
   refine rc (an8 z1 (show(1:Int)<((2:Nat):Int) by decide) t1 (Nat.one_mul 2) hx2 zak g1 (Nat.add_zero 0)) (zct w2 s orv st.origin (by omega) h2.fo.now h2.ot) ?_
   rintro _ w3 ⟨hE3,nv,rfl,hr,hk⟩
   refine rgo (decide_eq_false he) ?_
   refine rc trivial (zcl (st:=st) ⟨_,_,_,_,_,_,h2.ext hE3⟩ rfl) ?_
   rintro fv' w4 ⟨ho4,hE4⟩
   refine rgo trivial ?_
   exact⟨rfl,hE3.trans hE4,.inl ⟨rfl,ho4,rfl⟩⟩
  |two _ s _ _ _ hsl he hnt hi=>
   obtain rfl:n=2:=by simp at hn;omega
   obtain⟨cs,g0,hcs⟩:=(zch hw).2.2 1 (by simp)
   unfold WdC at hcs
   rw[hcs]at g0
   obtain⟨x2,hx2⟩:∃x2,adr (some xa) (1*2)=some x2:=⟨_,rfl⟩
   have g1:zad w2 (some x2)=some (vs s):=by
    have:=zaR (zaj hE02 g0) (j:=0) (by simp)
    rw[zak,hx2]at this
    exact this
   refine go (show decide (((2:Nat):Int)=2)=true from rfl) ?_
   refine rc (an8 z1 (show(1:Int)<((2:Nat):Int) by decide) t1 (Nat.one_mul 2) hx2 zak g1 (Nat.add_zero 0)) (zct w2 s orv st.origin (by omega) h2.fo.now h2.ot) ?_
   rintro _ w3 ⟨hE3,nv,rfl,hr,hk⟩
   rw[he]
   refine rgo (show decide ((0:Int)=0)=true from rfl) ?_
   exact⟨rfl,hE3,.inr ⟨rfl,_,nv,⟨vr0,vr0,vr0,vr0⟩,hnt,ziD hr hk (fun i hi=>(h2.mut i hi).2),hi⟩⟩
 rintro e' σ3 _ w3 ⟨rfl,hE3,(⟨rfl,ho3,rfl⟩| ⟨rfl,o,orow,⟨s0,s1,s5,s6⟩,hnt,hor,hi⟩)⟩
 ·repeat refine c_r ?_
  refine rt0 Tryz.ntmps107 ?_
  exact⟨ho3,hbad hE3⟩
 have h3:=h2.ext hE3
 have hE03:=hE02.trans hE3
 have k0:zad w3 (some ⟨b,0,Option.none⟩)=some fv:=zaa h3.h rfl
 have c03:=zab hE03 c0
 have hff:=hF fv w3 h3.ff.now
 have hfound:(zb6 p fl).2=true:=by cases hi<;>assumption
 refine go trivial ?_
 repeat refine c_r ?_
 refine zav (Q:=fun e' σ' ds' v'=>e'= .normal∧ds'=[]∧(σ' 0= .pointer (some ⟨b,0,Option.none⟩)∧σ' 1= .slice (some xa) n wc∧σ' 5= .pointer (some ⟨A,0,Option.none⟩)∧σ' 6=orow∧σ' 10= .bool true)∧Ext w3 v') ?_ ?_
 ·refine zaS (fun _=>false) [(0,true),(1,true),(2,true),(3,true),(4,true),(5,true),(6,true),(7,true),(8,false),(9,true),(10,true),(11,true),(12,true),(13,true)] NoS mixed (by kernel_rfl) ?_;intro gd K x hgd hx hxe hK;have hx0:=zaP hxe;clear hxe
  have k0x:=zab hx0 k0
  have c0x:=zab hx0 c03
  simp (disch:=first|omega|assumption|rfl) only[go_sem,s0,s1,k0x,c0x,z0,l0,Int.toNat_zero,Nat.zero_mul,zak]
  refine Fn.mono (zfD (hF fv x (h3.ext hx0).ff.now) hfl p) ?_
  rintro _ y1 ⟨rfl,hy1⟩
  refine⟨.inr hy1,?_⟩
  rw[hfound]
  simp (disch:=first|omega|assumption|rfl) only[go_sem]
  refine hK _ _ ?_;clear hK hgd;clear K;try clear gd
  exact⟨rfl,rfl,⟨(vr1 s0),(vr1 s1),(vr1 s5),(vr1 s6),vr0⟩,hx0.trans hy1⟩
 rintro _ σ4 _ w4 ⟨rfl,rfl,⟨s0,s1,s5,s6,s10⟩,hE4⟩
 have h4:=h3.ext hE4
 have hE04:=hE03.trans hE4
 have k2:zad w4 (some ⟨b,2,Option.none⟩)=some rv:=zaa h4.h rfl
 have c04:=zab hE4 c03
 refine go (an2 s10 Bool.not_true) ?_
 repeat refine c_r ?_
 refine zav (Q:=fun e' σ' ds' v'=>e'= .normal∧ds'=[]∧(σ' 0= .pointer (some ⟨b,0,Option.none⟩)∧σ' 1= .slice (some xa) n wc∧σ' 5= .pointer (some ⟨A,0,Option.none⟩)∧σ' 6=orow∧σ' 69= .bool (decide (p∈st.reads)))∧Ext w4 v') ?_ ?_
 ·refine zaS (fun _=>false) [(0,true),(1,true),(2,true),(3,true),(4,true),(5,true),(6,true),(7,true),(8,false),(9,true)] NoS mixed (by kernel_rfl) ?_;intro gd K x hgd hx hxe hK;have hx0:=zaP hxe;clear hxe
  have k2x:=zab hx0 k2
  have c0x:=zab hx0 c04
  simp (disch:=first|omega|assumption|rfl) only[go_sem,s0,s1,k2x,c0x,z0,l0,Int.toNat_zero,Nat.zero_mul,zak]
  refine Fn.mono (zgw (n:=p) (h4.ext hx0).ow.row (by omega)) ?_
  rintro _ v' ⟨rfl,hv'⟩
  rw[hv']
  clear hv' v'
  refine⟨.inr (Keep.refl _ _),?_⟩
  simp (disch:=first|omega|assumption|rfl) only[go_sem]
  refine hK _ _ ?_;clear hK hgd;clear K;try clear gd
  exact⟨rfl,rfl,⟨(vr1 s0),(vr1 s1),(vr1 s5),(vr1 s6),vr0⟩,hx0⟩
 rintro _ σ5 _ w5 ⟨rfl,rfl,⟨s0,s1,s5,s6,s69⟩,hE5⟩
 have h5:=h4.ext hE5
 have hE25:Ext w2 w5:=(hE3.trans hE4).trans hE5
 have c05:=zab hE5 c04
 have hA5:=Ext.at hE25 hA
 have k25:zad w5 (some ⟨b,2,Option.none⟩)=some rv:=zaa h5.h rfl
 have k35:zad w5 (some ⟨b,3,Option.none⟩)=some (vi st.many):=zaa h5.h rfl
 obtain⟨ra,rc',rfl,hrc⟩:∃ra rc',rv= .slice ra st.reads.length rc'∧True:=by
  obtain⟨a,c,e,_⟩:=zeZ h5.ow.row
  exact⟨a,c,e,trivial⟩
 cases hi with
 |ring hf hm=>
  refine go (an2 s69 (decide_eq_true hm)) ?_
  refine rc s0 (zcl (st:=st) ⟨_,_,_,_,_,_,h5⟩ rfl) ?_
  rintro fv' w6 ⟨ho6,hE6⟩
  refine rgo trivial ?_
  refine rt0 Tryz.ntmps107 ?_
  exact⟨ho6,hbad (hE25.trans hE6)⟩
 |deep hf hm hr8=>
  refine go (an6 s0 s69 (decide_eq_false hm) k25 Nat.zero_add (decide_eq_true (show(8:Int)<(st.reads.length:Int) by omega))) ?_
  refine rc s0 (zcl (st:=st) ⟨_,_,_,_,_,_,h5⟩ rfl) ?_
  rintro fv' w6 ⟨ho6,hE6⟩
  refine rgo trivial ?_
  refine rt0 Tryz.ntmps107 ?_
  exact⟨ho6,hbad (hE25.trans hE6)⟩
 |read _ st1 hf hm hr8 hm0 hm64 hinc=>
  have wm:IntKind.i64.wrap (st.many+1)=st.many+1:=zcW (by omega) (by omega)
  refine go (an7 s0 s69 (decide_eq_false hm) k25 Nat.zero_add (decide_eq_false (show¬(8:Int)<(st.reads.length:Int) by omega)) (an2 k35 (decide_eq_false (show¬(64:Int)≤st.many by omega)))) ?_
  have hor5:Hz (MutL D1 b ov (.slice ra st.reads.length rc')) w5 (fun X=>Row X orow (o.map vs)):=Hz.app hor (hE4.trans hE5) (fun _ _ h=>h.elim) (fun _ _ h=>h)
  have h1or:one orow=true:=hor5.now.isOne
  refine rq ?_;intro gd K hgd hK
  try simp (disch:=first|omega|assumption|rfl) only[go_sem,s0,k35,wm,Nat.zero_add]
  refine zan (P:=Tryz.prog) rfl rfl rfl h5.h (by show(3:Nat)<13;decide) (by simp) ?_
  intro w6 hs6 hb6 hk6
  try simp only[go_sem]
  refine hK _ _ ?_;clear hK hgd;clear K;try clear gd
  have h6:LX D1 B w6 b fs {st with many:=st.many+1} fv ov _ orv owv G:=LX.turn h5 (st':={st with many:=st.many+1}) hk6 hb6 rfl rfl h5.fo h5.fw h5.ot
  have hor6:Hz (MutL D1 b ov (.slice ra st.reads.length rc')) w6 (fun X=>Row X orow (o.map vs)):=Hz.app hor5 hk6 (fun i _ e=> .inl e) (fun _ _ h=>h)
  refine go trivial ?_
  refine rq ?_;intro gd K hgd hK
  try simp (disch:=first|omega|assumption|rfl) only[go_sem,s0,s6,Nat.zero_add]
  refine zan (P:=Tryz.prog) rfl rfl h1or h6.h (by show(6:Nat)<13;decide) (by simp) ?_
  intro w7 hs7 hb7 hk7
  try simp only[go_sem]
  refine hK _ _ ?_;clear hK hgd;clear K;try clear gd
  have h7:LX D1 B w7 b fs {st with many:=st.many+1,origin:=o} fv ov _ orow owv G:=LX.turn h6 (st':={st with many:=st.many+1,origin:=o}) hk7 hb7 rfl rfl hor6 h6.fw hnt
  have hkb:Keep (fun i=>i=b) w5 w7:=hk6.trans hk7
  have hfo5:Hz (MutL D1 b ov (.slice ra st.reads.length rc')) w7 (fun X=>Row X orv (st.origin.map vs)):=Hz.app h5.fo hkb (fun i _ e=> .inl e) (fun _ _ h=>h)
  have hfw5:Hz (MutL D1 b ov (.slice ra st.reads.length rc')) w7 (fun X=>OwR X owv st.owner):=Hz.app (ownR.1 h5.fw) hkb (fun i _ e=> .inl e) (fun _ _ h=>h)
  have h7':LX D1 B w7 b (fun v X=>fs v X∧Row X orv (st.origin.map vs)∧OwR X owv st.owner) {st with many:=st.many+1,origin:=o} fv ov _ orow owv G:={h7 with ff:=fun X hX=>⟨h7.ff X hX,hfo5 X hX,hfw5 X hX⟩}
  have hAb:¬A=b:=by have:=hbB;omega
  have hA7:=(hkb.block A (by have:=hE25.size;omega) hAb).trans hA5
  have hkw7:zaT D b w w7:=((hE04.trans hE5).mono fun _ _ h=>h.elim).trans (hkb.mono fun i _ e=>⟨by omega,by rw[e];exact hDb⟩)
  have c07:zad w7 (some xa)=some (vs p):=by
   obtain⟨xa',_,e',_,c0',_⟩:=row1 (hw' w7 hkw7)
   injection e' with e1
   rw[e1];exact c0'
  have hE07:Ext W0 w7:=Keep.to_ext (hE0.trans (hE04.trans hE5)) rfl (fun i hi=>by omega) hkb
  refine go trivial ?_
  refine rc (an7 s0 s1 z0 l0 Int.toNat_zero Nat.zero_mul (an2 zak c07)) (hc D1 w7 _ _ p out st1 (fun v X h=>hF v X h.1) hE07 ⟨_,_,_,_,_,_,h7'⟩ hinc) ?_
  rintro fv' w8 ⟨ho8,h8,hk8⟩
  obtain⟨fv8,ov8,rv8,orv8,owv8,G8,h8⟩:=h8
  have hA8:=(hk8.block A (by have:=hE25.size;have:=hkb.size;omega) fun h=>h.2 hAD).trans hA7
  have q8:zaq w8 (some ⟨A,0,Option.none⟩) 9=some [vs st.path,vi st.line,orv,owv,.bool st.owner.isSome,.int .u32 (st.ttl.getD 0),.bool st.ttl.isSome,.int .u32 (st.last.getD 0),.bool st.last.isSome]:=zai (n:=9) (l:=[vs st.path,vi st.line,orv,owv,.bool st.owner.isSome,.int .u32 (st.ttl.getD 0),.bool st.ttl.isSome,.int .u32 (st.last.getD 0),.bool st.last.isSome]) hA8 rfl
  refine rgo trivial ?_
  refine rq ?_;intro gd K hgd hK
  try simp (disch:=first|omega|assumption|rfl) only[go_sem,s0,s5,q8,Nat.zero_add]
  refine zdj (P:=Tryz.prog) [fv8,ov8,rv8,vi st1.many] [vs st1.path,vi st1.line,orv8,owv8,.bool st1.owner.isSome,.int .u32 (st1.ttl.getD 0),.bool st1.ttl.isSome,.int .u32 (st1.last.getD 0),.bool st1.last.isSome] (B:=[]) (l:=[vs st.path,vi st.line,orv,owv,.bool st.owner.isSome,.int .u32 (st.ttl.getD 0),.bool st.ttl.isSome,.int .u32 (st.last.getD 0),.bool st.last.isSome]) h8.h rfl hone rfl rfl ?_
  intro w9 hs9 hb9 hk9
  try simp only[go_sem]
  refine hK _ _ ?_;clear hK hgd;clear K;try clear gd
  have h9:LX D1 B w9 b _ {st with out:=st1.out,reads:=st1.reads,many:=st1.many} fv8 ov8 rv8 orv owv G8:=LX.turn h8 (st':={st with out:=st1.out,reads:=st1.reads,many:=st1.many}) hk9 hb9 rfl rfl (fun X hX=>(h8.ff X hX).2.1) (ownR.2 fun X hX=>(h8.ff X hX).2.2) h5.ot
  refine go trivial ?_
  refine rt0 Tryz.ntmps107 ?_
  refine⟨?_,⟨_,_,_,_,_,_,(h9.to fun v X h=>h.1).step (Keep.refl _ _) fun i hi=> .inl (by rw[hD1];exact .inl hi)⟩,?_⟩
  ·exact ho8.keep hk9
  ·exact(hkw7.trans (hKL hk8)).trans (hk9.mono fun i _ e=>⟨by omega,by rw[e];exact hDb⟩)
end
abbrev wInc:Lab:=[36,73,78,67,76,85,68,69]
abbrev wGen:Lab:=[36,71,69,78,69,82,65,84,69]
abbrev wOrg:Lab:=[36,79,82,73,71,73,78]
abbrev wTtl:Lab:=[36,84,84,76]
inductive DirIs(fl:List (Lab×Lab))(inc:LdS→Lab→Option FltL→LdS→Prop)(st:LdS):List (Lab×Bool)→Option FltL→LdS→Prop
 |incl (ws:List (Lab×Bool)) (out:Option FltL) (st':LdS):AskIs fl inc st ws out st'→DirIs fl inc st ((wInc,false)::ws) out st'
 |gen (r:Lab) (ws:List (Lab×Bool)) (a c d:Nat) (ns:List Int) (st':LdS):zbc r=((a,c,d),0)→numI a c d=(ns,0)→GenRun ws st ns st'→r.length≤1000000→3≤ws.length→ws.length≤1000→(∀x∈ws.take 2,x.2=false)→d≤9223372036854775807→DirIs fl inc st ((wGen,false)::(r,false)::ws) Option.none st'
 |ttl (s:Lab):s.length≤1000000000→DirIs fl inc st [(wTtl,false),(s,false)] (fltE st (decP 2147483647 s).2) (if (decP 2147483647 s).2=0 then{st with ttl:=some ((decP 2147483647 s).1:Int)} else st)
 |other (t:Lab) (ws:List (Lab×Bool)):[36].isPrefixOf t=true→t≠wInc→t≠wGen→t≠wOrg→t≠wTtl→DirIs fl inc st ((t,false)::ws) (fltE st 4) st
inductive EntIs(fl:List (Lab×Lab))(inc:LdS→Lab→Option FltL→LdS→Prop)(st:LdS):EntL→Option FltL→LdS→Prop
 |blank (ln:Int) (t:Lab) (q:Bool) (ws:List (Lab×Bool)) (e:Int) (st':LdS):ws.length<100000→RecR st true ((t,q)::ws) e st'→EntIs fl inc st ⟨ln,true,(t,q)::ws⟩ (fltE st' e) st'
 |rcd (ln:Int) (t:Lab) (ws:List (Lab×Bool)) (e:Int) (st':LdS):ws.length<100000→[36].isPrefixOf t=false→RecR st false ((t,false)::ws) e st'→EntIs fl inc st ⟨ln,false,(t,false)::ws⟩ (fltE st' e) st'
 |dir (ln:Int) (t:Lab) (ws:List (Lab×Bool)) (out:Option FltL) (st':LdS):[36].isPrefixOf t=true→DirIs fl inc st ((t,false)::ws) out st'→EntIs fl inc st ⟨ln,false,(t,false)::ws⟩ out st'
section
variable {D : Nat → Prop} {B b : Nat} {w x : World} {fs : Value → World → Prop} {st : LdS} {fv ov rv orv owv : Value} {G : List (RecL × List Value)}
theorem zgg{W0:World}(hX:WX W0)(hE0:Ext W0 w)(hb0:W0.heap.size≤b)(h:LdX D B w b fs st){fl:List (Lab×Lab)}{inc:LdS→Lab→Option FltL→LdS→Prop}{wv:Value}{ws:List (Lab×Bool)}{out:Option FltL}{st':LdS}(hF:∀v X,fs v X→Rows 2 zdy X v fl)(hfl:fl.length≤1000000)(hrl:st.reads.length≤1000)(hw:Hz (fun i=>b≤i∧¬D i) w (fun X=>Rows 2 WdC X wv ws))(hq:DirIs fl inc st ws out st')(hc:FlOk W0 B b fl inc):
  Fn Tryz.prog 85 #[.pointer (some ⟨b,0,Option.none⟩),wv] w (fun v w'=>OutAt b w' v out∧LdX D B w' b fs st'∧zaT D b w w'):=by
 have hX1:∀{X:World},Ext w X→WX X:=fun hE=>hX.ext (hE0.trans hE)
 have z0:(0:Int)≤0:=by decide
 have z1:(0:Int)≤1:=by decide
 have t1:(1:Int).toNat=1:=rfl
 obtain⟨t,r,rfl⟩:∃t r,ws=(t,false)::r:=by cases hq<;>exact⟨_,_,rfl⟩
 obtain⟨xa,c,rfl,hcc,c0,x1,hx1,c1⟩:=row1 hw.now
 have l0:(0:Int)<((r.length+1:Nat):Int):=by omega
 have l1:(1:Int)≤((r.length+1:Nat):Int):=by omega
 have l2:(1:Int)≤(c:Int):=by omega
 have hdr:Hz (fun i=>b≤i∧¬D i) w (fun X=>Rows 2 WdC X (.slice (if c=1 then some xa else adr (some xa) (1*2)) (r.length+1 - 1) (c - 1)) r):=fun X hX=>(hw X hX).drop (m:=1) (by omega)
 refine enter Tryz.func85 Tryz.ntmps85 rfl rfl ?_
 refine go trivial ?_
 refine go (an7 z0 l0 Int.toNat_zero Nat.zero_mul zak c0 trivial) ?_
 cases hq with
 |incl _ _ _ hq=>
  refine go (show decide (wInc=([36,73,78,67,76,85,68,69]:Lab))=true from rfl) ?_
  refine rc (an4 l1 l2 z1 t1) (zhT hX hE0 hb0 h hF hfl hrl hdr hq hc) ?_
  rintro u w1 ⟨ho,h1,hk1⟩
  refine rgo trivial ?_
  refine rt0 Tryz.ntmps85 ?_
  exact⟨ho,h1,hk1⟩
 |gen rg r2 a cc d ns _ hr hn hg hl1 hl3 hl4 hb1 hd=>
  refine go (an2 (show decide (wGen=([36,73,78,67,76,85,68,69]:Lab))=false from rfl) (show decide (wGen=([36,71,69,78,69,82,65,84,69]:Lab))=true from rfl)) ?_
  refine rc (an4 l1 l2 z1 t1) (zgJ hX hE0 hb0 h hdr hr hn hg hl1 hl3 hl4 hb1 hd) ?_
  rintro _ w1 ⟨rfl,h1,hk1⟩
  refine rgo trivial ?_
  refine rc trivial (zcl (st:=st') h1 rfl) ?_
  rintro u w2 ⟨ho,hE2⟩
  refine rgo trivial ?_
  refine rt0 Tryz.ntmps85 ?_
  exact⟨ho,h1.ext hE2,hk1.trans (hE2.mono fun _ _ h=>h.elim)⟩
 |ttl s hs=>
  obtain⟨cs,g0,hcs⟩:=(zch hw.now).2.2 1 (by simp)
  unfold WdC at hcs
  rw[hcs]at g0
  obtain⟨x2,hx2⟩:∃x2,adr (some xa) (1*2)=some x2:=⟨_,rfl⟩
  rw[hx2]at g0
  have g1:zad w (some x2)=some (vs s):=by
   have:=zaR g0 (j:=0) (by simp)
   rw[zak]at this
   exact this
  obtain⟨x3,hx3⟩:∃x3,adr (some x2) 1=some x3:=⟨_,rfl⟩
  have g2:zad w (some x3)=some (.bool false):=by
   have:=zaR g0 (j:=1) (by simp)
   rw[hx3]at this
   exact this
  obtain⟨m,hm⟩:∃m,([(s,false)]:List (Lab×Bool)).length+1=m:=⟨_,rfl⟩
  have hm2:m=2:=by rw[←hm];rfl
  rw[hm]
  have d2:decide ((m:Int)=2)=true:=decide_eq_true (by omega)
  have l3:(1:Int)<(m:Int):=by omega
  refine go (an4 (show decide (wTtl=wInc)=false from rfl) (show decide (wTtl=wGen)=false from rfl) (show decide (wTtl=wOrg)=false from rfl) (show decide (wTtl=wTtl)=true from rfl)) ?_
  refine rgg [(3,28)] (an9 d2 l3 z1 t1 hx2 (Nat.one_mul 2) hx3 g2 Bool.not_false) ?_
  refine go trivial ?_
  repeat refine c_r ?_
  refine zav (Q:=fun e' σ' ds' v'=>e'= .normal∧ds'=[]∧(σ' 0= .pointer (some ⟨b,0,Option.none⟩)∧σ' 5=vi (decP 2147483647 s).2)∧LdX D B v' b fs (if (decP 2147483647 s).2=0 then{st with ttl:=some ((decP 2147483647 s).1:Int)} else st)∧zaT D b w v') ?_ ?_
  ·refine zaS (fun i=>i==9) [(0,true),(1,true),(2,true),(3,true),(4,true),(5,true),(6,true),(7,true),(8,true),(9,false),(10,true)] NoS mixed (by kernel_rfl) ?_;intro gd K x hgd hx hxe hK;have hx0:=zaP hxe;clear hxe
   have c0x:=zab hx0 c0
   have g1x:=zab hx0 g1
   simp (disch:=first|omega|assumption|rfl) only[go_sem,c0x,g1x,z0,z1,l3,t1,hx2,Nat.one_mul,Int.toNat_zero,Nat.zero_mul,zak]
   refine Fn.mono (ziy (hX1 hx0) (h.ext hx0) s hs) ?_
   rintro _ y1 ⟨rfl,h1,hk1⟩
   refine⟨.inl rfl,?_⟩
   simp (disch:=first|omega|assumption|rfl) only[go_sem]
   refine hK _ _ ?_;clear hK hgd;clear K;try clear gd
   exact⟨rfl,rfl,⟨vr0,vr0⟩,h1,(hx0.mono fun _ _ h=>h.elim).trans hk1⟩
  rintro _ σ2 _ w2 ⟨rfl,rfl,⟨s0,s5⟩,h2,hk2⟩
  obtain⟨st1,hst1⟩:∃x,(if (decP 2147483647 s).2=0 then{st with ttl:=some ((decP 2147483647 s).1:Int)} else st)=x:=⟨_,rfl⟩
  rw[hst1]at h2 ⊢
  have hfl2:fltE st (decP 2147483647 s).2=fltE st1 (decP 2147483647 s).2:=by rw[←hst1];unfold fltE;split<;>rfl
  rw[hfl2]
  refine go trivial ?_
  refine rc (an2 s0 s5) (zcl (st:=st1) h2 rfl) ?_
  rintro u w3 ⟨ho,hE3⟩
  refine rgo trivial ?_
  refine rt0 Tryz.ntmps85 ?_
  exact⟨ho,h2.ext hE3,hk2.trans (hE3.mono fun _ _ h=>h.elim)⟩
 |other _ _ hp n1 n2 n3 n4=>
  refine go (an4 (decide_eq_false n1) (decide_eq_false n2) (decide_eq_false n3) (decide_eq_false n4)) ?_
  refine rc trivial (zcl (st:=st) h rfl) ?_
  rintro u w2 ⟨ho,hE2⟩
  refine rgo trivial ?_
  refine rt0 Tryz.ntmps85 ?_
  exact⟨ho,h.ext hE2,hE2.mono fun _ _ h=>h.elim⟩
theorem zhu{W0:World}(hX:WX W0)(hE0:Ext W0 w)(hb0:W0.heap.size≤b)(h:LdX D B w b fs st){fl:List (Lab×Lab)}{inc:LdS→Lab→Option FltL→LdS→Prop}{wv:Value}{en:EntL}{out:Option FltL}{st':LdS}(hF:∀v X,fs v X→Rows 2 zdy X v fl)(hfl:fl.length≤1000000)(hrl:st.reads.length≤1000)(hw:Hz (fun i=>b≤i∧¬D i) w (fun X=>Rows 2 WdC X wv en.words))(hq:EntIs fl inc st en out st')(hc:FlOk W0 B b fl inc):
  Fn Tryz.prog 60 #[.pointer (some ⟨b,0,Option.none⟩),.agg #[vi en.line,.bool en.blank,wv]] w (fun v w'=>OutAt b w' v out∧LdX D B w' b fs st'∧zaT D b w w'):=by
 have z0:(0:Int)≤0:=by decide
 obtain⟨t,q,r,hr⟩:∃t q r,en.words=(t,q)::r:=by cases hq<;>exact⟨_,_,_,rfl⟩
 rw[hr]at hw
 obtain⟨xa,c,rfl,hcc,c0,x1,hx1,c1⟩:=row1 hw.now
 have l0:(0:Int)<((r.length+1:Nat):Int):=by omega
 have g0:zaq w (some xa) 2=some [vs t,.bool q]:=by
  obtain⟨cs,g,hcs⟩:=(zch hw.now).2.2 0 (by simp)
  unfold WdC at hcs
  rw[hcs,Nat.zero_mul,zak]at g
  exact g
 refine enter Tryz.func60 Tryz.ntmps60 rfl rfl ?_
 refine go trivial ?_
 refine zam ?_
 intro w1 hE1 hs1 hA
 have q2:zad w1 (some ⟨w.heap.size,2,Option.none⟩)=some (.slice (some xa) (r.length+1) c):=zaa hA rfl
 have g01:=zaj hE1 g0
 refine go (an2 q2 Nat.zero_add) ?_
 refine rq ?_;intro gd K hgd hK
 try simp (disch:=first|omega|assumption|rfl) only[go_sem,q2,z0,l0,Int.toNat_zero,Nat.zero_mul,zak,g01,Nat.zero_add]
 refine zbj (P:=Tryz.prog) (l:=[vs t,.bool q]) rfl (fun v hv=>by simp at hv;rcases hv with rfl|rfl<;>rfl) rfl rfl ?_
 intro w2 hE2 hs2 hB
 try simp only[go_sem]
 refine hK _ _ ?_;clear hK hgd;clear K;try clear gd
 have hE02:=hE1.trans hE2
 have hA2:=Ext.at hE2 hA
 have p1:zad w2 (some ⟨w.heap.size,1,Option.none⟩)=some (.bool en.blank):=zaa hA2 rfl
 have p2:zad w2 (some ⟨w.heap.size,2,Option.none⟩)=some (.slice (some xa) (r.length+1) c):=zaa hA2 rfl
 have p3:zaq w2 (some ⟨w.heap.size,0,Option.none⟩) 3=some [vi en.line,.bool en.blank,.slice (some xa) (r.length+1) c]:=zai (n:=3) (l:=[vi en.line,.bool en.blank,.slice (some xa) (r.length+1) c]) hA2 rfl
 have r0:zad w2 (some ⟨w1.heap.size,0,Option.none⟩)=some (vs t):=zaa hB rfl
 have r1:zad w2 (some ⟨w1.heap.size,1,Option.none⟩)=some (.bool q):=zaa hB rfl
 have h2:=h.ext hE02
 have hw2:Hz (fun i=>b≤i∧¬D i) w2 (fun X=>Rows 2 WdC X (.slice (some xa) (r.length+1) c) ((t,q)::r)):=Hz.app hw hE02 (fun _ _ h=>h.elim) fun _ _ h=>h
 have hE2':=hE0.trans hE02
 have hkE:zaT D b w w2:=hE02.mono fun _ _ h=>h.elim
 refine go trivial ?_
 cases hq with
 |blank ln _ _ _ e _ hl hrec=>
  injection hr with hr1 hr2
  injection hr1 with hr3 hr4
  subst hr2 hr3 hr4
  refine rgg [(3,13),(8,18)] (an4 p1 Nat.zero_add Bool.not_true trivial) ?_
  refine go trivial ?_
  refine rc p3 (zfP hX hE2' hb0 h2 hw2 hrec (by rw[List.length_cons];omega)) ?_
  rintro _ w3 ⟨rfl,h3,hk3⟩
  refine rd trivial (zcl (st:=st') h3 rfl) ?_
  rintro u w4 ⟨ho,hE4⟩
  refine rgo trivial ?_
  refine rt0 Tryz.ntmps60 ?_
  exact⟨ho,h3.ext hE4,(hkE.trans hk3).trans (hE4.mono fun _ _ h=>h.elim)⟩
 |rcd ln t _ e _ hl hp hrec=>
  injection hr with hr1 hr2
  injection hr1 with hr3 hr4
  subst hr2 hr3 hr4
  refine rcg [(3,13),(8,18)] (an6 p1 r0 r1 Nat.zero_add Nat.add_zero Bool.not_false) (zbR w2 t [36]) ?_
  rintro _ w2' ⟨rfl,hw2'⟩
  rw[hw2',hp]
  clear hw2' w2'
  refine reg [(3,13),(8,18)] Bool.not_false ?_
  refine go trivial ?_
  refine rc p3 (zfP hX hE2' hb0 h2 hw2 hrec (by rw[List.length_cons];omega)) ?_
  rintro _ w3 ⟨rfl,h3,hk3⟩
  refine rd trivial (zcl (st:=st') h3 rfl) ?_
  rintro u w4 ⟨ho,hE4⟩
  refine rgo trivial ?_
  refine rt0 Tryz.ntmps60 ?_
  exact⟨ho,h3.ext hE4,(hkE.trans hk3).trans (hE4.mono fun _ _ h=>h.elim)⟩
 |dir ln t _ _ _ hp hd=>
  injection hr with hr1 hr2
  injection hr1 with hr3 hr4
  subst hr2 hr3 hr4
  refine rcg [(3,13),(8,18)] (an6 p1 r0 r1 Nat.zero_add Nat.add_zero Bool.not_false) (zbR w2 t [36]) ?_
  rintro _ w2' ⟨rfl,hw2'⟩
  rw[hw2',hp]
  clear hw2' w2'
  refine reg [(3,13),(8,18)] Bool.not_false ?_
  refine go trivial ?_
  refine rc (an2 p2 Nat.zero_add) (zgg hX hE2' hb0 h2 hF hfl hrl hw2 hd hc) ?_
  rintro u w3 ⟨ho,h3,hk3⟩
  refine rgo trivial ?_
  refine rt0 Tryz.ntmps60 ?_
  exact⟨ho,h3,hkE.trans hk3⟩
end
inductive EntsIs(fl:List (Lab×Lab))(inc:LdS→Lab→Option FltL→LdS→Prop):LdS→List EntL→Option FltL→LdS→Prop
 |nil (st:LdS):EntsIs fl inc st [] Option.none st
 |flt (st:LdS) (en:EntL) (es:List EntL) (f:FltL) (st1:LdS):st.reads.length≤1000→EntIs fl inc {st with line:=en.line} en (some f) st1→EntsIs fl inc st (en::es) (some f) st1
 |more (st:LdS) (en:EntL) (es:List EntL) (st1:LdS) (out:Option FltL) (st2:LdS):st.reads.length≤1000→EntIs fl inc {st with line:=en.line} en Option.none st1→EntsIs fl inc st1 es out st2→EntsIs fl inc st (en::es) out st2
def zcv(fl:List (Lab×Lab)):Nat→LdS→Lab→Option FltL→LdS→Prop
 |0,_,_,_,_=>False
 |k+1,st,p,out,st'=>∃xs st1,zb6 p fl=(za0 (xs.map Prod.fst),true)∧LnsOk xs∧st.reads.length≤1000∧EntsIs fl (zcv fl k) {st with path:=p,reads:=st.reads++ [p]} (entF 1 xs) out st1∧
  (out=Option.none→1≤st1.reads.length∧st1.reads.length≤10000∧st'={st1 with reads:=st1.reads.dropLast})∧(¬out=Option.none→st'=st1)
theorem Own.dropLast{B:Nat}{w:World}{e:TypeId}{a:Option Addr}{n c:Nat}{l:List Value}(h:Own B w e (.slice a n c) l)(hl:1≤l.length):Own B w e (.slice a (n - 1) c) l.dropLast:=by
 obtain⟨h1,h2⟩:=h
 rcases h2 with ⟨_,h0⟩| ⟨g,cap,cur,hv,hg,hb,hn,hm,hc,hx⟩
 ·omega
 ·injection hv with v1 v2 v3
  refine⟨by simp,.inr ⟨g,cap,cur,?_,hg,hb,by rw[List.length_dropLast];omega,hm,hc,?_⟩⟩
  ·rw[v1,v3,List.length_dropLast,v2]
  ·rw[List.length_dropLast,Nat.mul_one,←hx,List.dropLast_eq_take,List.take_take,List.length_take]
   congr 1
   have:cur.toList.length=cap:=by simp[hc]
   rw[this];omega
section
variable {D : Nat → Prop} {B b : Nat} {w x : World} {fs : Value → World → Prop} {st : LdS} {fv ov rv orv owv : Value} {G : List (RecL × List Value)}
theorem LX.reads(h:LX D B w b fs st fv ov rv orv owv G){y1 y2:World}{rv':Value}{l:List Lab}(ho:Own B y2 9 rv' (l.map vs))(hE0:Ext w y1)(hk:Keep (fun i=>some i=rv.ownBlock) y1 y2)(hb2:∀i,some i=rv'.ownBlock→some i=rv.ownBlock∨y1.heap.size≤i)
  (hk3:Keep (fun i=>i=b) y2 x) (hb:x.heap[b]? =some (.cells (zhy fv ov rv' orv owv st).toArray 85 (0,0))):LX D B x b fs {st with reads:=l} fv ov rv' orv owv G:=by
 have hl:=h.lt
 have hle:=h.le
 have e1:=hE0.size
 have e2:=hk.size
 have e3:=hk3.size
 have hkk:Keep (fun i=>some i=rv.ownBlock∨i=b) w x:=((hE0.mono fun _ _ h=>h.elim).trans (hk.mono fun _ _ e=> .inl e)).trans (hk3.mono fun _ _ e=> .inr e)
 have hT:∀i,i<w.heap.size→(some i=rv.ownBlock∨i=b)→MutL D b ov rv i:=fun i _ e=>e.elim (fun e=> .inr (.inr (.inl e))) .inl
 have hM:∀i,i<w.heap.size→MutL D b ov rv' i→MutL D b ov rv i:=fun i hi hm=>by
  rcases hm with e|e|e|e
  ·exact .inl e
  ·exact .inr (.inl e)
  ·rcases hb2 i e with e|e
   ·exact .inr (.inr (.inl e))
   ·omega
  ·exact .inr (.inr (.inr e))
 refine⟨hb,hl,by omega,h.oo.keep hkk fun i hi e=>?_,ho.keep hk3 fun i hi e=>by have:=(ho.ge hi).1;omega,fun i hi e=>?_,fun i hi=>?_,h.ol,fun y hy=>Hz.app (h.fr y hy) hkk hT hM,Hz.app h.ff hkk hT hM,Hz.app h.fo hkk hT hM,OwnerZ.app h.fw hkk hT hM,h.ot⟩
 ·rcases e with e|e
  ·exact h.d i hi e
  ·have:=(h.oo.ge hi).1;omega
 ·rcases hb2 i e with e2|e2
  ·exact h.d i hi e2
  ·have:=(h.oo.ge hi).2;omega
 ·obtain⟨a1,a2,a3,a4⟩:=h.dd i hi
  exact⟨a1,by omega,a3,fun e=>(hb2 i e).elim a4 fun e=>by omega⟩
theorem file_ok{W0:World}(hX:WX W0)(hb0:W0.heap.size≤b){fl:List (Lab×Lab)}(hfl:fl.length≤1000000){k:Nat}(hc:FlOk W0 B b fl (zcv fl k)):FlOk W0 B b fl (zcv fl (k+1)):=by
 rintro D w fs st p out st' hF hE0 h ⟨xs,st1,hfind,hxs,hrl,hes,hn1,hn2⟩
 have hX1:∀{X:World},Ext w X→WX X:=fun hE=>hX.ext (hE0.trans hE)
 have hDd:=h.dd
 obtain⟨fv,ov,rv,orv,owv,G,h⟩:=h
 have hbB:=h.lt
 have hBw:=h.le
 have hDb:¬D b:=fun hd=>by have:=hDd b hd;omega
 have k0:zad w (some ⟨b,0,Option.none⟩)=some fv:=zaa h.h rfl
 refine enter Tryz.func33 Tryz.ntmps33 rfl rfl ?_
 refine go trivial ?_
 refine rc k0 (zfD (hF fv w h.ff.now) hfl p) ?_
 rintro _ w1 ⟨rfl,hE1⟩
 rw[hfind]
 refine rgo Bool.not_true ?_
 refine rc trivial (zif (hX1 hE1) hxs) ?_
 rintro _ w2 ⟨hE2,ev,rfl,hevb,hev⟩
 refine rgo (show decide ((0:Int)=0)=true from rfl) ?_
 obtain⟨es,hesE⟩:∃es,entF 1 xs=es:=⟨_,rfl⟩
 rw[hesE]at hes hev
 have hE02:=hE1.trans hE2
 have hs1:=hE1.size
 have hs2:=hE2.size
 obtain⟨D1,hD1⟩:∃D1:Nat→Prop,D1=fun i=>D i∨(w1.heap.size≤i∧i<w2.heap.size):=⟨_,rfl⟩
 have hKL:∀{X Y:World},zaT D1 b X Y→zaT D b X Y:=fun hk=>hk.mono fun i _ h=>⟨h.1,fun hd=>h.2 (by rw[hD1];exact .inl hd)⟩
 have hD1b:¬D1 b:=fun hd=>by rw[hD1]at hd;rcases hd with hd|hd;exact hDb hd;omega
 have h2:LX D1 B w2 b fs st fv ov rv orv owv G:=h.step hE02 (fun i hi=>by rw[hD1]at hi;rcases hi with hi|hi;exact .inl hi;exact .inr (by omega))
 refine rq ?_;intro gd K hgd hK
 try simp (disch:=first|omega|assumption|rfl) only[go_sem,Nat.zero_add]
 refine zan (P:=Tryz.prog) rfl rfl rfl h2.h (by show(4:Nat)<13;decide) (by simp) ?_
 intro w3 hs3 hb3 hk3
 try simp only[go_sem]
 refine hK _ _ ?_;clear hK hgd;clear K;try clear gd
 have h3:LX D1 B w3 b fs {st with path:=p} fv ov rv orv owv G:=LX.turn h2 (st':={st with path:=p}) hk3 hb3 rfl rfl h2.fo h2.fw h2.ot
 have k2:zad w3 (some ⟨b,2,Option.none⟩)=some rv:=zaa h3.h rfl
 refine go (an2 k2 Nat.zero_add) ?_
 refine rq ?_;intro gd K hgd hK
 try simp (disch:=first|omega|assumption|rfl) only[go_sem,k2,Nat.zero_add]
 refine za5 rfl rfl rfl rfl rfl ?_
 intro w4 hE4 hs4 hown4
 try simp (disch:=first|omega|assumption|rfl) only[go_sem,k2,Nat.zero_add]
 have h4:=h3.ext hE4
 refine za2 (e:=9) h4.ow hown4.row rfl rfl rfl rfl rfl rfl (vq0) (vq0) (fun q hq=>by simp at hq;subst hq;rfl) (by simp;omega) (by decide) h4.le ?_
 intro rv' w5 ho5 hX5 hk5 hb5
 try simp (disch:=first|omega|assumption|rfl) only[go_sem,Nat.zero_add]
 have hby5:=(hk5.block b (by have:=h4.le;omega) fun e=>by have:=(h4.ow.ge e).1;omega).trans h4.h
 refine zan (P:=Tryz.prog) rfl rfl (by obtain⟨a,c,rfl⟩:=ho5.slice;rfl) hby5 (by show(2:Nat)<13;decide) (by simp) ?_
 intro w6 hs6 hb6 hk6
 try simp only[go_sem]
 refine hK _ _ ?_;clear hK hgd;clear K;try clear gd
 have h6:LX D1 B w6 b fs {st with path:=p,reads:=st.reads++ [p]} fv ov rv' orv owv G:=LX.reads h3 (l:=st.reads++ [p]) (by rw[List.map_append];exact ho5) hE4 hk5 hb5 hk6 hb6
 have hkk:Keep (fun i=>i=b∨some i=rv.ownBlock) w2 w6:=(((hk3.mono fun i _ e=> .inl e).trans (hE4.mono fun _ _ h=>h.elim)).trans (hk5.mono fun i _ e=> .inr e)).trans (hk6.mono fun i _ e=> .inl e)
 have hk26:zaT D1 b w2 w6:=hkk.mono fun i _ e=>by
  rcases e with e|e
  ·exact⟨by omega,by rw[e];exact hD1b⟩
  ·exact⟨by have:=(h2.ow.ge e).1;omega,fun hd=>(h2.dd i hd).2.2.2 e⟩
 obtain⟨ea,ec,rfl,hec,heg⟩:=hev.now.open
 refine go trivial ?_
 have hel:es.length≤1000000000:=by have:=zfo 1 xs;rw[hesE]at this;have:=hxs.few;omega
 have hkE:zaT D b w w2:=hE02.mono fun _ _ h=>h.elim
 have hk02:∀{X:World},zaT D1 b w2 X→Keep (fun i=>i<w1.heap.size) w2 X:=fun hk=>hk.mono fun i hi h=>by
  by_cases hlt:i<w1.heap.size
  ·exact hlt
  ·exact absurd (by rw[hD1];exact .inr ⟨by omega,hi⟩) h.2
 refine zbq es.length (fun i σ v=>(σ 0= .pointer (some ⟨b,0,Option.none⟩)∧σ 55= .slice ea es.length ec∧σ 56=vi es.length∧σ 57=vi i)∧∃sti,LdX D1 B v b fs sti∧EntsIs fl (zcv fl k) sti (es.drop i) out st1∧zaT D1 b w6 v) ?_ ?_ ?_
 ·exact⟨⟨vr0,vr0,vr0,vr0⟩,_,⟨_,_,_,_,_,_,h6⟩,hes,Keep.refl _ _⟩
 ·rintro i σ v hi r ⟨⟨s0,s55,s56,s57⟩,sti,hv,hgr,hkv⟩
  rw[List.drop_eq_getElem_cons hi]at hgr
  obtain⟨en,hen⟩:∃en,es[i]=en:=⟨_,rfl⟩
  rw[hen]at hgr
  have hk2v:=hk26.trans hkv
  obtain⟨cs,g,hcs⟩:=(zch (hev v (hk02 hk2v))).2.2 i hi
  rw[hen]at hcs
  obtain⟨wv,rfl,hwv⟩:=hcs
  obtain⟨xa,rfl⟩:=Option.isSome_iff_exists.1 (zaO g)
  have hxb:=hevb xa _ _ rfl
  have hcell:∀{X:World},zaT D1 b v X→zaq X (adr (some xa) (i*3)) 3=some [vi en.line,.bool en.blank,wv]:=fun hk=>zen hk (fun a ha hb=>hb.2 (by
   have hbl:a.block=xa.block:=by injection ha with ha;rw[←ha];exact zbK xa _
   obtain⟨cs2,g2,_⟩:=(zch hev.now).2.2 i hi
   have:=cells_lt g2 (by decide) ha
   rw[hD1,hbl]
   exact .inr ⟨hxb,by omega⟩)) g
  have hwords:∀{X:World},zaT D1 b v X→Rows 2 WdC X wv en.words:=fun {X} hk=>by
   obtain⟨cs',g',hcs'⟩:=(zch (hev X (hk02 (hk2v.trans hk)))).2.2 i hi
   rw[hcell hk]at g'
   rw[hen]at hcs'
   obtain⟨wv',e',hw'⟩:=hcs'
   rw[←Option.some.inj g']at e'
   injection e' with _ e'
   injection e' with _ e'
   injection e' with e' _
   rw[e'];exact hw'
  obtain⟨xi,hxi⟩:∃xi,adr (some xa) (i*3)=some xi:=⟨_,rfl⟩
  rw[hxi]at g
  have hi0:(0:Int)≤(i:Int):=by omega
  have hi1:(i:Int)<(es.length:Int):=by omega
  have hi2:(i:Int)+1=((i+1:Nat):Int):=by push_cast;rfl
  obtain⟨wa,wc,rfl,_⟩:=id hwv.open
  refine go (an5 s0 s55 s56 s57 r) ?_
  refine rq ?_;intro gd K hgd hK
  try simp (disch:=first|omega|assumption|rfl) only[go_sem,s55,s57,hi0,hi1,hxi,g]
  refine zbj (P:=Tryz.prog) (l:=[vi en.line,.bool en.blank,.slice wa en.words.length wc]) rfl (fun v hv=>by simp at hv;rcases hv with rfl|rfl|rfl<;>rfl) rfl rfl ?_
  intro v1 hE1v hs1v hBv
  try simp only[go_sem]
  refine hK _ _ ?_;clear hK hgd;clear K;try clear gd
  have q0:zad v1 (some ⟨v.heap.size,0,Option.none⟩)=some (vi en.line):=zaa hBv rfl
  have hv1:=hv.ext hE1v
  obtain⟨fvi,ovi,rvi,orvi,owvi,Gi,hv1⟩:=hv1
  refine go (an2 q0 Nat.zero_add) ?_
  refine rq ?_;intro gd K hgd hK
  try simp (disch:=first|omega|assumption|rfl) only[go_sem,s0,q0,Nat.zero_add]
  refine zan (P:=Tryz.prog) rfl rfl rfl hv1.h (by show(5:Nat)<13;decide) (by simp) ?_
  intro v2 hs2v hb2v hk2vv
  try simp only[go_sem]
  refine hK _ _ ?_;clear hK hgd;clear K;try clear gd
  have hv2:LX D1 B v2 b fs {sti with line:=en.line} fvi ovi rvi orvi owvi Gi:=LX.turn hv1 (st':={sti with line:=en.line}) hk2vv hb2v rfl rfl hv1.fo hv1.fw hv1.ot
  have hvb:b<v.heap.size:=hv.lt
  have hBv2:=(hk2vv.block v.heap.size (by omega) (by omega)).trans hBv
  have q3:zaq v2 (some ⟨v.heap.size,0,Option.none⟩) 3=some [vi en.line,.bool en.blank,.slice wa en.words.length wc]:=zai (n:=3) (l:=[vi en.line,.bool en.blank,.slice wa en.words.length wc]) hBv2 rfl
  have hkvv:zaT D1 b v v2:=(hE1v.mono fun _ _ h=>h.elim).trans (hk2vv.mono fun i _ e=>⟨by omega,by rw[e];exact hD1b⟩)
  have hE2v:Ext W0 v2:=Keep.to_ext (hE0.trans hE02) rfl (fun i hi=>by omega) (hk2v.trans hkvv)
  refine go trivial ?_
  cases hgr with
  |flt _ _ _ f _ hr1 hent=>
   refine rc (an2 s0 q3) (zhu hX hE2v hb0 (st:={sti with line:=en.line}) ⟨_,_,_,_,_,_,hv2⟩ hF hfl hr1 (fun X hX=>hwords (hkvv.trans hX)) hent hc) ?_
   rintro u v3 ⟨⟨pf,hpf1,rfl,hpf3⟩,hv3,hk3v⟩
   refine rgo trivial ?_
   refine rt0 Tryz.ntmps33 ?_
   rw[hn2 (by simp)]
   exact⟨⟨pf,hpf1,rfl,hpf3⟩,hv3.step (Keep.refl _ _) (fun i hi=> .inl (by rw[hD1];exact .inl hi)),hkE.trans (hKL ((hk2v.trans hkvv).trans hk3v))⟩
  |more _ _ _ sti' _ _ hr1 hent hrest=>
   refine rc (an2 s0 q3) (zhu hX hE2v hb0 (st:={sti with line:=en.line}) ⟨_,_,_,_,_,_,hv2⟩ hF hfl hr1 (fun X hX=>hwords (hkvv.trans hX)) hent hc) ?_
   rintro u v3 ⟨rfl,hv3,hk3v⟩
   refine rgo (an6 s0 s55 s56 s57 hi2 r) ?_
   exact⟨rfl,⟨(vq1 s0),(vq1 s55),(vq1 s56),(vq1 hi2)⟩,_,hv3,hrest,hkv.trans (hkvv.trans hk3v)⟩
 ·rintro σ v r ⟨⟨s0,s55,s56,s57⟩,sti,hv,hgr,hkv⟩
  rw[List.drop_length]at hgr
  cases hgr
  obtain⟨hr1,hr2,rfl⟩:=hn1 rfl
  obtain⟨fvi,ovi,rvi,orvi,owvi,Gi,hv⟩:=hv
  obtain⟨ra,rc,rfl,hrc,_⟩:=zeZ hv.ow.row
  have k2v:zad v (some ⟨b,2,Option.none⟩)=some (.slice ra st1.reads.length rc):=zaa hv.h rfl
  have wl:IntKind.i64.wrap ((st1.reads.length:Int) - 1)=((st1.reads.length - 1:Nat):Int):=by rw[zcW (by omega) (by omega)];omega
  have m0:(0:Int)≤((st1.reads.length - 1:Nat):Int):=by omega
  have m1:((st1.reads.length - 1:Nat):Int)≤(rc:Int):=by omega
  refine go (an5 s0 s55 s56 s57 r) ?_
  repeat refine c_r ?_
  refine zav (Q:=fun e' σ' ds' v'=>e'= .normal∧ds'=[]∧LdX D1 B v' b fs {st1 with reads:=st1.reads.dropLast}∧zaT D1 b v v') ?_ ?_
  ·refine zaS (fun i=>i==14) [(0,true),(1,true),(2,true),(3,true),(4,true),(5,true),(6,true),(7,true),(8,true),(9,true),(10,true),(11,true),(12,true),(13,true),(14,false)] NoS mixed (by kernel_rfl) ?_;intro gd K x hgd hx hxe hK;have hx0:=zaP hxe;clear hxe
   have k2x:=zab hx0 k2v
   simp (disch:=first|omega|assumption|rfl) only[go_sem,s0,k2x,wl,m0,m1,Nat.zero_add,Int.toNat_natCast]
   have hvx:=hv.ext hx0
   have hd:Own B x 9 (.slice ra (st1.reads.length - 1) rc) (st1.reads.dropLast.map vs):=by
    rw[List.map_dropLast]
    exact Own.dropLast hvx.ow (by rw[List.length_map];exact hr1)
   rw[show (if rc=0 then ra else adr ra 0)=ra from by split;rfl;exact zak ra,Nat.sub_zero,Nat.sub_zero]
   refine zan (P:=Tryz.prog) rfl rfl rfl hvx.h (by show(2:Nat)<13;decide) (by simp) ?_
   intro y1 hs1y hb1y hk1y
   refine⟨.inl rfl,?_⟩
   simp (disch:=first|omega|assumption|rfl) only[go_sem]
   refine hK _ _ ?_;clear hK hgd;clear K;try clear gd
   have hfin:=LX.reads hvx (l:=st1.reads.dropLast) hd (Keep.refl _ _) (Keep.refl _ _) (fun i hi=> .inl (by cases ra<;>exact hi)) hk1y hb1y
   exact⟨rfl,rfl,⟨_,_,_,_,_,_,hfin⟩,(hx0.mono fun _ _ h=>h.elim).trans (hk1y.mono fun i _ e=>⟨by omega,by rw[e];exact hD1b⟩)⟩
  rintro _ σ2 _ v2 ⟨rfl,rfl,h2v,hk2v⟩
  refine go trivial ?_
  refine rt0 Tryz.ntmps33 ?_
  exact⟨rfl,h2v.step (Keep.refl _ _) (fun i hi=> .inl (by rw[hD1];exact .inl hi)),hkE.trans (hKL ((hk26.trans hkv).trans hk2v))⟩
theorem zht{W0:World}(hX:WX W0)(hb0:W0.heap.size≤b){fl:List (Lab×Lab)}(hfl:fl.length≤1000000):∀k,FlOk W0 B b fl (zcv fl k)
 |0=>fun _ _ _ _ _ _ _ _ _ _ h=>h.elim
 |k+1=>file_ok hX hb0 hfl (zht hX hb0 hfl k)
end
def ld0(o:Nm):LdS:=⟨[],0,o,Option.none,Option.none,Option.none,[],[],0⟩
def zgs(fl:List (Lab×Lab))(p:Lab)(o:Nm)(out:Option FltL)(st':LdS):Prop:=(∃k,zcv fl k (ld0 o) p out st')∨((zb6 p fl).2=false∧out=some ⟨p,0,4⟩∧st'=ld0 o)
def LoadAt(w:World)(v:Value)(out:Option FltL)(R:List RecL):Prop:=match out with
 |Option.none=>∃rv,v= .tuple #[rv,.pointer Option.none]∧RecsAt w rv R
 |some f=>∃p,v= .tuple #[.slice Option.none 0 0,.pointer (some ⟨p,0,Option.none⟩)]∧w.heap[p]? =some (.cells #[vs f.path,vi f.line,vi f.err] 59 (0,0))
section
variable {D : Nat → Prop} {B b : Nat} {w x : World} {fs : Value → World → Prop} {st : LdS}
theorem file_no(h:LdX D B w b fs st){fl:List (Lab×Lab)}{p:Lab}(hF:∀v X,fs v X→Rows 2 zdy X v fl)(hfl:fl.length≤1000000)(hno:(zb6 p fl).2=false):
  Fn Tryz.prog 33 #[.pointer (some ⟨b,0,Option.none⟩),vs p] w (fun v w'=>OutAt b w' v (some ⟨p,0,4⟩)∧LdX D B w' b fs st∧zaT D b w w'):=by
 have hbl:=h.lt
 have hh:=h
 obtain⟨fv,ov,rv,orv,owv,G,h⟩:=h
 have k0:zad w (some ⟨b,0,Option.none⟩)=some fv:=zaa h.h rfl
 refine enter Tryz.func33 Tryz.ntmps33 rfl rfl ?_
 refine go trivial ?_
 refine rc k0 (zfD (hF fv w h.ff.now) hfl p) ?_
 rintro _ w1 ⟨rfl,hE1⟩
 rw[hno]
 refine rgo Bool.not_false ?_
 refine rq ?_;intro gd K hgd hK
 try simp only[go_sem]
 refine⟨by kernel_rfl,?_⟩
 rw[show bdV Tryz.prog 59 [(0,vs p),(1,vi 0),(2,vi 4)]=some (.agg #[vs p,vi 0,vi 4]) from by kernel_rfl]
 try simp only[go_sem]
 refine hK _ _ ?_;clear hK hgd;clear K;try clear gd
 refine zam ?_
 intro w2 hE2 hs2 hA
 refine go trivial ?_
 refine rt0 Tryz.ntmps33 ?_
 have hE:=hE1.trans hE2
 have hs1:=hE1.size
 exact⟨⟨_,by omega,rfl,hA⟩,hh.ext hE,hE.mono fun _ _ h=>h.elim⟩
end
theorem zfA{w:World}(hX:WX w){fv ov:Value}{fl:List (Lab×Lab)}{p:Lab}{o:Nm}{out:Option FltL}{st':LdS}(hf:Rows 2 zdy w fv fl)(hfl:fl.length≤1000000)(ho:Row w ov (o.map vs))(hoT:NmT o)(hq:zgs fl p o out st'):
  Fn Tryz.prog 14 #[fv,vs p,ov] w (fun v w'=>Ext w w'∧LoadAt w' v out st'.out):=by
 obtain⟨fa,fc,rfl,_⟩:=hf.open
 obtain⟨oa,oc,rfl,_⟩:=id ho
 refine enter Tryz.func14 Tryz.ntmps14 rfl rfl ?_
 refine go trivial ?_
 refine rq ?_;intro gd K hgd hK
 try simp only[go_sem]
 refine⟨by kernel_rfl,?_⟩
 rw[show bdV Tryz.prog 83 [(2,.slice oa (o.map vs).length oc)]=some (.agg #[vs [],vi 0,.slice oa (o.map vs).length oc,.slice Option.none 0 0,.bool false,.int .u32 0,.bool false,.int .u32 0,.bool false]) from by kernel_rfl]
 try simp only[go_sem]
 refine⟨by kernel_rfl,?_⟩
 rw[show bdV Tryz.prog 85 [(0,.slice fa fl.length fc),(4,.agg #[vs [],vi 0,.slice oa (o.map vs).length oc,.slice Option.none 0 0,.bool false,.int .u32 0,.bool false,.int .u32 0,.bool false])]=some (.agg #[.slice fa fl.length fc,.slice Option.none 0 0,.slice Option.none 0 0,vi 0,vs [],vi 0,.slice oa (o.map vs).length oc,.slice Option.none 0 0,.bool false,.int .u32 0,.bool false,.int .u32 0,.bool false]) from by kernel_rfl]
 try simp only[go_sem]
 refine hK _ _ ?_;clear hK hgd;clear K;try clear gd
 repeat refine c_r ?_
 refine zam ?_
 intro w1 hE1 hs1 hA
 obtain⟨b,hb⟩:∃b,w.heap.size=b:=⟨_,rfl⟩
 rw[hb]at hA hs1 ⊢
 have nomut:∀{i:Nat},MutL NoS b (.slice Option.none 0 0) (.slice Option.none 0 0) i→i=b:=fun h=>by
  rcases h with h|h|h|h
  ·exact h
  ·cases h
  ·cases h
  ·exact h.elim
 have h0:LX NoS (b+1) w1 b (fun v X=>Rows 2 zdy X v fl) (ld0 o) (.slice fa fl.length fc) (.slice Option.none 0 0) (.slice Option.none 0 0) (.slice oa (o.map vs).length oc) (.slice Option.none 0 0) []:=by
  refine⟨hA,by omega,by omega,Owns.nil _ _ _ _ _,Own.nil _ _ _,(fun i h=>by cases h),fun i h=>h.elim,rfl,(fun x hx=>by cases hx),fun X hX=>?_,fun X hX=>?_,rfl,hoT⟩
  ·exact hf.ext (Keep.to_ext hE1 rfl (fun i hi=>by have:=nomut hi;omega) hX)
  ·exact ho.ext (Keep.to_ext hE1 rfl (fun i hi=>by have:=nomut hi;omega) hX)
 have hfile:Fn Tryz.prog 33 #[.pointer (some ⟨b,0,Option.none⟩),vs p] w1 (fun v w'=>OutAt b w' v out∧LdX NoS (b+1) w' b (fun v X=>Rows 2 zdy X v fl) st'∧zaT NoS b w1 w'):=by
  rcases hq with ⟨k,hk⟩| ⟨hno,rfl,rfl⟩
  ·exact zht hX (by omega) hfl k NoS w1 _ _ p out st' (fun _ _ h=>h) hE1 ⟨_,_,_,_,_,_,h0⟩ hk
  ·exact file_no ⟨_,_,_,_,_,_,h0⟩ (fun _ _ h=>h) hfl hno
 refine go trivial ?_
 refine rc trivial hfile ?_
 rintro u w2 ⟨ho2,h2,hk2⟩
 have hE2:Ext w w2:=Keep.to_ext hE1 rfl (fun i hi=>by have:=hi.1;omega) hk2
 cases out with
 |some f=>
  obtain⟨q,hq1,rfl,hq3⟩:=ho2
  refine rgo trivial ?_
  refine zaf (.inr rfl) Tryz.ntmps14 rfl (zac (vr0) (zac (vr0) zae)) ?_
  exact⟨hE2,q,rfl,hq3⟩
 |none=>
  obtain rfl:u= .pointer Option.none:=ho2
  obtain⟨fv2,ov2,rv2,orv2,owv2,G2,h2⟩:=h2
  have k1:zad w2 (some ⟨b,1,Option.none⟩)=some ov2:=zaa h2.h rfl
  have hrecs:Rows 7 (RecAt w2) w2 ov2 st'.out:=by
   obtain⟨L,g1,g2,g3⟩:=h2.oo.rows
   refine⟨L,g1,by rw[h2.ol,List.length_map];exact g2,fun i hi hi'=>?_⟩
   have hG:i<G2.length:=by omega
   have:=(h2.fr G2[i] (List.getElem_mem hG)).now
   have e:=(g3 i hi hG).1
   have e2:st'.out[i]=G2[i].1:=by simp[h2.ol]
   rw[e2,e];exact this
  obtain⟨L,g1,g2,g3⟩:=hrecs
  refine rgo trivial ?_
  refine rc k1 (S_rec.Clip_ok g1) ?_
  rintro u w3 ⟨hu,hw3⟩
  rw[hw3]at hu ⊢
  clear hw3 w3
  obtain⟨ua,uc,rfl,_⟩:=id hu
  refine rgo trivial ?_
  refine zaf (.inr rfl) Tryz.ntmps14 rfl (zac (vr0) (zac (vr0) zae)) ?_
  exact⟨hE2,_,rfl,L,hu,g2,g3⟩
theorem prn_line{s:Lab}(h:Prn s):zeu s:=by
 have h10:∀c,prnB c=true→c≠10∧c≠13:=fun c=>zdv (P:=fun c=>prnB c=true→c≠10∧c≠13) (by decide+kernel) c
 refine⟨fun e=>(h10 _ (h _ e)).1 rfl,fun e=>?_⟩
 exact(h10 13 (h 13 (List.mem_of_getLast? e))).2 rfl
theorem prs_back{o:Nm}{d:DatL}(hc:zbx d=0)(hT:DatT d):zdJ d.ty (wF false (zbp hexU d) [] false) o d 0:=fun w wv oa on oc hX hr ho hoT=>by
 refine Fn.mono (back_ok hX ho hoT hc hT hr) ?_
 rintro v w' ⟨hE,cs,rfl,hg⟩
 exact⟨hE,cs,rfl,(zeV hg).1,(zeV hg).2,fun _=>hg⟩
theorem zka(w:World):Fn Tryz.prog 42 #[vi 2] w (fun v w'=>v=vs [102,111,114,109]∧w'=w):=by
 refine enter Tryz.func42 Tryz.ntmps42 rfl rfl ?_
 refine go (an3 (show decide ((2:Int)=0)=false from rfl) (show decide ((2:Int)=1)=false from rfl) (show decide ((2:Int)=2)=true from rfl)) ?_
 refine rt0 Tryz.ntmps42 ?_
 exact⟨rfl,rfl⟩
theorem zfE{w:World}(hX:WX w){p:Nat}{path:Lab}{line:Int}(hp:w.heap[p]? =some (.cells #[vs path,vi line,vi 2] 59 (0,0)))(hl0:0≤line)(hl:line≤1000000)(hpl:path.length≤1000):
  Fn Tryz.prog 20 #[.pointer (some ⟨p,0,Option.none⟩)] w (fun v w'=>v=vs (path++ [58]++Lib.itoa line++ [58,32]++ [102,111,114,109])∧Ext w w'):=by
 have k0:zad w (some ⟨p,0,Option.none⟩)=some (vs path):=zaa hp rfl
 have k1:zad w (some ⟨p,1,Option.none⟩)=some (vi line):=zaa hp rfl
 have k2:zad w (some ⟨p,2,Option.none⟩)=some (vi 2):=zaa hp rfl
 have hil:=zfh (n:=line) (by omega) (by omega)
 refine enter Tryz.func20 Tryz.ntmps20 rfl rfl ?_
 refine go trivial ?_
 refine zaS (fun _=>false) [(0,true),(1,true),(2,true),(3,true),(4,true),(5,true),(6,true),(7,true),(8,true),(12,true),(13,true),(14,true),(15,true),(9,false),(10,true),(11,true),(16,false),(17,true),(18,true)] NoS mixed (by kernel_rfl) ?_;intro gd K x hgd hx hxe hK;have hx0:=zaP hxe;clear hxe
 have k0x:=zab hx0 k0
 have k1x:=zab hx0 k1
 have l1:path.length+([58]:Lab).length≤9223372036854775807:=by simp;omega
 have k2x:=zab hx0 k2
 simp (disch:=first|omega|assumption|rfl) only[go_sem,k0x,k1x,k2x,Nat.zero_add,Nat.add_zero,l1]
 refine Fn.mono (zgZ (hX.ext hx0) line (by omega) (by omega)) ?_
 rintro _ y1 ⟨rfl,hy1⟩
 refine⟨.inr hy1.keep,?_⟩
 have l2:(path++ [58]).length+(Lib.itoa line).length≤9223372036854775807:=by simp;omega
 have l3:(path++ [58]++Lib.itoa line).length+([58,32]:Lab).length≤9223372036854775807:=by simp;omega
 have k2y:=zab hy1 k2x
 simp (disch:=first|omega|assumption|rfl) only[go_sem,k2y,l2,l3,Nat.zero_add]
 refine Fn.mono (zka y1) ?_
 rintro _ v' ⟨rfl,hv'⟩
 rw[hv']
 clear hv' v'
 refine⟨.inr (Keep.refl _ _),?_⟩
 have l4:(path++ [58]++Lib.itoa line++ [58,32]).length+([102,111,114,109]:Lab).length≤9223372036854775807:=by simp;omega
 simp (disch:=first|omega|assumption|rfl) only[go_sem,l4]
 refine hK _ _ ?_;clear hK hgd;clear K;try clear gd
 refine go trivial ?_
 refine rt0 Tryz.ntmps20 ?_
 exact⟨rfl,hx0.trans hy1⟩
theorem zhd{T:Int}{s:Lab}{o n:Nm}(hT:T=2∨T=5∨T=12∨T=39)(hn:zaI s o=(n,0))(hs:s.length≤1000)(hm:s≠ [92,35]):zdJ T [(s,false)] o ⟨T,[n],[],[],[]⟩ 0:=fun w wv oa on oc hX hr ho hoT=>by
 have hsh:zaC T=(1,0,0,0):=by rcases hT with rfl|rfl|rfl|rfl<;>rfl
 have hmk:zbH [(s,false)]=false:=zfc (.inr hm)
 refine Fn.mono (PkG (d:=⟨T,[n],[],[],[]⟩) (by omega) (by omega) hr fun b w1 h=>?_) ?_
 ·rw[if_neg (by rw[hmk];decide)]
  refine Fn.mono (ziO (tx:=fun _=>s) (ns:=[n]) (us:=[]) hX (by omega) (by rw[hsh];rfl) (by simp) (by simp) h ho hoT (fun m hm=>?_) (fun m hm=>by cases hm)) ?_
  ·rw[List.mem_singleton.1 hm]
   exact⟨hn,by omega,trivial⟩
  rintro _ w' ⟨⟨nmv,nuv,rfl,a1,a2⟩,hR,hk⟩
  exact⟨⟨_,rfl,fun X hX=>⟨_,_,_,_,rfl,a2 X hX,zdz a1 X hX,zbz X,zbz X⟩⟩,hR,hk⟩
 ·rintro v w' ⟨hE,cs,rfl,hg⟩
  exact⟨hE,cs,rfl,(zeV hg).1,(zeV hg).2,fun _=>hg⟩
theorem prs_badA{s:Lab}{q:Bool}{o:Nm}{ps:List Lab}{e:Int}{d:DatL}(hsp:SplP s ps)(hs:s.length≤1000)(hpl:ps.length≤1000)(hpx:∀p∈ps,p.length≤1000)(hm:zbH [(s,q)]=false)(he:zgM (if ps.length=4 then(if q=true then za6 0 2 else 0) else za6 (if q=true then za6 0 2 else 0) 2) ps=e)(he0:¬e=0):zdJ 1 [(s,q)] o d e:=fun w wv oa on oc hX hr ho hoT=>by
 refine Fn.mono (zeU (e:=e) (G:=fun _ _ _=>True) (by decide) (by decide) hr (fun _ _ _ _ _ _ _ _=>trivial) fun b w1 h=>?_) ?_
 ·rw[if_neg (by rw[hm];decide)]
  refine Fn.mono (ziP hX h (by omega) hsp (by omega) fun p hp=>by have:=hpx p hp;omega) ?_
  rintro _ w' ⟨⟨rv,rfl,hown⟩,hR,hk⟩
  rw[he]at hR
  obtain⟨ra,rc,rfl⟩:=hown.slice
  exact⟨⟨_,rfl,rfl,zcH _ _ _ _ _ rfl rfl rfl rfl,trivial⟩,hR,hk⟩
 ·rintro v w' ⟨hE,_,h2⟩
  exact⟨hE,_,h2 he0,rfl,zcH _ _ _ _ _ rfl rfl rfl rfl,fun h=>absurd h he0⟩
abbrev tA3:Lab:=[49,46,50,46,51]
abbrev tA4:Lab:=[49,46,50,46,51,46,52]
theorem spl3:SplP tA3 [[49],[50],[51]]:=⟨by decide+kernel,by decide+kernel⟩
theorem prs_A3(o:Nm)(d:DatL):zdJ 1 [(tA3,false)] o d 2:=prs_badA spl3 (by decide) (by decide) (by decide) (by decide) (by decide+kernel) (by decide)
end Go.Proofs.YtihbdhjibplldaaGreatDoor
