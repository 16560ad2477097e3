/-
  Texts of a proof, joined: B5, B6, HP, JE, JG, LA, K29, K37, LB, K39, LC, LE, JH, JI, JJ, JK.
  Conditions: none.
-/
import Derived.Test.YtihbdhjibplldaaGreatDoorQLM02
import Derived.Test.YtihbdhjibplldaaGreatDoorQLM05
import Derived.Test.YtihbdhjibplldaaGreatDoorQLM03
import Derived.Test.YtihbdhjibplldaaGreatDoorQLM04
set_option linter.unusedVariables false
set_option linter.unusedSimpArgs false
set_option linter.defProp false
set_option linter.unnecessarySimpa false
set_option maxHeartbeats 8000000
namespace Go.Proofs.YtihbdhjibplldaaGreatDoor
open Go
set_option maxRecDepth 10000
def encL(x:Lab)(_:World)(args:Array Value):Prop:=args=#[vs x]
theorem revDrop{n:Nm}{k:Nat}(hk:k<n.length):(n.take (k+1)).reverse=n[k]::(n.take k).reverse:=by
 rw[zal hk];simp
theorem labelsIt{W0:World}{C:Nat→Prop}{bn:Nat}{nv:Value}{n:Nm}(hbn:W0.heap[bn]? =some (.cells #[nv] 24 (0,0)))(hn:Row W0 nv (n.map vs))(hC1:¬C bn)(hCw:n≠ []→∀b,C b→b<W0.heap.size→∀a m c,nv= .slice (some a) m c→a.block≠b)(hnl:n.length≤1000000000000)
  (hnb:n≠ []→∀a m c,nv= .slice (some a) m c→a.block<W0.heap.size):
  Iter Tryz.prog 216 #[.pointer (some ⟨bn,0,Option.none⟩)] W0 W0.heap.size C n.reverse encL:=by
 intro lp J Jx W hW hnW hJ hJx hY h0
 obtain⟨an,cn,rfl,hcn,hgn⟩:=hn
 simp only[List.length_map]at hcn hgn hbn hCw hnb
 have hln:=(Array.getElem?_eq_some_iff.1 hbn).1
 have p0:zad W (some ⟨bn,0,Option.none⟩)=some (.slice an n.length cn):=zab hW (zaa hbn rfl)
 refine enter Tryz.func216 Tryz.ntmps216 rfl rfl ?_
 repeat refine c_r ?_
 refine rg2 p0 Nat.add_zero ?_
 repeat refine c_r ?_
 refine zbg (fun m σ ds v=>ds=[]∧∃(pre:List Lab) (k:Nat),n.reverse=pre++(n.take k).reverse∧k≤m∧k≤n.length∧σ 3=vi ((k:Int) - 1)∧σ 0= .func (.yield lp) #[] #[]∧σ 1= .pointer (some ⟨bn,0,Option.none⟩)∧J pre v∧KeepB W0.heap.size C W v) n.length ?_ ?_
 ·exact⟨rfl,[],n.length,by simp,Nat.le_refl _,Nat.le_refl _,vq0,vq0,vq0,h0,KeepB.refl _ _ _⟩
 rintro m σ ds v ⟨rfl,pre,k,hd,hkm,hkn,h3,hs0,hs1,hjj,hKB⟩
 have p1:zad v (some ⟨bn,0,Option.none⟩)=some (.slice an n.length cn):=zbs hKB hln hC1 p0
 repeat refine c_r ?_
 refine rg1 h3 ?_
 repeat refine c_r ?_
 refine wc0 ?_ ?_
 ·intro hge
  simp only[decide_eq_true_eq,ge_iff_le]at hge
  obtain⟨j,rfl⟩:∃j,k=j+1:=⟨k - 1,by omega⟩
  have hj:j<n.length:=by omega
  have ej:((j+1:Nat):Int) - 1=(j:Int):=by omega
  rw[ej]at h3
  have hj0:(0:Int)≤(j:Int):=by omega
  have hj1:(j:Int)<(n.length:Int):=by omega
  have hg:=hgn j (by simpa using hj)
  rw[List.getElem_map]at hg
  obtain⟨xn,rfl⟩:=Option.isSome_iff_exists.1 (zap hg)
  have hnn:n≠ []:=List.length_pos_iff.1 (by omega)
  have hgv:zad v (adr (some xn) j)=some (vs n[j]):=by
   have hb:=hnb hnn xn _ _ rfl
   have h1:=zab hW hg
   refine zbs hKB (by rw[zbK];exact hb) (fun hc=>?_) h1
   rw[zbK]at hc
   exact hCw hnn _ hc hb xn _ _ rfl rfl
  have hxs:n.reverse=pre++n[j]::(n.take j).reverse:=by rw[hd,revDrop hj]
  repeat refine c_r ?_
  refine rq ?_;intro gd K hgd hK
  try simp (disch:=first|omega|assumption|rfl) only[go_sem,h3,hs0,hs1,p1,hj0,hj1,hgv]
  refine Yld.mono (hY pre n[j] (n.take j).reverse v _ hxs hjj hKB rfl) ?_
  rintro u x (⟨rfl,hj',hk'⟩| ⟨rfl,hjx⟩)
  ·try simp only[go_sem]
   refine hK _ _ ?_;clear hK hgd;clear K;try clear gd
   repeat refine c_r ?_
   refine wc0 ?_ ?_
   ·intro h;simp at h
   ·intro _
    repeat refine c_r ?_
    refine rg1 h3 ?_
    refine zaE ?_
    exact⟨m - 1,by omega,rfl,pre++ [n[j]],j,by rw[hxs];simp,by omega,by omega,vq0,(vq1 hs0),(vq1 hs1),hj',hKB.trans hk'⟩
  ·try simp only[go_sem]
   refine hK _ _ ?_;clear hK hgd;clear K;try clear gd
   repeat refine c_r ?_
   refine wc0 ?_ ?_
   ·intro _
    repeat refine c_r ?_
    refine zaA (by simp) rfl (.inr ⟨_,_,_,hxs,hjx⟩)
   ·intro h;simp at h
 ·intro hge
  simp only[decide_eq_false_iff_not,ge_iff_le]at hge
  have hk0:k=0:=by omega
  subst hk0
  repeat refine c_r ?_
  refine zaA (by simp) rfl (.inl ?_)
  rw[hd];simpa using hjj
theorem zjd{w:World}{nv:Value}(hn:∃a n c,nv= .slice a n c):
  Fn Tryz.prog 195 #[nv] w (fun v w'=>v= .func (.func 216) #[] #[.pointer (some ⟨w.heap.size,0,Option.none⟩)]∧Ext w w'∧w'.heap.size=w.heap.size+1∧w'.heap[w.heap.size]? =some (.cells #[nv] 24 (0,0))):=by
 obtain⟨an,nn,cn,rfl⟩:=hn
 refine enter Tryz.func195 Tryz.ntmps195 rfl rfl ?_
 repeat refine c_r ?_
 refine rg0 ?_
 repeat refine c_r ?_
 refine zam ?_
 intro w1 hE1 hs1 hA
 refine rg0 ?_
 repeat refine c_r ?_
 refine rt0 Tryz.ntmps195 ?_
 exact⟨rfl,hE1,hs1,hA⟩
theorem row_lt{w:World}{nv:Value}{l:List Value}(h:Row w nv l)(h0:l≠ []):∀a m c,nv= .slice (some a) m c→a.block<w.heap.size:=by
 intro a m c hv
 obtain⟨a',c',e,hc,hg⟩:=h
 rw[hv]at e
 injection e with e1
 have h1:=hg 0 (List.length_pos_iff.2 h0)
 rw[←e1]at h1
 have:=zfs (show w.cell? (a.add 0)=some _ from h1)
 rwa [zbK]at this
theorem NLen_ok(w:World)(nv:Value)(n:Nm)(hn:Row w nv (n.map vs))(hl:∀l∈n,l.length≤1000000000)(hnl:n.length≤1000000000):
  Fn Tryz.prog 168 #[nv] w (fun v w'=>v=vi (lenN n)∧Ext w w'):=by
 have hn0:=hn
 obtain⟨an,cn,hnv,_⟩:=id hn
 rw[hnv]
 refine enter Tryz.func168 Tryz.ntmps168 rfl rfl ?_
 repeat refine c_r ?_
 refine rg0 ?_
 repeat refine c_r ?_
 rw[←hnv]
 refine rq ?_;intro gd K hgd hK
 try simp only[go_sem]
 have hB3:=zax w (.cells #[vi 0] 3 (0,0))
 have hE4:=Ext.alloc w (.cells #[vi 0] 3 (0,0))
 have hs4:=zaB w (.cells #[vi 0] 3 (0,0))
 revert hB3 hE4 hs4
 generalize w.alloc (.cells #[vi 0] 3 (0,0))=w1
 intro hB3 hE4 hs4
 refine zcG (P:=Tryz.prog) (t:=3) (j:=0) (l:=[vi 0]) hB3 (by simp) rfl rfl rfl ?_
 intro w2 hs2 hB2 hk2
 try simp only[go_sem]
 refine hK _ _ ?_;clear hK hgd;clear K;try clear gd
 simp only[List.set_cons_zero]at hB2
 have hE2:Ext w w2:=Keep.to_ext hE4 rfl (fun b hb=>by omega) hk2
 repeat refine c_r ?_
 refine rq ?_;intro gd K hgd hK
 try simp only[go_sem]
 refine Fn.mono (zjd ⟨_,_,_,hnv⟩) ?_
 rintro _ w3 ⟨rfl,hE3,hs3,hbn⟩
 try simp only[go_sem]
 refine hK _ _ ?_;clear hK hgd;clear K;try clear gd
 have hE23:=hE2.trans hE3
 have hB2':=hE3.at hB2
 have hn3:=hn.ext hE23
 have hlt:n≠ []→∀a m c,nv= .slice (some a) m c→a.block<w.heap.size:=fun hnn=>row_lt hn (by simpa using hnn)
 repeat refine c_r ?_
 refine zcs (g:=216) (cap:=#[.pointer (some ⟨w2.heap.size,0,Option.none⟩)]) (vq0) rfl (labelsIt (C:=fun b=>b=w.heap.size) hbn hn3 (by omega) (fun h0 b hb _ a m c hv=>by have:=hlt h0 a m c hv;omega) (by omega) (fun h0 a m c hv=>by have:=hlt h0 a m c hv;omega)) (Keep.refl _ _) (Nat.le_refl _) (fun b hb=>by omega)
  (fun x A args h=>by rw[h];rfl)
  (fun pre A=>Ext w A∧A.heap[w.heap.size]? =some (.cells #[vi (1+(pre.map fun l=>1+l.length).sum:Nat)] 3 (0,0)))
  (fun _ _ _=>False) ?_ (fun _ _ _ _ h _=>h.elim) ?_ ?_ ?_ (fun _ _ _ _ _ _ _ h _=>h.elim)
 ·rintro pre A B ⟨h1,h2⟩ hk
  exact⟨Keep.to_ext h1 rfl (fun b hb=>by unfold two at hb;omega) hk,(hk.block _ (Array.getElem?_eq_some_iff.1 h2).1 (by unfold two;omega)).trans h2⟩
 ·exact⟨hE23,hB2'⟩
 ·rintro lp pre x suf A args hxs hszA ⟨hEA,hb⟩ rfl
  have hpl:pre.length+1≤n.length:=by
   have:=congrArg List.length hxs
   simp at this;omega
  have hpm:∀l∈pre,l.length≤1000000000:=fun l hl'=>hl l (List.mem_reverse.1 (by rw[hxs];simp[hl']))
  have hxm:x.length≤1000000000:=hl x (List.mem_reverse.1 (by rw[hxs];simp))
  have hsb:=zd0 pre hpm
  have hsum:(((1+(pre.map fun l=>1+l.length).sum:Nat):Int))+(1+(x.length:Int))=((1+((pre++ [x]).map fun l=>1+l.length).sum:Nat):Int):=by
   rw[List.map_append,List.sum_append,List.map_cons,List.map_nil,List.sum_cons,List.sum_nil];omega
  have hs2':((1+(pre.map fun l=>1+l.length).sum:Nat):Int)≤2000000000000000000:=by omega
  refine rq ?_;intro gd K hgd hK
  try simp only[go_sem]
  refine hK _ _ ?_;clear hK hgd;clear K;try clear gd
  refine zaE ?_
  refine⟨rfl,KeepB.refl _ _ _,fun Y hY=>?_⟩
  have hbY:=(hY.block _ (by omega) (by unfold two;omega)).trans hb
  have hEY:Ext w Y:=Keep.to_ext hEA rfl (fun b hb=>by unfold two at hb;omega) hY
  have hsY:=hY.size
  have q0:zad Y (some ⟨w.heap.size,0,Option.none⟩)=some (vi (1+(pre.map fun l=>1+l.length).sum:Nat)):=zaa hbY rfl
  repeat refine c_r ?_
  refine rq ?_;intro gd K hgd hK
  try simp (disch:=first|omega|assumption|rfl) only[go_sem,q0,hsum]
  refine zcG (P:=Tryz.prog) (t:=3) (j:=0) (l:=[vi (1+(pre.map fun l=>1+l.length).sum:Nat)]) hbY (by simp) rfl rfl rfl ?_
  intro z hz hbz hkz
  try simp only[go_sem]
  refine hK _ _ ?_;clear hK hgd;clear K;try clear gd
  simp only[List.set_cons_zero]at hbz
  repeat refine c_r ?_
  exact⟨⟨Keep.to_ext hEY rfl (fun b hb=>by omega) hkz,hbz⟩,hkz.toB (by omega) (fun i _ h=>h)⟩
 ·intro A hszA ⟨hEA,hb⟩ hD
  have q0:zad A (some ⟨w.heap.size,0,Option.none⟩)=some (vi (1+(n.reverse.map fun l=>1+l.length).sum:Nat)):=zaa hb rfl
  have hrev:(n.reverse.map fun l=>1+l.length).sum=(n.map fun l=>1+l.length).sum:=by rw[List.map_reverse,List.sum_reverse]
  rw[hrev]at q0
  repeat refine c_r ?_
  refine rg1 q0 ?_
  repeat refine c_r ?_
  refine ze0 (v:=vi (lenN n)) (.inr rfl) (by rfl) Tryz.ntmps168 (vr0) hD ?_
  intro Z hkZ hsZ
  exact⟨rfl,Keep.to_ext hEA rfl (fun b hb=>by omega) hkZ⟩
theorem zeM{n:Nm}{i:Nat}(hi:i<n.length)(h:∀j (h:j<n.length),j<i→errL n[j]=0)(he:errL n[i]≠0):zaX n=errL n[i]:=by
 unfold zaX
 have:n.find? (fun l=>decide (errL l≠0))=some n[i]:=by
  refine findL_at (pre:=n.take i) (suf:=n.drop (i+1)) (zbM hi) (fun y hy=>?_) (by simpa using he)
  obtain⟨j,hj,rfl⟩:=List.getElem_of_mem hy
  rw[List.getElem_take]
  simp at hj
  simpa using h j (by omega) (by omega)
 rw[this]
theorem zeh{n:Nm}(h:∀j (h:j<n.length),errL n[j]=0):zaX n=if 255<lenN n then 3 else 0:=by
 unfold zaX
 have:n.find? (fun l=>decide (errL l≠0))=Option.none:=zh0 (fun y hy=>by
  obtain⟨j,hj,rfl⟩:=List.getElem_of_mem hy
  simpa using h j hj)
 rw[this]
theorem RCheckName_ok(w:World)(nv:Value)(n:Nm)(hn:Row w nv (n.map vs))(hl:∀l∈n,l.length≤1000000000)(hnl:n.length≤1000000000):
  Fn Tryz.prog 17 #[nv] w (fun v w'=>v=vi (zaX n)∧Ext w w'):=by
 have hn0:=hn
 obtain⟨an,cn,rfl,hcn,hgn⟩:=hn
 simp only[List.length_map]at hcn hgn hn0
 rw[List.length_map]
 refine enter Tryz.func17 Tryz.ntmps17 rfl rfl ?_
 repeat refine c_r ?_
 refine rg0 ?_
 repeat refine c_r ?_
 refine rg0 ?_
 repeat refine c_r ?_
 refine zbg (fun m σ ds A=>ds=[]∧∃(i:Nat),i+m=n.length∧σ 3=vi i∧σ 0= .slice an n.length cn∧Ext w A∧∀j (h:j<n.length),j<i→errL n[j]=0) n.length ?_ ?_
 ·exact⟨rfl,0,by omega,vr0,vq0,Keep.refl _ _,fun j h hj=>absurd hj (by omega)⟩
 rintro m σ ds A ⟨rfl,i,him,h3,h0,hEA,hlow⟩
 repeat refine c_r ?_
 refine rg2 h3 h0 ?_
 repeat refine c_r ?_
 refine wc0 ?_ ?_
 ·intro hlt
  simp only[decide_eq_true_eq]at hlt
  have hi:i<n.length:=by omega
  have hi0:(0:Int)≤(i:Int):=by omega
  have hi1:(i:Int)<(n.length:Int):=by omega
  have hi1':(i:Int)+1=((i+1:Nat):Int):=by push_cast;rfl
  have hg:=zab hEA (hgn i (by simpa using hi))
  rw[List.getElem_map]at hg
  obtain⟨xn,rfl⟩:=Option.isSome_iff_exists.1 (zap hg)
  repeat refine c_r ?_
  refine rq ?_;intro gd K hgd hK
  try simp (disch:=first|omega|assumption|rfl) only[go_sem,h0,h3,hi0,hi1,hg]
  refine Fn.mono (zeB A n[i] (by have:=hl n[i] (List.getElem_mem hi);omega)) ?_
  rintro _ A1 ⟨rfl,hE1⟩
  try simp only[go_sem]
  refine hK _ _ ?_;clear hK hgd;clear K;try clear gd
  repeat refine c_r ?_
  refine rg0 ?_
  repeat refine c_r ?_
  refine wc0 ?_ ?_
  ·intro hne
   simp only[Bool.not_eq_true',decide_eq_false_iff_not]at hne
   repeat (first|refine c_r ?_|refine rg0 ?_)
   refine rt0 Tryz.ntmps17 ?_
   exact⟨by rw[zeM hi hlow hne],hEA.trans hE1⟩
  ·intro heq
   simp only[Bool.not_eq_false',decide_eq_true_eq]at heq
   repeat refine c_r ?_
   refine rg2 h3 hi1' ?_
   repeat refine c_r ?_
   refine⟨m - 1,by omega,rfl,i+1,by omega,vq0,(vq1 h0),hEA.trans hE1,fun j hj hji=>?_⟩
   by_cases hj2:j=i
   ·subst hj2;exact heq
   ·exact hlow j hj (by omega)
 ·intro hge
  simp only[decide_eq_false_iff_not]at hge
  have hgood:=zeh (n:=n) (fun j hj=>hlow j hj (by omega))
  repeat refine c_r ?_
  refine rq ?_;intro gd K hgd hK
  try simp (disch:=first|omega|assumption|rfl) only[go_sem,h0]
  refine Fn.mono (RLen_ok A _ n (hn0.ext hEA) hl hnl) ?_
  rintro _ A1 ⟨rfl,hE1⟩
  try simp only[go_sem]
  refine hK _ _ ?_;clear hK hgd;clear K;try clear gd
  repeat refine c_r ?_
  refine wc0 ?_ ?_
  ·intro hb
   simp only[decide_eq_true_eq]at hb
   repeat (first|refine c_r ?_|refine rg0 ?_)
   refine rt0 Tryz.ntmps17 ?_
   exact⟨by rw[hgood,if_pos (by omega)],hEA.trans hE1⟩
  ·intro hb
   simp only[decide_eq_false_iff_not]at hb
   repeat (first|refine c_r ?_|refine rg0 ?_)
   refine rt0 Tryz.ntmps17 ?_
   exact⟨by rw[hgood,if_neg (by omega)],hEA.trans hE1⟩
theorem zgr(w:World)(nv:Value)(n:Nm)(hn:Row w nv (n.map vs))(hl:∀l∈n,l.length≤1000000000)(hnl:n.length≤1000000000):
  Fn Tryz.prog 143 #[nv] w (fun v w'=>v=vi (zaX n)∧Ext w w'):=by
 have hn0:=hn
 obtain⟨an,cn,rfl,hcn,hgn⟩:=hn
 simp only[List.length_map]at hcn hgn hn0
 rw[List.length_map]
 refine enter Tryz.func143 Tryz.ntmps143 rfl rfl ?_
 repeat refine c_r ?_
 refine rg0 ?_
 repeat refine c_r ?_
 refine rg0 ?_
 repeat refine c_r ?_
 refine zbg (fun m σ ds A=>ds=[]∧∃(i:Nat),i+m=n.length∧σ 8=vi i∧σ 7=vi n.length∧σ 6= .slice an n.length cn∧σ 0= .slice an n.length cn∧Ext w A∧∀j (h:j<n.length),j<i→errL n[j]=0) n.length ?_ ?_
 ·exact⟨rfl,0,by omega,vr0,vq0,vq0,vq0,Keep.refl _ _,fun j h hj=>absurd hj (by omega)⟩
 rintro m σ ds A ⟨rfl,i,him,h8,h7,h6,h0,hEA,hlow⟩
 repeat refine c_r ?_
 refine rg2 h8 h7 ?_
 repeat refine c_r ?_
 refine wc0 ?_ ?_
 ·intro hlt
  simp only[decide_eq_true_eq]at hlt
  have hi:i<n.length:=by omega
  have hi0:(0:Int)≤(i:Int):=by omega
  have hi1:(i:Int)<(n.length:Int):=by omega
  have hi1':(i:Int)+1=((i+1:Nat):Int):=by push_cast;rfl
  have hg:=zab hEA (hgn i (by simpa using hi))
  rw[List.getElem_map]at hg
  obtain⟨xn,rfl⟩:=Option.isSome_iff_exists.1 (zap hg)
  repeat refine c_r ?_
  refine rg5 h6 h8 hi0 hi1 hg ?_
  repeat refine c_r ?_
  refine rq ?_;intro gd K hgd hK
  try simp only[go_sem]
  refine Fn.mono (zgt A n[i] (by have:=hl n[i] (List.getElem_mem hi);omega)) ?_
  rintro _ A1 ⟨rfl,hE1⟩
  try simp only[go_sem]
  refine hK _ _ ?_;clear hK hgd;clear K;try clear gd
  repeat refine c_r ?_
  refine rg0 ?_
  repeat refine c_r ?_
  refine wc0 ?_ ?_
  ·intro hne
   simp only[Bool.not_eq_true',decide_eq_false_iff_not]at hne
   repeat (first|refine c_r ?_|refine rg0 ?_)
   refine rt0 Tryz.ntmps143 ?_
   exact⟨by rw[zeM hi hlow hne],hEA.trans hE1⟩
  ·intro heq
   simp only[Bool.not_eq_false',decide_eq_true_eq]at heq
   repeat refine c_r ?_
   refine rg2 h8 hi1' ?_
   repeat refine c_r ?_
   refine⟨m - 1,by omega,rfl,i+1,by omega,vq0,(vq1 h7),(vq1 h6),(vq1 h0),hEA.trans hE1,fun j hj hji=>?_⟩
   by_cases hj2:j=i
   ·subst hj2;exact heq
   ·exact hlow j hj (by omega)
 ·intro hge
  simp only[decide_eq_false_iff_not]at hge
  have hgood:=zeh (n:=n) (fun j hj=>hlow j hj (by omega))
  repeat refine c_r ?_
  refine rq ?_;intro gd K hgd hK
  try simp (disch:=first|omega|assumption|rfl) only[go_sem,h0]
  refine Fn.mono (NLen_ok A _ n (hn0.ext hEA) hl hnl) ?_
  rintro _ A1 ⟨rfl,hE1⟩
  try simp only[go_sem]
  refine hK _ _ ?_;clear hK hgd;clear K;try clear gd
  repeat refine c_r ?_
  refine wc0 ?_ ?_
  ·intro hb
   simp only[decide_eq_true_eq]at hb
   repeat (first|refine c_r ?_|refine rg0 ?_)
   refine rt0 Tryz.ntmps143 ?_
   exact⟨by rw[hgood,if_pos (by omega)],hEA.trans hE1⟩
  ·intro hb
   simp only[decide_eq_false_iff_not]at hb
   repeat (first|refine c_r ?_|refine rg0 ?_)
   refine rt0 Tryz.ntmps143 ?_
   exact⟨by rw[hgood,if_neg (by omega)],hEA.trans hE1⟩
theorem ziE{w:World}{v:Value}{ps:List Lab}(h:Row w v (ps.map vs)):∃a c,v= .slice a ps.length c∧∀i (hi:i<ps.length),∃x,a=some x∧zad w (adr (some x) i)=some (vs ps[i]):=by
 obtain⟨a,c,rfl,_,hg⟩:=h
 refine⟨a,c,by rw[List.length_map],fun i hi=>?_⟩
 have g:=hg i (by rw[List.length_map];exact hi)
 rw[List.getElem_map]at g
 obtain⟨x,rfl⟩:=Option.isSome_iff_exists.1 (zap g)
 exact⟨x,rfl,g⟩
theorem lab_len(p:Lab):(labD p).1.length≤p.length:=by
 have:=zeC [46] 0 p []
 unfold labD
 split
 ·simpa using this
 ·simp
theorem zgE(f:Bool)(p:Lab)(l:List Lab)(out:Nm):zbF f (p::l) out=if p=[]∧f=false∧l=[] then(out,true,0) else if (labD p).2=0 then zbF false l (out++ [(labD p).1]) else([],false,(labD p).2):=by rw[zbF]
theorem parts_ok(w:World)(s:Lab)(hl:s.length≤1000000000):Fn Tryz.prog 142 #[vs s] w (fun v w'=>Ext w w'∧∃sv,v= .tuple #[sv,.bool (zbl s).2.1,vi (zbl s).2.2]∧Own w.heap.size w' 9 sv ((zbl s).1.map vs)∧(zbl s).1.length≤s.length+1∧∀x∈(zbl s).1,x.length≤s.length):=by
 have hsl:=zd1 s false []
 refine enter Tryz.func142 Tryz.ntmps142 rfl rfl ?_
 refine go trivial ?_
 refine rc trivial (zj1 w s hl) ?_
 rintro _ w1 ⟨hE1,hv⟩
 unfold zbl
 rcases hv with ⟨h1,rfl⟩| ⟨h1,pv,rfl,hrow⟩
 ·rw[if_pos h1]
  refine rgo trivial ?_
  refine zaf (.inr rfl) Tryz.ntmps142 rfl (zac (vr0) (zac (vr0) (zac (vr0) zae))) ?_
  exact⟨hE1,_,rfl,Own.nil _ _ _,by simp,by simp⟩
 rw[h1,if_neg (by decide)]
 obtain⟨ps,hps⟩:∃ps,(splD false [] s).1=ps:=⟨_,rfl⟩
 rw[hps]at hrow hsl ⊢
 rw[List.length_nil]at hsl
 obtain⟨a,c,rfl,hg⟩:=ziE hrow
 refine rgo trivial ?_
 refine rq ?_;intro gd K hgd hK
 try simp only[go_sem]
 refine zhA (z:=vs []) rfl rfl rfl rfl ?_
 intro w2 hE2 hs2 hown2
 try simp only[go_sem]
 refine hK _ _ ?_;clear hK hgd;clear K;try clear gd
 have hs1:=hE1.size
 have hE12:=hE1.trans hE2
 refine go trivial ?_
 refine zbq ps.length (fun i σ v=>(σ 5= .slice a ps.length c∧σ 21= .slice a ps.length c∧σ 22=vi ps.length∧σ 23=vi i)∧Ext w v∧Ext w1 v∧∃sv out,σ 7=sv∧Own w1.heap.size v 9 sv (out.map vs)∧out.length≤i∧(∀x∈out,x.length≤s.length)∧zbF true ps []=zbF (decide (i=0)) (ps.drop i) out) ?_ ?_ ?_
 ·exact⟨⟨vr0,vr0,vr0,vr0⟩,hE12,hE2,_,[],vr0,hown2,Nat.le_refl _,(fun x h=>by cases h),rfl⟩
 ·rintro i σ v hi r ⟨⟨s5,s21,s22,s23⟩,hE,hEv,sv,out,s7,hown,hol,hox,hpd⟩
  obtain⟨x,rfl,g0⟩:=hg i hi
  have g:=zab hEv g0
  obtain⟨p,hp⟩:∃p,ps[i]=p:=⟨_,rfl⟩
  have hpl:p.length≤s.length:=by have:=hsl.2 p (hp▸List.getElem_mem hi);omega
  rw[hp]at g
  rw[List.drop_eq_getElem_cons hi,hp,zgE]at hpd
  have hi0:(0:Int)≤(i:Int):=by omega
  have hi1:(i:Int)<(ps.length:Int):=by omega
  have hi2:(i:Int)+1=((i+1:Nat):Int):=by push_cast;rfl
  refine go (an8 s5 s21 s22 s23 s7 r g (an2 hi0 hi1)) ?_
  refine zav (Q:=fun e σ' ds' v'=>e= .normal∧ds'=[]∧v=v'∧(σ' 5= .slice (some x) ps.length c∧σ' 21= .slice (some x) ps.length c∧σ' 22=vi ps.length∧σ' 23=vi i∧σ' 7=sv∧σ' 9=vs p)∧σ' 40= .bool (decide (p=[]∧decide (i=0)=false∧ps.drop (i+1)=[]))) ?_ ?_
  ·by_cases c1:p=[]
   ·have d1:decide (p=[])=true:=decide_eq_true c1
    by_cases c2:i=0
    ·have d2:decide ((0:Int)<(i:Int))=false:=decide_eq_false (by omega)
     rw[show decide (p=[]∧decide (i=0)=false∧ps.drop (i+1)=[])=false from decide_eq_false fun h=>by have:=of_decide_eq_false h.2.1;omega]
     refine rgg [(2,30),(6,34)] (an7 s5 s21 s22 s23 s7 d1 d2) ?_
     exact⟨rfl,rfl,rfl,⟨(vq1 s5),(vq1 s21),(vq1 s22),(vq1 s23),(vq1 s7),vr0⟩,vr0⟩
    ·have d2:decide ((0:Int)<(i:Int))=true:=decide_eq_true (by omega)
     obtain⟨t,ht⟩:∃t,decide ((i:Int)=(ps.length:Int) - 1)=t:=⟨_,rfl⟩
     rw[show decide (p=[]∧decide (i=0)=false∧ps.drop (i+1)=[])=t from by
      rw[←ht]
      refine decide_eq_decide.2 ⟨fun h=>?_,fun h=>⟨c1,decide_eq_false c2,List.drop_of_length_le (by omega)⟩⟩
      have:=congrArg List.length h.2.2
      rw[List.length_drop,List.length_nil]at this
      omega]
     refine rgg [(2,30),(6,34)] (an8 s5 s21 s22 s23 s7 d1 d2 ht) ?_
     exact⟨rfl,rfl,rfl,⟨(vq1 s5),(vq1 s21),(vq1 s22),(vq1 s23),(vq1 s7),vr0⟩,vr0⟩
   ·have d1:decide (p=[])=false:=decide_eq_false c1
    rw[show decide (p=[]∧decide (i=0)=false∧ps.drop (i+1)=[])=false from decide_eq_false fun h=>c1 h.1]
    refine rgg [(2,30),(6,34)] (an6 s5 s21 s22 s23 s7 d1) ?_
    exact⟨rfl,rfl,rfl,⟨(vq1 s5),(vq1 s21),(vq1 s22),(vq1 s23),(vq1 s7),vr0⟩,vr0⟩
  rintro _ σ1 _ v1 ⟨rfl,rfl,hv1,⟨g5,g21,g22,g23,g7,g9⟩,g40⟩
  subst hv1
  by_cases hend:p=[]∧decide (i=0)=false∧ps.drop (i+1)=[]
  ·rw[if_pos hend]at hpd
   rw[decide_eq_true hend]at g40
   refine go (an2 g7 g40) ?_
   refine zaf (.inr rfl) Tryz.ntmps142 rfl (zac ((vr1 g7)) (zac (vr0) (zac (vr0) zae))) ?_
   rw[hpd]
   exact⟨hE,_,rfl,hown.mono hs1,by simp only;omega,hox⟩
  rw[if_neg hend]at hpd
  rw[decide_eq_false hend]at g40
  refine go (an2 g9 g40) ?_
  refine rc g9 (zj2 v p (by omega)) ?_
  rintro _ v2 ⟨rfl,hE2'⟩
  by_cases he:(labD p).2=0
  ·have d3:decide ((labD p).2=0)=true:=decide_eq_true he
   rw[if_pos he]at hpd
   refine rgo d3 ?_
   have hsv:=hE.size
   have hsv1:=hEv.size
   have hsv2:=hE2'.size
   refine rq ?_;intro gd K hgd hK
   try simp (disch:=first|omega|assumption|rfl) only[go_sem,g7]
   refine za5 (z:=vs []) rfl rfl rfl rfl rfl ?_
   intro y1 hy1 hys1 hyo
   try simp (disch:=first|omega|assumption|rfl) only[go_sem,g7]
   have hxy:=hE2'.trans hy1
   have hsy:=hy1.size
   refine za2 (e:=9) (hown.ext hxy) hyo.row rfl rfl rfl rfl rfl rfl ((vr1 g7)) (vr0) (fun q hq=>by simp at hq;subst hq;rfl) (by simp;omega) (by decide) (by omega) ?_
   intro sv' y2 hown2' hX2 hK2 hb2
   try simp only[go_sem]
   refine hK _ _ ?_;clear hK hgd;clear K;try clear gd
   refine go (an5 g5 g21 g22 g23 hi2) ?_
   refine⟨rfl,⟨(vq1 g5),(vq1 g21),(vq1 g22),(vq1 hi2)⟩,hX2 w (hE.trans hxy) (by omega),hX2 w1 (hEv.trans hxy) (Nat.le_refl _),sv',out++ [(labD p).1],vr0,by rw[List.map_append];exact hown2',by simp;omega,fun y hy=>?_,?_⟩
   ·rcases List.mem_append.1 hy with hy|hy
    ·exact hox y hy
    ·rw[List.mem_singleton.1 hy];have:=lab_len p;omega
   ·rw[hpd,show decide (i+1=0)=false from rfl]
  ·have d3:decide ((labD p).2=0)=false:=decide_eq_false he
   rw[if_neg he]at hpd
   refine rgo d3 ?_
   refine zaf (.inr rfl) Tryz.ntmps142 rfl (zac (vr0) (zac (vr0) (zac (vr0) zae))) ?_
   rw[hpd]
   exact⟨hE.trans hE2',_,rfl,Own.nil _ _ _,by simp,by simp⟩
 ·rintro σ v r ⟨⟨s5,s21,s22,s23⟩,hE,hEv,sv,out,s7,hown,hol,hox,hpd⟩
  rw[List.drop_length,zbF]at hpd
  refine go (an6 s5 s21 s22 s23 s7 r) ?_
  refine zaf (.inr rfl) Tryz.ntmps142 rfl (zac ((vr1 s7)) (zac (vr0) (zac (vr0) zae))) ?_
  rw[hpd]
  exact⟨hE,_,rfl,hown.mono hs1,by simp only;omega,hox⟩
theorem zhI{w:World}{v:Value}{l:List Value}(hr:Row w v l):Fn Tryz.prog 140 #[v] w (fun u w'=>Row w' u l∧Ext w w'∧∀x n k,u= .slice x n k→∃n' k',v= .slice x n' k'):=by
 obtain⟨a,c,rfl,hc,hl⟩:=hr
 refine enter Tryz.func140 Tryz.ntmps140 rfl rfl ?_
 repeat refine c_r ?_
 refine rg0 ?_
 repeat refine c_r ?_
 refine rq ?_;intro gd K hgd hK
 try simp only[go_sem]
 have hcl:slD Tryz.prog (some (TypeDesc.slice 9)) (Value.slice a l.length c) Option.none (some (Value.int IntKind.i64 ↑l.length)) (some (Value.int IntKind.i64 ↑l.length))=some (.slice a l.length l.length):=s_clip hc (by rfl)
 rw[hcl]
 try simp only[go_sem]
 refine hK _ _ ?_;clear hK hgd;clear K;try clear gd
 repeat refine c_r ?_
 refine rt0 Tryz.ntmps140 ?_
 exact⟨⟨a,l.length,rfl,Nat.le_refl _,hl⟩,Keep.refl _ _,fun x n k h=>by cases h;exact⟨_,_,rfl⟩⟩
theorem zct(w:World)(s:Lab)(ov:Value)(o:Nm)(hl:s.length≤500000000)(ho:Row w ov (o.map vs))(hoT:NmT o):Fn Tryz.prog 122 #[vs s,ov] w (fun v w'=>Ext w w'∧∃nv,v= .tuple #[nv,vi (zaI s o).2]∧Row w' nv ((zaI s o).1.map vs)∧BlkB w.heap.size w' nv):=by
 have none_blk:∀z:World,BlkB w.heap.size z (.slice Option.none 0 0):=fun z a n c h=>by cases h
 have ho2:=hoT.2
 refine enter Tryz.func122 Tryz.ntmps122 rfl rfl ?_
 refine go trivial ?_
 unfold zaI
 by_cases h1:s=[64]
 ·have d1:decide (s=[64])=true:=decide_eq_true h1
  rw[if_pos h1]
  refine go d1 ?_
  refine rc trivial (zkc ho (by omega)) ?_
  rintro cv w1 ⟨hown,hE1⟩
  refine rd trivial (zhI hown.row) ?_
  rintro uv w2 ⟨hrow,hE2,hcl⟩
  refine rgo trivial ?_
  refine zaf (.inr rfl) Tryz.ntmps122 rfl (zac (vr0) (zac (vr0) zae)) ?_
  refine⟨hE1.trans hE2,_,rfl,hrow,fun a n c hv=>?_⟩
  obtain⟨n',k',hv'⟩:=hcl _ _ _ hv
  have h1:=hown.ge (b:=a.block) (by rw[hv'];rfl)
  exact⟨h1.1,by have:=hE2.size;omega⟩
 have d1:decide (s=[64])=false:=decide_eq_false h1
 rw[if_neg h1]
 by_cases h2:s=[46]
 ·have d2:decide (s=[46])=true:=decide_eq_true h2
  rw[if_pos h2]
  refine go (an2 d1 d2) ?_
  refine rq ?_;intro gd K hgd hK
  try simp only[go_sem]
  refine zhA (z:=vs []) rfl rfl rfl rfl ?_
  intro w2 hE2 hs2 hown2
  try simp only[go_sem]
  refine hK _ _ ?_;clear hK hgd;clear K;try clear gd
  refine go trivial ?_
  refine zaf (.inr rfl) Tryz.ntmps122 rfl (zac (vr0) (zac (vr0) zae)) ?_
  exact⟨hE2,_,rfl,hown2.row,hown2.blk⟩
 have d2:decide (s=[46])=false:=decide_eq_false h2
 rw[if_neg h2]
 by_cases h3:s=[]
 ·have d3:decide (s=[])=true:=decide_eq_true h3
  rw[if_pos h3]
  refine go (an3 d1 d2 d3) ?_
  refine zaf (.inr rfl) Tryz.ntmps122 rfl (zac (vr0) (zac (vr0) zae)) ?_
  exact⟨Keep.refl _ _,_,rfl,(Own.nil 0 _ 0).row,none_blk _⟩
 have d3:decide (s=[])=false:=decide_eq_false h3
 rw[if_neg h3]
 refine go (an3 d1 d2 d3) ?_
 refine rc trivial (parts_ok w s (by omega)) ?_
 rintro _ w1 ⟨hE1,sv,rfl,hown,hpl,hpx⟩
 obtain⟨⟨n,wh,e⟩,hq⟩:∃q,zbl s=q:=⟨_,rfl⟩
 rw[hq]at hown hpl hpx ⊢
 simp only at hown hpl hpx ⊢
 have hs1:=hE1.size
 by_cases he:e=0
 rotate_left
 ·have d4:decide (e=0)=false:=decide_eq_false he
  rw[if_neg he]
  refine rgo d4 ?_
  refine zaf (.inr rfl) Tryz.ntmps122 rfl (zac (vr0) (zac (vr0) zae)) ?_
  exact⟨hE1,_,rfl,(Own.nil 0 _ 0).row,none_blk _⟩
 have d4:decide (e=0)=true:=decide_eq_true he
 rw[if_pos he]
 refine rgo d4 ?_
 refine zav (Q:=fun e' σ' ds' v'=>e'= .normal∧ds'=[]∧Ext w v'∧∃nv,σ' 6=nv∧Row v' nv ((n++if wh=true then [] else o).map vs)∧BlkB w.heap.size v' nv) ?_ ?_
 ·cases wh with
  |true=>
   refine go trivial ?_
   rw[if_pos rfl,List.append_nil]
   exact⟨rfl,rfl,hE1,_,vr0,hown.row,hown.blk⟩
  |false=>
   refine go trivial ?_
   rw[if_neg (by decide),List.map_append]
   refine rq ?_;intro gd K hgd hK
   try simp only[go_sem]
   refine za2 (e:=9) hown (ho.ext hE1) rfl rfl rfl rfl rfl rfl (vr0) (vr0) (fun q hq=>by obtain⟨_,_,rfl⟩:=List.mem_map.1 hq;rfl) (by simp;omega) (by decide) (by omega) ?_
   intro sv' y2 hown2' hX2 hK2 hb2
   try simp only[go_sem]
   refine hK _ _ ?_;clear hK hgd;clear K;try clear gd
   refine go trivial ?_
   exact⟨rfl,rfl,hX2 w hE1 (Nat.le_refl _),_,vr0,hown2'.row,hown2'.blk⟩
 rintro _ σ1 _ w2 ⟨rfl,rfl,hE2,nv,g6,hrow,hblk⟩
 obtain⟨m,hm⟩:∃m,(n++if wh=true then [] else o)=m:=⟨_,rfl⟩
 have hml:m.length≤1000000000∧∀l∈m,l.length≤1000000000:=by
  rw[←hm]
  cases wh with
  |true=>rw[if_pos rfl,List.append_nil];exact⟨by omega,fun l hl=>by have:=hpx l hl;omega⟩
  |false=>
   rw[if_neg (by decide),List.length_append]
   refine⟨by omega,fun l hl=>?_⟩
   rcases List.mem_append.1 hl with hl|hl
   ·have:=hpx l hl;omega
   ·have:=hoT.1 l hl;omega
 rw[hm]at hrow ⊢
 refine go g6 ?_
 refine rc g6 (zgr w2 nv m hrow hml.2 hml.1) ?_
 rintro _ w3 ⟨rfl,hE3⟩
 by_cases hc:zaX m=0
 ·have d5:decide (zaX m=0)=true:=decide_eq_true hc
  rw[if_pos hc]
  refine rgo (an2 d5 g6) ?_
  refine rc g6 (zhI (hrow.ext hE3)) ?_
  rintro uv w4 ⟨hr4,hE4,hcl⟩
  refine rgo trivial ?_
  refine zaf (.inr rfl) Tryz.ntmps122 rfl (zac (vr0) (zac (vr0) zae)) ?_
  refine⟨(hE2.trans hE3).trans hE4,_,rfl,hr4,fun a n' c hv=>?_⟩
  obtain⟨n2,k2,hv'⟩:=hcl _ _ _ hv
  have h1:=hblk _ _ _ hv'
  exact⟨h1.1,by have:=hE3.size;have:=hE4.size;omega⟩
 ·have d5:decide (zaX m=0)=false:=decide_eq_false hc
  rw[if_neg hc]
  refine rgo d5 ?_
  refine zaf (.inr rfl) Tryz.ntmps122 rfl (zac (vr0) (zac (vr0) zae)) ?_
  exact⟨hE2.trans hE3,_,rfl,(Own.nil 0 _ 0).row,none_blk _⟩
def WdC(cs:List Value)(x:Lab×Bool):Prop:=cs=[vs x.1,.bool x.2]
theorem zdL:zgU 2 WdC:=⟨fun h=>by rw[h];rfl,fun h q hq=>by rw[h]at hq;simp at hq;rcases hq with rfl|rfl<;>rfl⟩
def za6(e x:Int):Int:=if e=0 then x else e
structure Rdr(W0 w:World)(b:Nat)(ws:List (Lab×Bool))(ov:Value)(e:Int):Prop where
 ext:Ext W0 w
 low:W0.heap.size≤b
 at':∃wv,w.heap[b]? =some (.cells #[wv,ov,vi e] 234 (0,0))∧Rows 2 WdC W0 wv ws
 one:one ov=true
theorem Rdr.lt{W0 w:World}{b:Nat}{ws:List (Lab×Bool)}{ov:Value}{e:Int}(h:Rdr W0 w b ws ov e):b<w.heap.size:=by
 obtain⟨wv,h1,_⟩:=h.at'
 exact(Array.getElem?_eq_some_iff.1 h1).1
theorem Rdr.keep{W0 w x:World}{b:Nat}{ws:List (Lab×Bool)}{ov:Value}{e:Int}{S:Nat→Prop}(h:Rdr W0 w b ws ov e)(hk:Keep S w x)(hS:∀i,S i→W0.heap.size≤i∧¬i=b):Rdr W0 x b ws ov e:=by
 obtain⟨wv,h1,h2⟩:=h.at'
 exact⟨Keep.to_ext h.ext rfl (fun i hi=>(hS i hi).1) hk,h.low,⟨wv,(hk.block _ h.lt fun hs=>(hS _ hs).2 rfl).trans h1,h2⟩,h.one⟩
theorem Rdr.extx{W0 w x:World}{b:Nat}{ws:List (Lab×Bool)}{ov:Value}{e:Int}(h:Rdr W0 w b ws ov e)(hE:Ext w x):Rdr W0 x b ws ov e:=h.keep hE fun _ h=>h.elim
theorem zcm{W0 w:World}{b:Nat}{ws:List (Lab×Bool)}{ov:Value}{e:Int}(h:Rdr W0 w b ws ov e)(x:Int):Fn Tryz.prog 184 #[.pointer (some ⟨b,0,Option.none⟩),vi x] w (fun _ w'=>Rdr W0 w' b ws ov (za6 e x)∧Keep (fun i=>i=b) w w'):=by
 obtain⟨wv,hb,hr⟩:=h.at'
 have c2:zad w (some ⟨b,2,Option.none⟩)=some (vi e):=zaa hb rfl
 unfold za6
 refine enter Tryz.func184 Tryz.ntmps184 rfl rfl ?_
 by_cases he:e=0
 ·have d1:decide (e=0)=true:=decide_eq_true he
  rw[if_pos he]
  refine go (an3 c2 d1 (Nat.zero_add 2)) ?_
  refine rq ?_;intro gd K hgd hK
  try simp (disch:=first|omega|assumption|rfl) only[go_sem,Nat.zero_add]
  refine zan (P:=Tryz.prog) rfl rfl rfl hb (by simp) (by simp) ?_
  intro w1 hs1 hb1 hk1
  try simp only[go_sem]
  refine hK _ _ ?_;clear hK hgd;clear K;try clear gd
  refine go trivial ?_
  exact zaA (by simp) rfl ⟨⟨Keep.to_ext h.ext rfl (fun i hi=>by have:=h.low;omega) hk1,h.low,⟨wv,hb1,hr⟩,h.one⟩,hk1⟩
 ·have d1:decide (e=0)=false:=decide_eq_false he
  rw[if_neg he]
  refine go (an3 c2 d1 (Nat.zero_add 2)) ?_
  exact zaA (by simp) rfl ⟨h,Keep.refl _ _⟩
theorem zcL{W0 w:World}{b:Nat}{t:Lab}{q:Bool}{ws:List (Lab×Bool)}{ov:Value}{e:Int}(h:Rdr W0 w b ((t,q)::ws) ov e)(hl:ws.length≤1000000):Fn Tryz.prog 210 #[.pointer (some ⟨b,0,Option.none⟩)] w (fun v w'=>v=vs t∧Rdr W0 w' b ws ov (if q=true then za6 e 2 else e)∧Keep (fun i=>i=b) w w'):=by
 obtain⟨wv,hb,hr⟩:=h.at'
 obtain⟨a,c,rfl,hc,hg⟩:=hr.open
 rw[List.length_cons]at hc
 obtain⟨cs,g0,hcs⟩:=hg 0 (by simp)
 simp only[List.getElem_cons_zero,Nat.zero_mul,zak]at g0 hcs
 unfold WdC at hcs
 subst hcs
 have g:=zaj h.ext g0
 obtain⟨xa,rfl⟩:∃x,a=some x:=by
  cases a with
  |none=>cases g0
  |some x=>exact⟨x,rfl⟩
 have c0:zad w (some ⟨b,0,Option.none⟩)=some (.slice (some xa) (ws.length+1) c):=zaa hb rfl
 have hdr:=hr.drop (m:=1) (by simp)
 rw[List.drop_one,List.tail_cons,List.length_cons]at hdr
 have l0:(0:Int)<((ws.length+1:Nat):Int):=by omega
 have l1:(1:Int)≤((ws.length+1:Nat):Int):=by omega
 have l2:(1:Int)≤(c:Int):=by omega
 refine enter Tryz.func210 Tryz.ntmps210 rfl rfl ?_
 refine go trivial ?_
 refine rq ?_;intro gd K hgd hK
 try simp (disch:=first|omega|assumption|rfl) only[go_sem,c0,l0,Int.toNat_zero,Nat.zero_mul,zak,g]
 refine zbj (P:=Tryz.prog) (l:=[vs t,.bool q]) rfl (fun v hv=>by simp at hv;rcases hv with rfl|rfl<;>rfl) rfl rfl ?_
 intro w1 hE1 hs1 hB1
 try simp only[go_sem]
 refine hK _ _ ?_;clear hK hgd;clear K;try clear gd
 have hb1:=Ext.at hE1 hb
 have c1:zad w1 (some ⟨b,0,Option.none⟩)=some (.slice (some xa) (ws.length+1) c):=zaa hb1 rfl
 refine go trivial ?_
 refine rq ?_;intro gd K hgd hK
 try simp (disch:=first|omega|assumption|rfl) only[go_sem,c1,l1,l2]
 refine zan (P:=Tryz.prog) rfl rfl rfl hb1 (by simp) (by simp) ?_
 intro w2 hs2 hb2 hk2
 try simp only[go_sem]
 refine hK _ _ ?_;clear hK hgd;clear K;try clear gd
 have hlow:=h.low
 have hbl:=h.lt
 have hR2:Rdr W0 w2 b ws ov e:=⟨Keep.to_ext (h.ext.trans hE1) rfl (fun i hi=>by omega) hk2,h.low,⟨_,hb2,hdr⟩,h.one⟩
 have hk02:Keep (fun i=>i=b) w w2:=(hE1.mono fun _ _ h=>h.elim).trans hk2
 have hB2:=(hk2.block w.heap.size (by omega) (by omega)).trans hB1
 have t0:zad w2 (some ⟨w.heap.size,0,Option.none⟩)=some (vs t):=za1 (j:=0) hB2 rfl
 have t1:zad w2 (some ⟨w.heap.size,1,Option.none⟩)=some (.bool q):=za1 (j:=1) hB2 rfl
 cases q with
 |false=>
  refine go (an3 t0 t1 (Nat.zero_add 1)) ?_
  refine rt0 Tryz.ntmps210 ?_
  exact⟨rfl,hR2,hk02⟩
 |true=>
  refine go (an3 t0 t1 (Nat.zero_add 1)) ?_
  refine rc trivial (zcm hR2 2) ?_
  rintro _ w3 ⟨hR3,hk3⟩
  have u0:zad w3 (some ⟨w.heap.size,0,Option.none⟩)=some (vs t):=za1 (j:=0) ((hk3.block w.heap.size (by omega) (by omega)).trans hB2) rfl
  refine rgo u0 ?_
  refine rt0 Tryz.ntmps210 ?_
  exact⟨rfl,hR3,hk02.trans hk3⟩
def stopsL:Lab:=[32,9,59,40,41,34]
inductive zdK:Lab→Prop
 |nil:zdK []
 |pair (d:UInt8) (r:Lab):zdK r→zdK (92::d::r)
 |one (c:UInt8) (r:Lab):c∉stopsL→c≠92→zdK r→zdK (c::r)
inductive zfz:Lab→Prop
 |nil:zfz []
 |pair (d:UInt8) (r:Lab):zfz r→zfz (92::d::r)
 |one (c:UInt8) (r:Lab):c≠34→c≠92→zfz r→zfz (c::r)
def EndW(s:Lab):Prop:=s=[]∨∃c r,s=c::r∧c∈stopsL
inductive Toks:Lab→List (Lab×Bool)→Prop
 |nil:Toks [] []
 |blank (c:UInt8) (s:Lab) (ws:List (Lab×Bool)):c=32∨c=9→Toks s ws→Toks (c::s) ws
 |semi (s:Lab):Toks (59::s) []
 |word (p s:Lab) (ws:List (Lab×Bool)):p≠ []→zdK p→EndW s→Toks s ws→Toks (p++s) ((p,false)::ws)
 |quot (q s:Lab) (ws:List (Lab×Bool)):zfz q→Toks s ws→Toks (34::(q++34::s)) ((q,true)::ws)
theorem zdv{P:UInt8→Prop}(h:∀n:Fin 256,P (UInt8.ofNat n.val))(c:UInt8):P c:=by
 have:=h ⟨c.toNat,c.toNat_lt⟩
 rwa [UInt8.ofNat_toNat]at this
theorem ix_neg{c:UInt8}(h:c∉stopsL):decide (Lib.indexByte stopsL c<0)=true:=
 zdv (P:=fun c=>c∉stopsL→decide (Lib.indexByte stopsL c<0)=true) (by decide+kernel) c h
theorem ix_pos{c:UInt8}(h:c∈stopsL):decide (Lib.indexByte stopsL c<0)=false:=
 zdv (P:=fun c=>c∈stopsL→decide (Lib.indexByte stopsL c<0)=false) (by decide+kernel) c h
theorem zdC{s:Lab}{i:Nat}{c:UInt8}{r:Lab}(h:s.drop i=c::r):∃hi:i<s.length,s[i]=c∧s.drop (i+1)=r:=by
 have hi:i<s.length:=by
  by_cases h2:i<s.length
  ·exact h2
  ·rw[List.drop_eq_nil_of_le (by omega)]at h;cases h
 rw[List.drop_eq_getElem_cons hi]at h
 injection h with h1 h2
 exact⟨hi,h1,h2⟩
theorem e92(c:UInt8):decide ((c.toNat:Int)=92)=decide (c=92):=decide_eq_decide.2 ⟨fun h=>UInt8.toNat_inj.1 (show c.toNat=92 by omega),fun h=>by rw[h];rfl⟩
theorem e34(c:UInt8):decide ((c.toNat:Int)=34)=decide (c=34):=decide_eq_decide.2 ⟨fun h=>UInt8.toNat_inj.1 (show c.toNat=34 by omega),fun h=>by rw[h];rfl⟩
theorem bare_ok(w:World){p s:Lab}(hp:zdK p)(hs:EndW s)(hl:(p++s).length≤4000000000):Fn Tryz.prog 104 #[vs (p++s)] w (fun v w'=>v= .tuple #[vs p,vi p.length,vi 0]∧w'=w):=by
 obtain⟨t,ht⟩:∃t,p++s=t:=⟨_,rfl⟩
 have htl:t.length=p.length+s.length:=by rw[←ht,List.length_append]
 rw[ht]at hl ⊢
 refine enter Tryz.func104 Tryz.ntmps104 rfl rfl ?_
 refine go trivial ?_
 refine zbg (fun m σ ds v=>ds=[]∧∃i r,i+r.length=p.length∧m=r.length+1∧t.drop i=r++s∧zdK r∧(σ 0=vs t∧σ 5=vi i)∧v=w) (p.length+1) ?_ ?_
 ·exact⟨rfl,0,p,by omega,rfl,by rw[←ht];rfl,hp,⟨vr0,vr0⟩,rfl⟩
 rintro m σ ds v ⟨rfl,i,r,hir,hm,hdr,hr,⟨s0,s5⟩,hv⟩
 subst hv
 have i0:(0:Int)≤(i:Int):=by omega
 -- the end
 have fin:r=[]→i=p.length∧t.take i=p:=fun h=>by
  rw[h,List.length_nil]at hir
  have h1:i=p.length:=by omega
  exact⟨h1,by rw[h1,←ht,List.take_left'];rfl⟩
 cases hr with
 |nil=>
  obtain⟨h1,h2⟩:=fin rfl
  rw[List.nil_append]at hdr
  have k1:(i:Int)≤(t.length:Int):=by omega
  have key:∀{σ':Sto},σ' 0=vs t→σ' 5=vi i→True:=fun _ _=>trivial
  rcases hs with rfl| ⟨c,q,rfl,hc⟩
  ·have d1:decide ((i:Int)<(t.length:Int))=false:=decide_eq_false (by simp at htl;omega)
   refine go (an2 s0 s5) ?_
   refine rgg [(4,10)] (an3 s0 s5 d1) ?_
   refine go (an6 s0 s5 i0 k1 Int.toNat_natCast h2) ?_
   refine zaf (.inr rfl) Tryz.ntmps104 rfl (zac ((vr1 h2)) (zac ((vr1 s5)) (zac (vr0) zae))) ?_
   exact⟨by rw[h1];rfl,rfl⟩
  ·obtain⟨hi,hc1,_⟩:=zdC hdr
   have d1:decide ((i:Int)<(t.length:Int))=true:=decide_eq_true (by omega)
   have r2:(i:Int)<(t.length:Int):=by omega
   have hin:(i:Int).toNat<t.length:=by omega
   have hb2:t[(i:Int).toNat]'hin=c:=hc1
   have b4:((i:Nat):Int).toNat=i:=rfl
   refine go (an2 s0 s5) ?_
   refine rcg [(4,10)] (an7 s0 s5 d1 i0 r2 hb2 (an2 b4 hc1)) (zbQ v stopsL c) ?_
   rintro _ _ ⟨rfl,rfl⟩
   refine reg [(4,10)] (an2 d1 (ix_pos hc)) ?_
   refine go (an6 s0 s5 i0 k1 Int.toNat_natCast h2) ?_
   refine zaf (.inr rfl) Tryz.ntmps104 rfl (zac ((vr1 h2)) (zac ((vr1 s5)) (zac (vr0) zae))) ?_
   exact⟨by rw[h1];rfl,rfl⟩
 |pair d q hq=>
  obtain⟨hi,hc1,hdr1⟩:=zdC (show t.drop i=92::d::(q++s) from hdr)
  obtain⟨hi2,_,hdr2⟩:=zdC hdr1
  have d1:decide ((i:Int)<(t.length:Int))=true:=decide_eq_true (by omega)
  have r2:(i:Int)<(t.length:Int):=by omega
  have hin:(i:Int).toNat<t.length:=by omega
  have hb2:t[(i:Int).toNat]'hin=92:=hc1
  have b4:((i:Nat):Int).toNat=i:=rfl
  have i1:(i:Int)+1=((i+1:Nat):Int):=by push_cast;rfl
  have i2:((i+1:Nat):Int)+1=((i+2:Nat):Int):=by push_cast;rfl
  have d2:decide (((i+1:Nat):Int)=(t.length:Int))=false:=decide_eq_false (by omega)
  have hbc:zao 92= .int .u8 92:=rfl
  have d92:decide ((92:Int)=92)=true:=rfl
  refine go (an2 s0 s5) ?_
  refine rcg [(4,10)] (an7 s0 s5 d1 i0 r2 hb2 (an2 b4 hc1)) (zbQ v stopsL 92) ?_
  rintro _ _ ⟨rfl,rfl⟩
  refine reg [(4,10)] (an2 d1 (ix_neg (c:=92) (by decide))) ?_
  refine go (an9 s0 s5 i0 r2 hb2 b4 hc1 hbc (an5 d92 Bool.not_true i1 d2 i2)) ?_
  refine⟨m - 2,by omega,rfl,i+2,q,by simp at hir;omega,by simp at hm;omega,hdr2,hq,⟨(vq1 s0),(vq1 i2)⟩,rfl⟩
 |one c q hc h92 hq=>
  obtain⟨hi,hc1,hdr1⟩:=zdC (show t.drop i=c::(q++s) from hdr)
  have d1:decide ((i:Int)<(t.length:Int))=true:=decide_eq_true (by omega)
  have r2:(i:Int)<(t.length:Int):=by omega
  have hin:(i:Int).toNat<t.length:=by omega
  have hb2:t[(i:Int).toNat]'hin=c:=hc1
  have b4:((i:Nat):Int).toNat=i:=rfl
  have i1:(i:Int)+1=((i+1:Nat):Int):=by push_cast;rfl
  have hbc:zao c= .int .u8 (c.toNat:Int):=rfl
  have d92:decide ((c.toNat:Int)=92)=false:=by rw[e92];exact decide_eq_false h92
  refine go (an2 s0 s5) ?_
  refine rcg [(4,10)] (an7 s0 s5 d1 i0 r2 hb2 (an2 b4 hc1)) (zbQ v stopsL c) ?_
  rintro _ _ ⟨rfl,rfl⟩
  refine reg [(4,10)] (an2 d1 (ix_neg hc)) ?_
  refine go (an9 s0 s5 i0 r2 hb2 b4 hc1 hbc (an3 d92 Bool.not_false i1)) ?_
  refine⟨m - 1,by omega,rfl,i+1,q,by simp at hir;omega,by simp at hm;omega,hdr1,hq,⟨(vq1 s0),(vq1 i1)⟩,rfl⟩
theorem ziH(w:World){q s:Lab}(hq:zfz q)(hl:(34::(q++34::s)).length≤4000000000):Fn Tryz.prog 103 #[vs (34::(q++34::s))] w (fun v w'=>v= .tuple #[vs q,vi (q.length+2:Nat),vi 0]∧w'=w):=by
 obtain⟨t,ht⟩:∃t,34::(q++34::s)=t:=⟨_,rfl⟩
 have htl:t.length=q.length+s.length+2:=by rw[←ht];simp;omega
 rw[ht]at hl ⊢
 refine enter Tryz.func103 Tryz.ntmps103 rfl rfl ?_
 refine go trivial ?_
 refine zbg (fun m σ ds v=>ds=[]∧∃i r,i+r.length=q.length+1∧1≤i∧m=r.length+1∧t.drop i=r++34::s∧zfz r∧(σ 0=vs t∧σ 5=vi i)∧v=w) (q.length+1) ?_ ?_
 ·exact⟨rfl,1,q,by omega,by omega,rfl,by rw[←ht];rfl,hq,⟨vr0,vr0⟩,rfl⟩
 rintro m σ ds v ⟨rfl,i,r,hir,hi1,hm,hdr,hr,⟨s0,s5⟩,hv⟩
 subst hv
 have i0:(0:Int)≤(i:Int):=by omega
 cases hr with
 |nil=>
  obtain⟨hi,hc1,_⟩:=zdC (show t.drop i=34::s from hdr)
  have h1:i=q.length+1:=by simp at hir;omega
  have d1:decide ((i:Int)<(t.length:Int))=true:=decide_eq_true (by omega)
  have r2:(i:Int)<(t.length:Int):=by omega
  have hin:(i:Int).toNat<t.length:=by omega
  have hb2:t[(i:Int).toNat]'hin=34:=hc1
  have b4:((i:Nat):Int).toNat=i:=rfl
  have hbc:zao 34= .int .u8 34:=rfl
  have d34:decide ((34:Int)=34)=true:=rfl
  have i1:(i:Int)+1=((i+1:Nat):Int):=by push_cast;rfl
  have j0:(0:Int)≤1:=by decide
  have j1:(1:Int)≤(i:Int):=by omega
  have j2:(i:Int)≤(t.length:Int):=by omega
  have t1:(1:Int).toNat=1:=rfl
  have hsl:(t.drop 1).take (i - 1)=q:=by rw[←ht,h1];simp
  refine go (an9 s0 s5 d1 i0 r2 hb2 b4 hc1 (an9 hbc d34 i1 j0 j1 j2 t1 Int.toNat_natCast hsl)) ?_
  refine zaf (.inr rfl) Tryz.ntmps103 rfl (zac ((vr1 hsl)) (zac ((vr1 i1)) (zac (vr0) zae))) ?_
  exact⟨by rw[h1];rfl,rfl⟩
 |pair d r' hr'=>
  obtain⟨hi,hc1,hdr1⟩:=zdC (show t.drop i=92::d::(r'++34::s) from hdr)
  obtain⟨hi2,_,hdr2⟩:=zdC hdr1
  have d1:decide ((i:Int)<(t.length:Int))=true:=decide_eq_true (by omega)
  have r2:(i:Int)<(t.length:Int):=by omega
  have hin:(i:Int).toNat<t.length:=by omega
  have hb2:t[(i:Int).toNat]'hin=92:=hc1
  have b4:((i:Nat):Int).toNat=i:=rfl
  have i1:(i:Int)+1=((i+1:Nat):Int):=by push_cast;rfl
  have i2:((i+1:Nat):Int)+1=((i+2:Nat):Int):=by push_cast;rfl
  have hbc:zao 92= .int .u8 92:=rfl
  have d34:decide ((92:Int)=34)=false:=rfl
  have d92:decide ((92:Int)=92)=true:=rfl
  refine go (an9 s0 s5 d1 i0 r2 hb2 b4 hc1 (an5 hbc d34 d92 i1 i2)) ?_
  refine⟨m - 2,by omega,rfl,i+2,r',by simp at hir;omega,by omega,by simp at hm;omega,hdr2,hr',⟨(vq1 s0),(vq1 i2)⟩,rfl⟩
 |one c r' h34 h92 hr'=>
  obtain⟨hi,hc1,hdr1⟩:=zdC (show t.drop i=c::(r'++34::s) from hdr)
  have d1:decide ((i:Int)<(t.length:Int))=true:=decide_eq_true (by omega)
  have r2:(i:Int)<(t.length:Int):=by omega
  have hin:(i:Int).toNat<t.length:=by omega
  have hb2:t[(i:Int).toNat]'hin=c:=hc1
  have b4:((i:Nat):Int).toNat=i:=rfl
  have i1:(i:Int)+1=((i+1:Nat):Int):=by push_cast;rfl
  have hbc:zao c= .int .u8 (c.toNat:Int):=rfl
  have d34:decide ((c.toNat:Int)=34)=false:=by rw[e34];exact decide_eq_false h34
  have d92:decide ((c.toNat:Int)=92)=false:=by rw[e92];exact decide_eq_false h92
  refine go (an9 s0 s5 d1 i0 r2 hb2 b4 hc1 (an4 hbc d34 d92 i1)) ?_
  refine⟨m - 1,by omega,rfl,i+1,r',by simp at hir;omega,by omega,by simp at hm;omega,hdr1,hr',⟨(vq1 s0),(vq1 i1)⟩,rfl⟩
section
variable {P : Program} {d : Option Tmp} {ty : TypeId} {ps : String} {af : Array Edge} {g : Option (Nat × Bool)} {ρ : Operand → Value} {w : World} {K : Value → World → Prop}
end
section
variable {P : Program} {d : Option Tmp} {ty : TypeId} {ps : String} {af : Array Edge} {g : Option (Nat × Bool)} {ρ : Operand → Value} {w : World} {K : Value → World → Prop}
theorem zhe{e:TypeId}{cs:Array Value}{i:Nat}{v:Value}(he:(isAgg e).run P w= .ok false w)(hv:cs[i]? =some v):(part e cs i).run P w= .ok v w:=by
 unfold part
 simp only[Sem.run_bind,he,Result.andThen_ok,Bool.false_eq_true,if_false,hv,Sem.run_pure]
theorem eqIn_wd{t:TypeId}{f1 f2:Field}(ht:P.underlying t=some (.struct #[f1,f2]))(h1n:f1.name≠ "_")(h2n:f2.name≠ "_")(o1:f1.offset=0)(o2:f2.offset=1)(hs:P.stoodInHeld t=false)(h1:P.underlying f1.type=some .string)(h2:P.underlying f2.type=some .bool)(n:Nat)(a a':Lab)(b b':Bool):
  (Op.equalIn (n+2) t (.agg #[vs a,.bool b]) (.agg #[vs a',.bool b'])).run P w= .ok (decide ((a,b)=(a',b'))) w:=by
 have k1:(isAgg f1.type).run P w= .ok false w:=by simp[isAgg,underlying,program,Sem.run,h1]
 have k2:(isAgg f2.type).run P w= .ok false w:=by simp[isAgg,underlying,program,Sem.run,h2]
 have p1:∀x y:Value,(part f1.type #[x,y] 0).run P w= .ok x w:=fun _ _=>zhe k1 rfl
 have p2:∀x y:Value,(part f2.type #[x,y] 1).run P w= .ok y w:=fun _ _=>zhe k2 rfl
 have q1:∀a a':Lab,(Op.equalIn (n+1) f1.type (vs a) (vs a')).run P w= .ok (decide (a=a')) w:=fun a a'=>by
  have h0:((⟨a.toArray⟩:ByteArray)==⟨a'.toArray⟩)=decide (a=a'):=by
   show ByteArray.beq _ _=_
   unfold ByteArray.beq
   by_cases h:a=a'
   ·subst h;simp
   ·rw[decide_eq_false h]
    simp[h]
  simp[Op.equalIn,underlying,program,Sem.run,h1,vs,h0]
 have q2:∀b b':Bool,(Op.equalIn (n+1) f2.type (.bool b) (.bool b')).run P w= .ok (decide (b=b')) w:=fun b b'=>by
  cases b<;>cases b'<;>simp[Op.equalIn,underlying,program,Sem.run,h2]
 have hu:(underlying t).run P w= .ok (.struct #[f1,f2]) w:=by simp[underlying,program,Sem.run,ht]
 have hp:(program:Sem Program).run P w= .ok P w:=by simp[program,Sem.run]
 rw[Op.equalIn]
 simp only[Sem.run_bind,hu,hp,Result.andThen_ok,hs,Bool.false_eq_true,if_false]
 by_cases c1:a=a'
 ·by_cases c2:b=b'
  ·simp[List.forIn_cons,Sem.run_bind,p1,p2,q1,q2,c1,c2,h1n,h2n,o1,o2]
  ·simp[List.forIn_cons,Sem.run_bind,p1,p2,q1,q2,c1,c2,h1n,h2n,o1,o2]
 ·simp[List.forIn_cons,Sem.run_bind,p1,p2,q1,q2,c1,h1n,h2n,o1,o2]
theorem op_eqS{t yt:TypeId}{x y:Operand}{f1 f2:Field}{a a':Lab}{b b':Bool}(ht:P.underlying t=some (.struct #[f1,f2]))(h1n:f1.name≠ "_")(h2n:f2.name≠ "_")(o1:f1.offset=0)(o2:f2.offset=1)(hs:P.stoodInHeld t=false)(h1:P.underlying f1.type=some .string)(h2:P.underlying f2.type=some .bool)(hg:P.eqGuardType P.depth t=false)
  (hx:ρ x= .agg #[vs a,.bool b]) (hy:ρ y= .agg #[vs a',.bool b']) (h:K (.bool (decide ((a,b)=(a',b')))) w):
  opW P ⟨d,.binOp .eql t x y yt,ty,ps,af,g⟩ ρ w K:=by
 have e2:(Op.equal t (.agg #[vs a,.bool b]) (.agg #[vs a',.bool b'])).run P w= .ok (decide ((a,b)=(a',b'))) w:=eqIn_wd ht h1n h2n o1 o2 hs h1 h2 9998 a a' b b'
 have hr:(do eqGuard .eql t x y (.agg #[vs a,.bool b]) (.agg #[vs a',.bool b']);binOp .eql t (.agg #[vs a,.bool b]) (.agg #[vs a',.bool b']):Sem Value).run P w= .ok (.bool (decide ((a,b)=(a',b')))) w:=by
  simp[eqGuard,binOp,e2,program,Sem.run,hg]
 have:=zaw (P:=P) (K:=K) hr h
 rw[←hx,←hy]at this
 exact this
end
structure EntL where
 line:Int
 blank:Bool
 words:List (Lab×Bool)
def Fx(M:Nat→Prop)(w:World)(v:Value):Prop:=∀a n c,v= .slice (some a) n c→a.block<w.heap.size∧¬M a.block
theorem Fx.step{M M' S:Nat→Prop}{w x:World}{v:Value}(h:Fx M w v)(hk:Keep S w x)(hM:∀i,M' i→M i∨w.heap.size≤i):Fx M' x v:=fun a n c hv=>by
 obtain⟨h1,h2⟩:=h a n c hv
 have:=hk.size
 exact⟨by omega,fun h=>(hM _ h).elim h2 (by omega)⟩
def EntZ(M:Nat→Prop)(w:World)(cs:List Value)(e:EntL):Prop:=∃v,cs=[vi e.line,.bool e.blank,v]∧Rows 2 WdC w v e.words∧Fx M w v
theorem EntZ.step{M M' S:Nat→Prop}{w x:World}{cs:List Value}{e:EntL}(h:EntZ M w cs e)(hk:Keep S w x)(hS:∀i,S i→M i)(hM:∀i,M' i→M i∨w.heap.size≤i):EntZ M' x cs e:=by
 obtain⟨v,e1,h1,h2⟩:=h
 exact⟨v,e1,h1.blocks fun a n c hv=>hk.block _ (h2 a n c hv).1 fun h=>(h2 a n c hv).2 (hS _ h),h2.step hk hM⟩
def EntC(w:World)(cs:List Value)(e:EntL):Prop:=∃v,cs=[vi e.line,.bool e.blank,v]∧Rows 2 WdC w v e.words
theorem EntC.ext{w x:World}{cs:List Value}{e:EntL}(h:EntC w cs e)(hE:Ext w x):EntC x cs e:=by
 obtain⟨v,e1,h1⟩:=h
 exact⟨v,e1,h1.ext hE⟩
def gE(cs:List Value)(x:EntL×List Value):Prop:=cs=x.2∧cs.length=3∧∀q∈cs,one q=true
theorem zhq:zgU 3 gE:=⟨fun h=>h.2.1,fun h=>h.2.2⟩
def MutT(B:Nat)(ov wv:Value):Nat→Prop:=fun i=>i<B∨some i=ov.ownBlock∨some i=wv.ownBlock
structure TR(B:Nat)(w:World)(b:Nat)(out:List EntL)(nl:Int)(nb:Bool)(nw:List (Lab×Bool))(ln:Int)(bg:Bool)(ov wv:Value)(G:List (EntL×List Value)):Prop where
 h:w.heap[b]? =some (.cells #[ov,vi nl,.bool nb,wv,vi ln,.bool bg,.slice Option.none 0 0] 139 (0,0))
 lt:b<B
 le:B≤w.heap.size
 oo:Owns 3 gE B w 115 ov G
 ow:Owns 2 WdC B w 145 wv nw
 d:∀i,some i=ov.ownBlock→some i≠wv.ownBlock
 ol:out=G.map Prod.fst
 fr:∀x∈G,EntZ (MutT B ov wv) w x.2 x.1
def TRx(B:Nat)(w:World)(b:Nat)(out:List EntL)(nl:Int)(nb:Bool)(nw:List (Lab×Bool))(ln:Int)(bg:Bool):Prop:=∃ov wv G,TR B w b out nl nb nw ln bg ov wv G
section
variable {B b : Nat} {w x : World} {out : List EntL} {nl ln : Int} {nb bg : Bool} {nw : List (Lab × Bool)} {ov wv : Value} {G : List (EntL × List Value)}
theorem TR.ext(h:TR B w b out nl nb nw ln bg ov wv G)(hE:Ext w x):TR B x b out nl nb nw ln bg ov wv G:=
 ⟨Ext.at hE h.h,h.lt,Nat.le_trans h.le hE.size,h.oo.ext hE,h.ow.ext hE,h.d,h.ol,fun y hy=>(h.fr y hy).step hE (fun _ h=>h.elim) fun _ h=> .inl h⟩
theorem TRx.ext(h:TRx B w b out nl nb nw ln bg)(hE:Ext w x):TRx B x b out nl nb nw ln bg:=by
 obtain⟨ov,wv,G,h⟩:=h
 exact⟨ov,wv,G,h.ext hE⟩
theorem TR.turn(h:TR B w b out nl nb nw ln bg ov wv G){nl' ln':Int}{nb' bg':Bool}(hk:Keep (fun i=>i<B) w x)(hb:x.heap[b]? =some (.cells #[ov,vi nl',.bool nb',wv,vi ln',.bool bg',.slice Option.none 0 0] 139 (0,0))):TR B x b out nl' nb' nw ln' bg' ov wv G:=by
 have hl:=h.lt
 exact⟨hb,h.lt,Nat.le_trans h.le hk.size,h.oo.keep hk fun i hi e=>by have:=(h.oo.ge hi).1;omega,h.ow.keep hk fun i hi e=>by have:=(h.ow.ge hi).1;omega,h.d,h.ol,fun y hy=>(h.fr y hy).step hk (fun i e=> .inl e) fun _ h=> .inl h⟩
theorem TR.low(h:TR B w b out nl nb nw ln bg ov wv G)(hk:Keep (fun i=>i<B∧i≠b) w x):TR B x b out nl nb nw ln bg ov wv G:=by
 have hl:=h.lt
 have hle:=h.le
 exact TR.turn h (hk.mono fun i _ e=>e.1) ((hk.block b (by omega) (by omega)).trans h.h)
theorem TR.put(h:TR B w b out nl nb nw ln bg ov wv G){y:World}{wv':Value}{t:Lab×Bool}{nl':Int}(ho:Owns 2 WdC B y 145 wv' (nw++ [t]))(hk:Keep (fun i=>some i=wv.ownBlock) w y)(hb2:∀i,some i=wv'.ownBlock→some i=wv.ownBlock∨w.heap.size≤i)
  (hky:Keep (fun i=>i=b) y x) (hb:x.heap[b]? =some (.cells #[ov,vi nl',.bool nb,wv',vi ln,.bool bg,.slice Option.none 0 0] 139 (0,0))):TR B x b out nl' nb (nw++ [t]) ln bg ov wv' G:=by
 have hl:=h.lt
 have hw:=h.le
 have hsy:=hk.size
 have hsx:=hky.size
 have hkk:Keep (MutT B ov wv) w x:=(hk.mono fun i _ e=> .inr (.inr e)).trans (hky.mono fun i _ e=> .inl (by omega))
 refine⟨hb,hl,by omega,?_,ho.keep hky fun i hi e=>by have:=(ho.ge hi).1;omega,fun i hi e=>?_,h.ol,fun z hz=>(h.fr z hz).step hkk (fun i e=>e) fun i hi=>?_⟩
 ·exact(h.oo.keep hk fun i hi e=>h.d i hi e).keep hky fun i hi e=>by have:=(h.oo.ge hi).1;omega
 ·rcases hb2 i e with e2|e2
  ·exact h.d i hi e2
  ·have:=(h.oo.ge hi).2;omega
 ·rcases hi with hi|hi|hi
  ·exact .inl (.inl hi)
  ·exact .inl (.inr (.inl hi))
  ·exact(hb2 i hi).elim (fun e=> .inl (.inr (.inr e))) .inr
theorem TR.end_(h:TR B w b out nl nb nw ln bg ov wv G){y:World}{ov':Value}(ho:Owns 3 gE B y 115 ov' (G++ [(⟨nl,nb,nw⟩,[vi nl,.bool nb,wv])]))(hk:Keep (fun i=>some i=ov.ownBlock) w y)(hb2:∀i,some i=ov'.ownBlock→some i=ov.ownBlock∨w.heap.size≤i)
  (hky:Keep (fun i=>i=b) y x) (hb:x.heap[b]? =some (.cells #[ov',vi 0,.bool false,.slice Option.none 0 0,vi ln,.bool false,.slice Option.none 0 0] 139 (0,0))):TR B x b (out++ [⟨nl,nb,nw⟩]) 0 false [] ln false ov' (.slice Option.none 0 0) (G++ [(⟨nl,nb,nw⟩,[vi nl,.bool nb,wv])]):=by
 have hl:=h.lt
 have hw:=h.le
 have hsy:=hk.size
 have hsx:=hky.size
 have hkk:Keep (MutT B ov wv) w x:=(hk.mono fun i _ e=> .inr (.inl e)).trans (hky.mono fun i _ e=> .inl (by omega))
 have hM:∀i,MutT B ov' (.slice Option.none 0 0) i→MutT B ov wv i∨w.heap.size≤i:=fun i hi=>by
  rcases hi with hi|hi|hi
  ·exact .inl (.inl hi)
  ·exact(hb2 i hi).elim (fun e=> .inl (.inr (.inl e))) .inr
  ·cases hi
 refine⟨hb,hl,by omega,ho.keep hky fun i hi e=>by have:=(ho.ge hi).1;omega,Owns.nil _ _ _ _ _,fun i _ e=>(by cases e),by rw[h.ol];simp,fun z hz=>?_⟩
 rcases List.mem_append.1 hz with h1|h1
 ·exact(h.fr z h1).step hkk (fun i e=>e) hM
 ·rw[List.mem_singleton.1 h1]
  have hop:Owns 2 WdC B x 145 wv nw:=(h.ow.keep hk fun i hi e=>h.d i e hi).keep hky fun i hi e=>by have:=(h.ow.ge hi).1;omega
  refine⟨wv,rfl,hop.rows,fun a n c hv=>?_⟩
  have e:some a.block=wv.ownBlock:=by rw[hv];rfl
  have g:=h.ow.ge e
  refine⟨by omega,fun hm=>?_⟩
  rcases hm with e2|e2|e2
  ·omega
  ·rcases hb2 _ e2 with e3|e3
   ·exact h.d _ e3 e
   ·omega
  ·cases e2
theorem put_ok(h:TRx B w b out nl nb nw ln bg){t:Lab}{q:Bool}(hl:nw.length≤1000000000):Fn Tryz.prog 105 #[.pointer (some ⟨b,0,Option.none⟩),.agg #[vs t,.bool q]] w (fun _ w'=>TRx B w' b out (if nw=[] then ln else nl) nb (nw++ [(t,q)]) ln bg∧Keep (fun i=>i=b∨B≤i) w w'):=by
 obtain⟨ov,wv,G,h⟩:=h
 have hlt:=h.lt
 have hle:=h.le
 obtain⟨wa,wc,rfl,_⟩:=h.ow.rows.open
 refine enter Tryz.func105 Tryz.ntmps105 rfl rfl ?_
 refine go trivial ?_
 refine zam ?_
 intro w1 hE1 hs1 hA
 have h1:=h.ext hE1
 have k3:zad w1 (some ⟨b,3,Option.none⟩)=some (.slice wa nw.length wc):=zaa h1.h rfl
 have k4:zad w1 (some ⟨b,4,Option.none⟩)=some (vi ln):=zaa h1.h rfl
 have qw:zaq w1 (some ⟨w.heap.size,0,Option.none⟩) 2=some [vs t,.bool q]:=zai (n:=2) (l:=[vs t,.bool q]) hA rfl
 by_cases hn:nw=[]
 ·have d:decide ((nw.length:Int)=0)=true:=decide_eq_true (by rw[hn];rfl)
  rw[if_pos hn]
  refine go (an3 k3 d Nat.zero_add) ?_
  refine rq ?_;intro gd K hgd hK
  try simp (disch:=first|omega|assumption|rfl) only[go_sem,k4,Nat.zero_add]
  refine zan (P:=Tryz.prog) rfl rfl rfl h1.h (by simp) (by simp) ?_
  intro w2 hs2 hb2' hk2'
  try simp only[go_sem]
  refine hK _ _ ?_;clear hK hgd;clear K;try clear gd
  have h2:TR B w2 b out ln nb nw ln bg ov (.slice wa nw.length wc) G:=TR.turn h1 (hk2'.mono fun i _ e=>by omega) hb2'
  have hk02:Keep (fun i=>i=b∨B≤i) w w2:=(hE1.mono fun _ _ h=>h.elim).trans (hk2'.mono fun i _ e=>by omega)
  have hE2:zaq w2 (some ⟨w.heap.size,0,Option.none⟩) 2=some [vs t,.bool q]:=by
   rw[zem (w:=w1) (fun a ha=>by cases ha;exact hk2'.block w.heap.size (by omega) (by omega))]
   exact qw
  have k3':zad w2 (some ⟨b,3,Option.none⟩)=some (.slice wa nw.length wc):=zaa h2.h rfl
  have qw':=hE2
  refine go trivial ?_
  refine zaS (fun i=>i==8||i==12) [(0,true),(1,true),(2,true),(3,true),(4,true),(5,true),(6,true),(7,false),(8,false),(9,true),(10,true),(11,true),(12,false)] NoS mixed (by kernel_rfl) ?_;intro gd K x hgd hx hxe hK;have hx0:=zaP hxe;clear hxe
  have k3x:=zab hx0 k3'
  have qwx:=zaj hx0 qw'
  have hzx:=h2.ext hx0
  simp (disch:=first|omega|assumption|rfl) only[go_sem,k3x,qwx,Nat.zero_add]
  refine zeo zdL (l:=[vs t,.bool q]) (a:=(t,q)) rfl rfl rfl rfl rfl (by decide) ?_
  intro y1 hy1 hys1 ho1
  refine⟨.inr hy1.keep,?_⟩
  have hzy:=hzx.ext hy1
  simp (disch:=first|omega|assumption|rfl) only[go_sem]
  refine zd6 zdL hzy.ow ho1.rows rfl rfl rfl rfl rfl rfl (by decide) (vr0) (vr0) (by simp;omega) (by decide) hzy.le ?_
  intro wv' y2 ho2 hX2 hk2 hb2
  refine⟨.inl rfl,?_⟩
  have h1v:one wv'=true:=by rcases ho2.cases with ⟨e,_⟩| ⟨_,_,_,e,_⟩<;>rw[e]<;>rfl
  have hby2:=(hk2.block b (by have:=hzy.le;omega) fun e=>by have:=(hzy.ow.ge e).1;omega).trans hzy.h
  simp (disch:=first|omega|assumption|rfl) only[go_sem,Nat.zero_add]
  refine zan (P:=Tryz.prog) rfl rfl h1v hby2 (by simp) (by simp) ?_
  intro y3 hs3 hb3 hk3
  refine⟨.inl rfl,?_⟩
  simp (disch:=first|omega|assumption|rfl) only[go_sem]
  refine hK _ _ ?_;clear hK hgd;clear K;try clear gd
  refine go trivial ?_
  refine zaA (by simp) rfl ⟨⟨ov,wv',G,TR.put hzy ho2 hk2 hb2 hk3 hb3⟩,?_⟩
  exact(((hk02.trans (hx0.mono fun _ _ h=>h.elim)).trans (hy1.mono fun _ _ h=>h.elim)).trans (hk2.mono fun i _ e=>by have:=(hzy.ow.ge e).1;omega)).trans (hk3.mono fun i _ e=>by omega)
 ·have d:decide ((nw.length:Int)=0)=false:=decide_eq_false fun e=>hn (List.length_eq_zero_iff.1 (by omega))
  rw[if_neg hn]
  refine go (an3 k3 d Nat.zero_add) ?_
  have h2:=h1
  have hk02:Keep (fun i=>i=b∨B≤i) w w1:=hE1.mono fun _ _ h=>h.elim
  have k3':zad w1 (some ⟨b,3,Option.none⟩)=some (.slice wa nw.length wc):=zaa h2.h rfl
  have qw':=qw
  refine go trivial ?_
  refine zaS (fun i=>i==8||i==12) [(0,true),(1,true),(2,true),(3,true),(4,true),(5,true),(6,true),(7,false),(8,false),(9,true),(10,true),(11,true),(12,false)] NoS mixed (by kernel_rfl) ?_;intro gd K x hgd hx hxe hK;have hx0:=zaP hxe;clear hxe
  have k3x:=zab hx0 k3'
  have qwx:=zaj hx0 qw'
  have hzx:=h2.ext hx0
  simp (disch:=first|omega|assumption|rfl) only[go_sem,k3x,qwx,Nat.zero_add]
  refine zeo zdL (l:=[vs t,.bool q]) (a:=(t,q)) rfl rfl rfl rfl rfl (by decide) ?_
  intro y1 hy1 hys1 ho1
  refine⟨.inr hy1.keep,?_⟩
  have hzy:=hzx.ext hy1
  simp (disch:=first|omega|assumption|rfl) only[go_sem]
  refine zd6 zdL hzy.ow ho1.rows rfl rfl rfl rfl rfl rfl (by decide) (vr0) (vr0) (by simp;omega) (by decide) hzy.le ?_
  intro wv' y2 ho2 hX2 hk2 hb2
  refine⟨.inl rfl,?_⟩
  have h1v:one wv'=true:=by rcases ho2.cases with ⟨e,_⟩| ⟨_,_,_,e,_⟩<;>rw[e]<;>rfl
  have hby2:=(hk2.block b (by have:=hzy.le;omega) fun e=>by have:=(hzy.ow.ge e).1;omega).trans hzy.h
  simp (disch:=first|omega|assumption|rfl) only[go_sem,Nat.zero_add]
  refine zan (P:=Tryz.prog) rfl rfl h1v hby2 (by simp) (by simp) ?_
  intro y3 hs3 hb3 hk3
  refine⟨.inl rfl,?_⟩
  simp (disch:=first|omega|assumption|rfl) only[go_sem]
  refine hK _ _ ?_;clear hK hgd;clear K;try clear gd
  refine go trivial ?_
  refine zaA (by simp) rfl ⟨⟨ov,wv',G,TR.put hzy ho2 hk2 hb2 hk3 hb3⟩,?_⟩
  exact(((hk02.trans (hx0.mono fun _ _ h=>h.elim)).trans (hy1.mono fun _ _ h=>h.elim)).trans (hk2.mono fun i _ e=>by have:=(hzy.ow.ge e).1;omega)).trans (hk3.mono fun i _ e=>by omega)
end
section
variable {P : Program} {w : World} {e : TypeId} {K : Value → World → Prop}
theorem zdj(A V:List Value){B:List Value}{t:TypeId}{b:Nat}{l:List Value}(hb:w.heap[b]? =some (.cells (A++V++B).toArray e (0,0)))(hl:V.length=l.length)(h1:∀v∈l,one v=true)(hs:tyS P t=l.length)(hi:(P.info? t).isSome=true)
  (hK:∀w',w'.heap.size=w.heap.size→w'.heap[b]? =some (.cells (A++l++B).toArray e (0,0))→Keep (fun i=>i=b) w w'→K undef w'):stK P t (.pointer (some ⟨b,A.length,Option.none⟩)) (.agg l.toArray) w K:=by
 obtain⟨w',k1,k2,k3,cur',k4,k5⟩:=zc2 (o:=A.length) l 0 w A V B _ hb (by simp) rfl hl h1
 refine⟨by simp[Value.cells,hs],hi,w',by simpa [Value.cells] using k1,hK w' k2 ?_ k3⟩
 rw[k4]
 have:cur'=(A++l++B).toArray:=by
  apply Array.ext'
  simpa using k5
 rw[this]
end
section
variable {B b : Nat} {w x : World} {out : List EntL} {nl ln : Int} {nb bg : Bool} {nw : List (Lab × Bool)}
theorem end_ok(h:TRx B w b out nl nb nw ln bg)(hl:out.length≤1000000000)(hwl:nw.length≤1000000000):Fn Tryz.prog 83 #[.pointer (some ⟨b,0,Option.none⟩)] w (fun _ w'=>TRx B w' b (if nw=[] then out else out++ [⟨nl,nb,nw⟩]) 0 false [] ln false∧Keep (fun i=>i=b∨B≤i) w w'):=by
 obtain⟨ov,wv,G,h⟩:=h
 have hlt:=h.lt
 have hle:=h.le
 obtain⟨wa,wc,rfl,_⟩:=h.ow.rows.open
 obtain⟨oa,oc,hov,_⟩:=h.oo.rows.open
 have hGl:G.length≤1000000000:=by have:=h.ol;rw[this,List.length_map]at hl;exact hl
 have k3:zad w (some ⟨b,3,Option.none⟩)=some (.slice wa nw.length wc):=zaa h.h rfl
 have k0:zad w (some ⟨b,0,Option.none⟩)=some ov:=zaa h.h rfl
 have qn:zaq w (some ⟨b,1,Option.none⟩) 3=some [vi nl,.bool nb,.slice wa nw.length wc]:=by
  have h7:=zai (n:=7) (l:=[ov,vi nl,.bool nb,.slice wa nw.length wc,vi ln,.bool bg,.slice Option.none 0 0]) h.h rfl
  have h6:=zcC (m:=1) (k:=6) h7
  rw[zaZ]at h6
  exact zeN (m:=3) (k:=3) h6
 have z3:∀v∈([vi 0,.bool false,.slice Option.none 0 0]:List Value),one v=true:=fun v hv=>by simp at hv;rcases hv with rfl|rfl|rfl<;>rfl
 refine enter Tryz.func83 Tryz.ntmps83 rfl rfl ?_
 by_cases hn:nw=[]
 ·have d:decide ((0:Int)<(nw.length:Int))=false:=decide_eq_false (by rw[hn];simp)
  rw[if_pos hn]
  refine go (an3 k3 d Nat.zero_add) ?_
  refine rq ?_;intro gd K hgd hK
  try simp only[go_sem]
  refine⟨by kernel_rfl,?_⟩
  rw[show bdV Tryz.prog 115 []=some (.agg #[vi 0,.bool false,.slice Option.none 0 0]) from by kernel_rfl]
  try simp (disch:=first|omega|assumption|rfl) only[go_sem,Nat.zero_add]
  refine zdj (P:=Tryz.prog) (t:=115) [ov] [vi nl,.bool nb,.slice wa nw.length wc] (B:=[vi ln,.bool bg,.slice Option.none 0 0]) (l:=[vi 0,.bool false,.slice Option.none 0 0]) h.h rfl z3 rfl rfl ?_
  intro w2 hs2 hb2 hk2
  try simp (disch:=first|omega|assumption|rfl) only[go_sem,Nat.zero_add]
  refine zan (P:=Tryz.prog) rfl rfl rfl hb2 (by simp) (by simp) ?_
  intro w3 hs3 hb3 hk3
  try simp only[go_sem]
  refine hK _ _ ?_;clear hK hgd;clear K;try clear gd
  refine go trivial ?_
  have hnil:nw=[]:=hn
  subst hnil
  refine zaA (by simp) rfl ⟨⟨ov,.slice Option.none 0 0,G,?_⟩,(hk2.mono fun i _ e=>by omega).trans (hk3.mono fun i _ e=>by omega)⟩
  have hkk:Keep (fun i=>i=b) w w3:=hk2.trans hk3
  exact⟨hb3,hlt,Nat.le_trans hle hkk.size,h.oo.keep hkk fun i hi e=>by have:=(h.oo.ge hi).1;omega,Owns.nil _ _ _ _ _,fun i _ e=>(by cases e),h.ol,fun y hy=>(h.fr y hy).step hkk (fun i e=> .inl (by omega)) fun i hi=>by
   rcases hi with hi|hi|hi
   ·exact .inl (.inl hi)
   ·exact .inl (.inr (.inl hi))
   ·cases hi⟩
 ·have d:decide ((0:Int)<(nw.length:Int))=true:=decide_eq_true (by have:nw.length≠0:=fun e=>hn (List.length_eq_zero_iff.1 e);omega)
  rw[if_neg hn]
  refine go (an3 k3 d Nat.zero_add) ?_
  refine zav (Q:=fun e' σ' ds' v'=>e'= .normal∧ds'=[]∧σ' 0= .pointer (some ⟨b,0,Option.none⟩)∧∃ov' y,Owns 3 gE B y 115 ov' (G++ [(⟨nl,nb,nw⟩,[vi nl,.bool nb,.slice wa nw.length wc])])∧(∃x0,Ext w x0∧Keep (fun i=>some i=ov.ownBlock) x0 y∧∀i,some i=ov'.ownBlock→some i=ov.ownBlock∨x0.heap.size≤i)∧Keep (fun i=>i=b) y v'∧v'.heap[b]? =some (.cells #[ov',vi nl,.bool nb,.slice wa nw.length wc,vi ln,.bool bg,.slice Option.none 0 0] 139 (0,0))) ?_ ?_
  ·refine zaS (fun i=>i==10||i==13) [(0,true),(1,true),(2,true),(3,true),(4,true),(5,true),(6,true),(7,true),(8,true),(9,false),(10,false),(11,true),(12,true),(13,false)] NoS mixed (by kernel_rfl) ?_;intro gd K x hgd hx hxe hK;have hx0:=zaP hxe;clear hxe
   have k0x:=zab hx0 k0
   have qnx:=zaj hx0 qn
   have hzx:=h.ext hx0
   simp (disch:=first|omega|assumption|rfl) only[go_sem,k0x,qnx,Nat.zero_add]
   refine zeo zhq (l:=[vi nl,.bool nb,.slice wa nw.length wc]) (a:=(⟨nl,nb,nw⟩,[vi nl,.bool nb,.slice wa nw.length wc])) rfl rfl rfl rfl ⟨rfl,rfl,fun v hv=>by simp at hv;rcases hv with rfl|rfl|rfl<;>rfl⟩ (by decide) ?_
   intro y1 hy1 hys1 ho1
   refine⟨.inr hy1.keep,?_⟩
   have hzy:=hzx.ext hy1
   simp (disch:=first|omega|assumption|rfl) only[go_sem]
   refine zd6 zhq hzy.oo ho1.rows rfl rfl rfl rfl rfl rfl (by decide) (vr0) (vr0) (by simp;omega) (by decide) hzy.le ?_
   intro ov' y2 ho2 hX2 hk2 hb2
   refine⟨.inl rfl,?_⟩
   have h1v:one ov'=true:=by rcases ho2.cases with ⟨e,_⟩| ⟨_,_,_,e,_⟩<;>rw[e]<;>rfl
   have hby2:=(hk2.block b (by have:=hzy.le;omega) fun e=>by have:=(hzy.oo.ge e).1;omega).trans hzy.h
   simp (disch:=first|omega|assumption|rfl) only[go_sem,Nat.zero_add]
   refine zan (P:=Tryz.prog) rfl rfl h1v hby2 (by simp) (by simp) ?_
   intro y3 hs3 hb3 hk3
   refine⟨.inl rfl,?_⟩
   simp (disch:=first|omega|assumption|rfl) only[go_sem]
   refine hK _ _ ?_;clear hK hgd;clear K;try clear gd
   exact⟨rfl,rfl,vr0,ov',y2,ho2,⟨y1,hx0.trans hy1,hk2,hb2⟩,hk3,hb3⟩
  rintro _ σ1 _ v1 ⟨rfl,rfl,s0,ov',y,ho,⟨x0,hE0,hk,hb2⟩,hky,hbv⟩
  have hx:=h.ext hE0
  have h1v:one ov'=true:=by rcases ho.cases with ⟨e,_⟩| ⟨_,_,_,e,_⟩<;>rw[e]<;>rfl
  refine go s0 ?_
  refine rq ?_;intro gd K hgd hK
  try simp (disch:=first|omega|assumption|rfl) only[go_sem,s0]
  refine⟨by kernel_rfl,?_⟩
  rw[show bdV Tryz.prog 115 []=some (.agg #[vi 0,.bool false,.slice Option.none 0 0]) from by kernel_rfl]
  try simp (disch:=first|omega|assumption|rfl) only[go_sem,s0,Nat.zero_add]
  refine zdj (P:=Tryz.prog) (t:=115) [ov'] [vi nl,.bool nb,.slice wa nw.length wc] (B:=[vi ln,.bool bg,.slice Option.none 0 0]) (l:=[vi 0,.bool false,.slice Option.none 0 0]) hbv rfl z3 rfl rfl ?_
  intro w2 hs2 hb2' hk2
  try simp (disch:=first|omega|assumption|rfl) only[go_sem,s0,Nat.zero_add]
  refine zan (P:=Tryz.prog) rfl rfl rfl hb2' (by simp) (by simp) ?_
  intro w3 hs3 hb3 hk3
  try simp only[go_sem]
  refine hK _ _ ?_;clear hK hgd;clear K;try clear gd
  refine go trivial ?_
  refine zaA (by simp) rfl ⟨⟨ov',.slice Option.none 0 0,_,TR.end_ hx ho hk hb2 ((hky.trans hk2).trans hk3) hb3⟩,?_⟩
  exact((((hE0.mono fun _ _ h=>h.elim).trans (hk.mono fun i _ e=>by have:=(hx.oo.ge e).1;omega)).trans (hky.mono fun i _ e=>by omega)).trans (hk2.mono fun i _ e=>by omega)).trans (hk3.mono fun i _ e=>by omega)
theorem zg4{s:Lab}{ws:List (Lab×Bool)}(h:Toks s ws):ws.length≤s.length:=by
 induction h with
 |nil=>exact Nat.le_refl _
 |blank c s ws _ _ ih=>simp;omega
 |semi s=>simp
 |word p s ws hp _ _ _ ih=>
  cases p with
  |nil=>exact absurd rfl hp
  |cons c p=>simp;omega
 |quot q s ws _ _ ih=>simp;omega
theorem ziZ(c:UInt8)(n:Nat)(hn:n<256):decide ((c.toNat:Int)=(n:Int))=decide (c=UInt8.ofNat n):=decide_eq_decide.2 ⟨fun h=>UInt8.toNat_inj.1 (by rw[UInt8.toNat_ofNat_of_lt' hn];omega),fun h=>by rw[h,UInt8.toNat_ofNat_of_lt' hn]⟩
def zgW(c:UInt8):Prop:=decide ((c.toNat:Int)=32)=false∧decide ((c.toNat:Int)=9)=false∧decide ((c.toNat:Int)=59)=false∧decide ((c.toNat:Int)=40)=false∧decide ((c.toNat:Int)=41)=false∧decide ((c.toNat:Int)=34)=false
theorem not_stop{c:UInt8}(h:c∉stopsL):zgW c:=
 zdv (P:=fun c=>c∉stopsL→zgW c) (by unfold zgW;decide+kernel) c h
theorem zjP{c:UInt8}{p:Lab}(h:zdK (c::p)):c∉stopsL:=by
 cases h with
 |pair d r _=>decide
 |one _ _ h _ _=>exact h
theorem read_ok{s:Lab}{ws:List (Lab×Bool)}(h:TRx B w b out 0 nb [] ln bg)(hT:Toks s ws)(hl:s.length≤100000000):Fn Tryz.prog 82 #[.pointer (some ⟨b,0,Option.none⟩),vs s] w (fun v w'=>v=vi 0∧TRx B w' b out (if ws=[] then 0 else ln) nb ws ln bg∧Keep (fun i=>i=b∨B≤i) w w'):=by
 have hwl:=zg4 hT
 have hbl:b<B∧B≤w.heap.size:=by
  obtain⟨ov,wv,G,h⟩:=h
  exact⟨h.lt,h.le⟩
 have i0:(0:Int)≤0:=by decide
 have i1:(0:Int)≤1:=by decide
 have t1:(1:Int).toNat=1:=rfl
 have e00:decide ((0:Int)=0)=true:=rfl
 refine enter Tryz.func82 Tryz.ntmps82 rfl rfl ?_
 refine go trivial ?_
 refine zbg (fun m σ ds v=>ds=[]∧∃s' ws' nw',m=s'.length∧s'.length≤s.length∧Toks s' ws'∧nw'++ws'=ws∧(σ 0= .pointer (some ⟨b,0,Option.none⟩)∧σ 1=vs s')∧TRx B v b out (if nw'=[] then 0 else ln) nb nw' ln bg∧Keep (fun i=>i=b∨B≤i) w v) s.length ?_ ?_
 ·exact⟨rfl,s,ws,[],rfl,Nat.le_refl _,hT,rfl,⟨vr0,vr0⟩,h,Keep.refl _ _⟩
 rintro m σ ds v ⟨rfl,s',ws',nw',hm,hsl,hT',hws,⟨s0,s1⟩,hR,hK⟩
 have hnl:nw'.length≤100000000:=by
  have:=congrArg List.length hws
  rw[List.length_append]at this
  omega
 by_cases hs0:s'=[]
 ·subst hs0
  have hw0:ws'=[]:=by
   generalize hz:([]:Lab)=z at hT'
   cases hT' with
   |nil=>rfl
   |blank c s ws _ _=>cases hz
   |semi s=>cases hz
   |word p s ws hp _ _ _=>exact absurd (List.append_eq_nil_iff.1 hz.symm).1 hp
   |quot q s ws _ _=>cases hz
  rw[hw0,List.append_nil]at hws
  subst hws
  have d:decide (([]:Lab)=[])=true:=rfl
  refine go (an3 s0 s1 d) ?_
  refine zaf (.inr rfl) Tryz.ntmps82 rfl (zac (vr0) zae) ?_
  exact⟨rfl,hR,hK⟩
 have d:decide (s'=[])=false:=decide_eq_false hs0
 have hsp:0<s'.length:=List.length_pos_iff.2 hs0
 have r2:(0:Int)<(s'.length:Int):=by omega
 have hin:(0:Int).toNat<s'.length:=hsp
 -- a word is laid
 have lay:∀{v1:World},Ext v v1→TRx B v1 b out (if nw'=[] then 0 else ln) nb nw' ln bg∧Keep (fun i=>i=b∨B≤i) w v1:=fun hE=>⟨hR.ext hE,hK.trans (hE.mono fun _ _ h=>h.elim)⟩
 have onw:∀q∈([vs [],.bool false]:List Value),one q=true:=fun q hq=>by simp at hq;rcases hq with rfl|rfl<;>rfl
 refine go (an3 s0 s1 d) ?_
 refine rq ?_;intro gd K hgd hK
 try simp only[go_sem]
 refine⟨by kernel_rfl,?_⟩
 rw[show bdV Tryz.prog 145 []=some (.agg #[vs [],.bool false]) from by kernel_rfl]
 try simp only[go_sem]
 refine zbj (P:=Tryz.prog) (l:=[vs [],.bool false]) rfl onw rfl rfl ?_
 intro v1 hE1 hs1' hA
 try simp only[go_sem]
 refine hK _ _ ?_;clear hK hgd;clear K;try clear gd
 obtain⟨p7,hp7⟩:∃p,v.heap.size=p:=⟨_,rfl⟩
 rw[hp7]at hA hs1' ⊢
 obtain⟨hR1,hK1⟩:=lay hE1
 have hbp:B≤p7:=by have:=hK.size;omega
 have f0:zad v1 (some ⟨p7,0,Option.none⟩)=some (vs []):=zaa hA rfl
 have f1:zad v1 (some ⟨p7,1,Option.none⟩)=some (.bool false):=zaa hA rfl
 cases hT' with
 |nil=>exact absurd rfl hs0
 |blank c s2 _ hc hT''=>
  have l1:(1:Int)≤((c::s2).length:Int):=by simp;omega
  have hdr:(c::s2).drop 1=s2:=rfl
  rcases hc with rfl|rfl
  ·have hb2:((32:UInt8)::s2)[(0:Int).toNat]'hin=32:=rfl
   have hbc:zao 32= .int .u8 32:=rfl
   have d1:decide ((32:Int)=32)=true:=rfl
   refine go (an8 s0 s1 i0 r2 hb2 hbc d1 e00) ?_
   refine rgg [(2,47)] (an4 f1 f0 Nat.zero_add (show decide (([]:Lab)=[])=true from rfl)) ?_
   refine go (an6 s0 s1 i1 l1 t1 hdr) ?_
   refine⟨s2.length,by rw[hm];simp,rfl,s2,_,nw',rfl,by simp at hsl;omega,hT'',hws,⟨(vq1 s0),(vq1 hdr)⟩,hR1,hK1⟩
  ·have hb2:((9:UInt8)::s2)[(0:Int).toNat]'hin=9:=rfl
   have hbc:zao 9= .int .u8 9:=rfl
   have d0:decide ((9:Int)=32)=false:=rfl
   have d1:decide ((9:Int)=9)=true:=rfl
   refine go (an9 s0 s1 i0 r2 hb2 hbc d0 d1 e00) ?_
   refine rgg [(2,47)] (an4 f1 f0 Nat.zero_add (show decide (([]:Lab)=[])=true from rfl)) ?_
   refine go (an6 s0 s1 i1 l1 t1 hdr) ?_
   refine⟨s2.length,by rw[hm];simp,rfl,s2,_,nw',rfl,by simp at hsl;omega,hT'',hws,⟨(vq1 s0),(vq1 hdr)⟩,hR1,hK1⟩
 |semi s2=>
  have hb2:((59:UInt8)::s2)[(0:Int).toNat]'hin=59:=rfl
  have hbc:zao 59= .int .u8 59:=rfl
  have d0:decide ((59:Int)=32)=false:=rfl
  have d1:decide ((59:Int)=9)=false:=rfl
  have d2:decide ((59:Int)=59)=true:=rfl
  refine go (an9 s0 s1 i0 r2 hb2 hbc d0 d1 d2) ?_
  rw[List.append_nil]at hws
  subst hws
  refine zaf (.inr rfl) Tryz.ntmps82 rfl (zac (vr0) zae) ?_
  exact⟨rfl,hR1,hK1⟩
 |quot q s2 ws2 hq hT''=>
  have hb2:((34:UInt8)::(q++34::s2))[(0:Int).toNat]'hin=34:=rfl
  have hbc:zao 34= .int .u8 34:=rfl
  have d0:decide ((34:Int)=32)=false:=rfl
  have d1:decide ((34:Int)=9)=false:=rfl
  have d2:decide ((34:Int)=59)=false:=rfl
  have d3:decide ((34:Int)=40)=false:=rfl
  have d4:decide ((34:Int)=41)=false:=rfl
  have d5:decide ((34:Int)=34)=true:=rfl
  have hlq:((34:UInt8)::(q++34::s2)).length=q.length+2+s2.length:=by simp;omega
  refine go (an9 s0 s1 i0 r2 hb2 hbc d0 d1 (an4 d2 d3 d4 d5)) ?_
  refine rq ?_;intro gd K hgd hK
  try simp (disch:=first|omega|assumption|rfl) only[go_sem,Nat.zero_add]
  refine zan (P:=Tryz.prog) rfl rfl rfl hA (by simp) (by simp) ?_
  intro v2 hs2 hA2 hk2
  try simp only[go_sem]
  refine hK _ _ ?_;clear hK hgd;clear K;try clear gd
  refine go trivial ?_
  refine rq ?_;intro gd K hgd hK
  try simp (disch:=first|omega|assumption|rfl) only[go_sem,s1]
  refine Fn.mono (ziH v2 hq (by omega)) ?_
  rintro _ v2' ⟨rfl,hv2'⟩
  subst hv2'
  try simp (disch:=first|omega|assumption|rfl) only[go_sem,Nat.add_zero]
  refine zan (P:=Tryz.prog) rfl rfl rfl hA2 (by simp) (by simp) ?_
  intro v3 hs3 hA3 hk3
  try simp only[go_sem]
  refine hK _ _ ?_;clear hK hgd;clear K;try clear gd
  have n0:(0:Int)≤((q.length+2:Nat):Int):=by omega
  have n1:((q.length+2:Nat):Int)≤(((34:UInt8)::(q++34::s2)).length:Int):=by omega
  have hdr:((34:UInt8)::(q++34::s2)).drop (q.length+2)=s2:=by
   show(q++34::s2).drop (q.length+1)=s2
   rw[show q++34::s2=(q++ [34])++s2 by simp]
   exact List.drop_left' (by simp)
  have hz:zaq v3 (some ⟨p7,0,Option.none⟩) 2=some [vs q,.bool true]:=zai (n:=2) (l:=[vs q,.bool true]) hA3 rfl
  have g1:zad v3 (some ⟨p7,1,Option.none⟩)=some (.bool true):=zaa hA3 rfl
  have g0:zad v3 (some ⟨p7,0,Option.none⟩)=some (vs q):=zaa hA3 rfl
  have hkv:Keep (fun i=>i=p7) v1 v3:=hk2.trans hk3
  have hR3:TRx B v3 b out (if nw'=[] then 0 else ln) nb nw' ln bg:=hR.ext (Keep.to_ext hE1 rfl (fun i hi=>by omega) hkv)
  refine go (an3 s0 s1 e00) ?_
  refine rgg [(2,47)] (an2 g1 Nat.zero_add) ?_
  refine go trivial ?_
  refine rc (an3 s0 hz trivial) (put_ok hR3 (by omega)) ?_
  rintro _ v4 ⟨hR4,hk4⟩
  refine rgo (an9 s0 s1 n0 n1 Int.toNat_natCast hdr trivial trivial trivial) ?_
  refine⟨_,?_,rfl,s2,_,nw'++ [(q,true)],rfl,by omega,hT'',by rw[←hws];simp,⟨(vq1 s0),(vq1 hdr)⟩,?_,(hK1.trans (hkv.mono fun i _ e=>by omega)).trans hk4⟩
  ·rw[hm];omega
  ·rw[if_neg (by simp)]
   by_cases hn:nw'=[]
   ·rw[if_pos hn]at hR4;exact hR4
   ·rw[if_neg hn,if_neg hn]at hR4;exact hR4
 |word p s2 ws2 hp0 hp hE' hT''=>
  obtain⟨c,p',hpe⟩:=List.exists_cons_of_ne_nil hp0
  obtain⟨d0,d1,d2,d3,d4,d5⟩:=not_stop (zjP (hpe▸hp))
  obtain⟨z,hz⟩:∃z,p++s2=z:=⟨_,rfl⟩
  have hbare:Fn Tryz.prog 104 #[vs z] v1 (fun v w'=>v= .tuple #[vs p,vi p.length,vi 0]∧w'=v1):=hz▸bare_ok v1 hp hE' (by omega)
  have hzl:z.length=p.length+s2.length:=by rw[←hz,List.length_append]
  have hzd:z.drop p.length=s2:=by rw[←hz];exact List.drop_left' rfl
  have hzc:z=c::(p'++s2):=by rw[←hz,hpe];rfl
  rw[hz]at hm hsl r2 d s1
  have hin:(0:Int).toNat<z.length:=by rw[hzl,hpe];simp;omega
  have hb2:z[(0:Int).toNat]'hin=c:=by subst hzc;rfl
  clear hz hzc
  have hbc:zao c= .int .u8 (c.toNat:Int):=rfl
  refine go (an9 s0 s1 i0 r2 hb2 hbc d0 d1 (an4 d2 d3 d4 d5)) ?_
  refine rq ?_;intro gd K hgd hK
  try simp (disch:=first|omega|assumption|rfl) only[go_sem,s1]
  refine Fn.mono hbare ?_
  rintro _ v2' ⟨rfl,hv2'⟩
  rw[hv2']
  clear hv2' v2'
  try simp (disch:=first|omega|assumption|rfl) only[go_sem,Nat.add_zero]
  refine zan (P:=Tryz.prog) rfl rfl rfl hA (by simp) (by simp) ?_
  intro v3 hs3 hA3 hk3
  try simp only[go_sem]
  refine hK _ _ ?_;clear hK hgd;clear K;try clear gd
  have n0:(0:Int)≤(p.length:Int):=by omega
  have n1:(p.length:Int)≤(z.length:Int):=by omega
  have hdr:=hzd
  have dne:decide (p=([]:Lab))=false:=decide_eq_false hp0
  have hz:zaq v3 (some ⟨p7,0,Option.none⟩) 2=some [vs p,.bool false]:=zai (n:=2) (l:=[vs p,.bool false]) hA3 rfl
  have g1:zad v3 (some ⟨p7,1,Option.none⟩)=some (.bool false):=zaa hA3 rfl
  have g0:zad v3 (some ⟨p7,0,Option.none⟩)=some (vs p):=zaa hA3 rfl
  have hkv:Keep (fun i=>i=p7) v1 v3:=hk3
  have hR3:TRx B v3 b out (if nw'=[] then 0 else ln) nb nw' ln bg:=hR.ext (Keep.to_ext hE1 rfl (fun i hi=>by omega) hkv)
  refine go (an3 s0 s1 e00) ?_
  refine rgg [(2,47)] (an4 g1 g0 Nat.zero_add dne) ?_
  refine go trivial ?_
  refine rc (an3 s0 hz trivial) (put_ok hR3 (by omega)) ?_
  rintro _ v4 ⟨hR4,hk4⟩
  refine rgo (an9 s0 s1 n0 n1 Int.toNat_natCast hdr trivial trivial trivial) ?_
  refine⟨_,?_,rfl,s2,_,nw'++ [(p,false)],rfl,by omega,hT'',by rw[←hws];simp,⟨(vq1 s0),(vq1 hdr)⟩,?_,(hK1.trans (hkv.mono fun i _ e=>by omega)).trans hk4⟩
  ·have:=List.length_pos_iff.2 hp0;omega
  ·rw[if_neg (by simp)]
   by_cases hn:nw'=[]
   ·rw[if_pos hn]at hR4;exact hR4
   ·rw[if_neg hn,if_neg hn]at hR4;exact hR4
end
theorem zjT(w:World){l:Lab}(h:l.getLast?≠some 13)(hl:l.length≤4000000000):Fn Tryz.prog 101 #[vs l,vs [13]] w (fun v w'=>v=vs l∧w'=w):=by
 have h2:Fn Tryz.prog 137 #[vs l,vs [13]] w (fun v w'=>v= .bool false∧w'=w):=by
  refine enter Tryz.func137 Tryz.ntmps137 rfl rfl ?_
  refine go trivial ?_
  by_cases h0:l=[]
  ·have d:decide (((1:Nat):Int)≤(l.length:Int))=false:=decide_eq_false (by rw[h0];simp)
   refine rgg [(5,10)] (show decide ((([13]:Lab).length:Int)≤(l.length:Int))=false from d) ?_
   refine go trivial ?_
   refine rt0 Tryz.ntmps137 ?_
   exact⟨rfl,rfl⟩
  ·have hp:=List.length_pos_iff.2 h0
   have d:decide ((([13]:Lab).length:Int)≤(l.length:Int))=true:=decide_eq_true (by simp;omega)
   have e1:(l.length:Int) - (([13]:Lab).length:Int)=((l.length - 1:Nat):Int):=by simp;omega
   have e2:(0:Int)≤((l.length - 1:Nat):Int):=by omega
   have e3:((l.length - 1:Nat):Int)≤(l.length:Int):=by omega
   have d2:decide (l.drop (l.length - 1)=[13])=false:=decide_eq_false fun e=>h (by
    rw[List.getLast?_eq_getElem?,List.getElem?_eq_getElem (by omega)]
    rw[List.drop_eq_getElem_cons (by omega)]at e
    injection e with e _
    rw[e])
   refine rgg [(5,10)] (an6 d e1 e2 e3 Int.toNat_natCast d2) ?_
   refine go trivial ?_
   refine rt0 Tryz.ntmps137 ?_
   exact⟨rfl,rfl⟩
 have h1:Fn Tryz.prog 120 #[vs l,vs [13]] w (fun v w'=>v=vs l∧w'=w):=by
  refine enter Tryz.func120 Tryz.ntmps120 rfl rfl ?_
  refine go trivial ?_
  refine rc trivial h2 ?_
  rintro _ _ ⟨rfl,rfl⟩
  refine rgo trivial ?_
  refine rt0 Tryz.ntmps120 ?_
  exact⟨rfl,rfl⟩
 refine enter Tryz.func101 Tryz.ntmps101 rfl rfl ?_
 refine go trivial ?_
 refine rc trivial h1 ?_
 rintro _ _ ⟨rfl,rfl⟩
 refine rgo trivial ?_
 refine rt0 Tryz.ntmps101 ?_
 exact⟨rfl,rfl⟩
def zeu(l:Lab):Prop:=(10:UInt8)∉l∧l.getLast?≠some 13
def za0(ls:List Lab):Lab:=ls.flatMap fun l=>l++ [10]
def numL(n:Nat):List Lab→List (Nat×Lab)
 | []=>[]
 |l::ls=>(n,l)::numL (n+1) ls
theorem zcM(l:Lab)(ls:List Lab):za0 (l::ls)=l++10::za0 ls:=by
 unfold za0
 rw[List.flatMap_cons,List.append_assoc]
 rfl
theorem zgh(c:UInt8)(r:Lab):∀p:Lab,c∉p→cutB c (p++c::r)=(p,r,true)
 | [],_=>by unfold cutB;rw[List.nil_append];simp
 |b::p,h=>by
  have hb:¬b=c:=fun e=>h (by rw[e];exact List.mem_cons_self ..)
  have ih:=zgh c r p fun e=>h (List.mem_cons_of_mem _ e)
  rw[List.cons_append,cutB,if_neg hb,ih]
def encLn(_:Nat)(x:Nat×Lab)(_:World)(args:Array Value):Prop:=args=#[vi (x.1:Nat),vs x.2]
theorem zj0(w:World)(s:Lab):Fn Tryz.prog 81 #[vs s] w (fun u w'=>u= .func (.func 99) #[] #[.pointer (some ⟨w.heap.size,0,Option.none⟩)]∧Ext w w'∧w'.heap.size=w.heap.size+1∧w'.heap[w.heap.size]? =some (.cells #[vs s] 9 (0,0))):=by
 refine enter Tryz.func81 Tryz.ntmps81 rfl rfl ?_
 repeat refine c_r ?_
 refine rg0 ?_
 repeat refine c_r ?_
 refine zam ?_
 intro w1 hE1 hs1 hA
 refine go trivial ?_
 refine rt0 Tryz.ntmps81 ?_
 exact⟨rfl,hE1,hs1,hA⟩
theorem linesIt{w0 W0:World}{C:Nat→Prop}{b:Nat}{ls:List Lab}(hX:WX w0)(hE0:Ext w0 W0)(hb:W0.heap[b]? =some (.cells #[vs (za0 ls)] 9 (0,0)))(hbC:¬C b)(hb0:w0.heap.size≤b)(hC:∀i,C i→w0.heap.size≤i)(hn:w0.heap.size≤W0.heap.size)(hok:∀l∈ls,zeu l)(hl:(za0 ls).length≤3900000000)(hll:ls.length≤1000000000):
  IterT Tryz.prog 99 #[.pointer (some ⟨b,0,Option.none⟩)] W0 W0.heap.size C (fun i=>i=b) 0 (fun pre x=>∃suf,numL 1 ls=pre++x::suf) (fun xs=>xs=numL 1 ls) encLn:=by
 intro lp J Jx W hW hnW hJ hJx hY h0
 have hbl:b<W0.heap.size:=(Array.getElem?_eq_some_iff.1 hb).1
 have hbW:=Ext.at hW hb
 have hEW:=hE0.trans hW
 have old:∀{v:World},KeepB W0.heap.size (fun i=>C i∨i=b) W v→Ext w0 v:=fun {v} hk=>zf3 hEW hk hn fun i hi=>hi.elim (hC i) fun e=>by omega
 refine enter Tryz.func99 Tryz.ntmps99 rfl rfl ?_
 refine go trivial ?_
 refine zbg (fun m σ ds v=>ds=[]∧∃n rs pre,m=rs.length∧n+rs.length=ls.length+1∧numL 1 ls=pre++numL n rs∧(∀l∈rs,zeu l)∧(za0 rs).length≤3900000000∧(σ 0= .func (.yield lp) #[] #[]∧σ 1= .pointer (some ⟨b,0,Option.none⟩)∧σ 3=vi n)∧J pre v∧KeepB W0.heap.size (fun i=>C i∨i=b) W v∧v.heap[b]? =some (.cells #[vs (za0 rs)] 9 (0,0))) ls.length ?_ ?_
 ·exact⟨rfl,1,ls,[],rfl,by omega,rfl,hok,hl,⟨vr0,vr0,vr0⟩,h0,KeepB.refl _ _ _,hbW⟩
 rintro m σ ds v ⟨rfl,n,rs,pre,hm,hnr,hpre,hrs,hrl,⟨s0,s1,s3⟩,hj,hK,hbv⟩
 have c0:zad v (some ⟨b,0,Option.none⟩)=some (vs (za0 rs)):=zaa hbv rfl
 cases rs with
 |nil=>
  have d:decide (za0 []=[])=true:=rfl
  refine go (an5 s0 s1 s3 c0 d) ?_
  have e:numL 1 ls=pre:=by rw[hpre];simp[numL]
  exact zaA (by simp) rfl (.inl ⟨_,rfl,e▸hj⟩)
 |cons l rs=>
  obtain⟨l1,l2⟩:=hrs l (List.mem_cons_self ..)
  have hcut:cutB 10 (za0 (l::rs))=(l,za0 rs,true):=by rw[zcM];exact zgh 10 _ l l1
  have hlen:(za0 (l::rs)).length=l.length+1+(za0 rs).length:=by rw[zcM];simp;omega
  have d:decide (za0 (l::rs)=[])=false:=decide_eq_false fun e=>by rw[e,List.length_nil]at hlen;omega
  have hC1:Fn Tryz.prog 100 #[vs (za0 (l::rs)),vs [10]] v (fun u v'=>u= .tuple #[vs l,vs (za0 rs),.bool true]∧Ext v v'):=by
   have h1:=zhH (hX.ext (old hK)) (za0 (l::rs)) 10 (by omega)
   rw[hcut]at h1
   exact h1
  have n1:(n:Int)+1=((n+1:Nat):Int):=by push_cast;rfl
  have hpre2:numL 1 ls=pre++(n,l)::numL (n+1) rs:=hpre
  refine go (an5 s0 s1 s3 c0 d) ?_
  refine rc (an2 s1 c0) hC1 ?_
  rintro _ v1 ⟨rfl,hE1⟩
  refine rgo (an3 s0 s1 s3) ?_
  refine rc trivial (zjT v1 l2 (by omega)) ?_
  rintro _ v1' ⟨rfl,hv1⟩
  rw[hv1]
  clear hv1 v1'
  refine rgo (an3 s0 s1 s3) ?_
  have hK1:KeepB W0.heap.size (fun i=>C i∨i=b) W v1:=hK.trans (hE1.toB (by have:=hK.size;omega) (fun _ _ h=>h.elim))
  have hb1:=Ext.at hE1 hbv
  refine rq ?_;intro gd K hgd hK
  try simp (disch:=first|omega|assumption|rfl) only[go_sem,s0,s3]
  refine Yld.mono (hY pre (n,l) v1 _ ⟨_,hpre2⟩ (hJ _ _ _ hj (hE1.mono fun _ _ h=>h.elim)) (by have:=hK1.size;omega) hK1 rfl) ?_
  rintro r B (⟨rfl,hj',hk',_⟩| ⟨rfl,hjx⟩)
  ·try simp only[go_sem]
   refine hK _ _ ?_;clear hK hgd;clear K;try clear gd
   have hbB:=(hk'.block b hbl hbC).trans hb1
   refine go (an3 s0 s1 s3) ?_
   refine rq ?_;intro gd K hgd hK
   try simp (disch:=first|omega|assumption|rfl) only[go_sem,s1]
   refine zan (P:=Tryz.prog) rfl rfl rfl hbB (by simp) (by simp) ?_
   intro v2 hs2 hb2 hk2
   try simp only[go_sem]
   refine hK _ _ ?_;clear hK hgd;clear K;try clear gd
   refine go (an4 s0 s1 s3 n1) ?_
   refine⟨rs.length,by rw[hm];simp,rfl,n+1,rs,pre++ [(n,l)],rfl,by simp at hnr;omega,by rw[hpre2];simp,fun x hx=>hrs x (List.mem_cons_of_mem _ hx),by omega,⟨(vq1 s0),(vq1 s1),(vq1 n1)⟩,hJ _ _ _ hj' (hk2.mono fun i _ e=> .inr e),?_,hb2⟩
   exact(hK1.trans (hk'.mono (Nat.le_refl _) fun i _ h=> .inl h)).trans (hk2.toB (by have:=hK1.size;have:=hk'.size;omega) fun i _ e=> .inr e)
  ·try simp only[go_sem]
   refine hK _ _ ?_;clear hK hgd;clear K;try clear gd
   refine go trivial ?_
   exact zaA (by simp) rfl (.inr ⟨_,_,⟨_,hpre2⟩,hjx⟩)
theorem num_ok{W0 w:World}{b:Nat}{t:Lab}{q:Bool}{ws:List (Lab×Bool)}{ov:Value}{e:Int}(hW:WX W0)(h:Rdr W0 w b ((t,q)::ws) ov e)(hl:ws.length≤1000000)(ht:t.length≤1000000000)(most:Nat)(hm:most≤4294967295):
  Fn Tryz.prog 191 #[.pointer (some ⟨b,0,Option.none⟩),.int .u64 most] w (fun v w'=>v= .int .u32 (decP most t).1∧Rdr W0 w' b ws ov (za6 (if q=true then za6 e 2 else e) (decP most t).2)∧Keep (fun i=>i=b) w w'):=by
 have hlow:=h.low
 refine enter Tryz.func191 Tryz.ntmps191 rfl rfl ?_
 refine go trivial ?_
 refine rc trivial (zcL h hl) ?_
 rintro _ w1 ⟨rfl,hR1,hk1⟩
 refine rd trivial (zbh (hW.ext hR1.ext) t most (by omega) (by omega)) ?_
 rintro _ w2 ⟨rfl,hE2⟩
 refine rgo trivial ?_
 refine rc trivial (zcm (hR1.extx hE2) (decP most t).2) ?_
 rintro _ w3 ⟨hR3,hk3⟩
 have hdl:=zbS most t
 obtain⟨v,hv⟩:∃v,(decP most t).1=v:=⟨_,rfl⟩
 rw[hv]at hdl ⊢
 refine rgo trivial ?_
 refine rt0 Tryz.ntmps191 ?_
 exact⟨rfl,hR3,(hk1.trans (hE2.mono fun _ _ h=>h.elim)).trans hk3⟩
theorem zi5{W0 w:World}{b:Nat}{t:Lab}{q:Bool}{ws:List (Lab×Bool)}{ov:Value}{o:Nm}{e:Int}(h:Rdr W0 w b ((t,q)::ws) ov e)(hl:ws.length≤1000000)(ht:t.length≤500000000)(ho:Row W0 ov (o.map vs))(hoT:NmT o):
  Fn Tryz.prog 192 #[.pointer (some ⟨b,0,Option.none⟩)] w (fun v w'=>Row w' v ((zaI t o).1.map vs)∧BlkB w.heap.size w' v∧Rdr W0 w' b ws ov (za6 (if q=true then za6 e 2 else e) (zaI t o).2)∧Keep (fun i=>i=b) w w'):=by
 refine enter Tryz.func192 Tryz.ntmps192 rfl rfl ?_
 refine go trivial ?_
 obtain⟨wv,hb,hr⟩:=h.at'
 have c1:zad w (some ⟨b,1,Option.none⟩)=some ov:=zaa hb rfl
 obtain⟨e1,he1⟩:∃e1,(if q=true then za6 e 2 else e)=e1:=⟨_,rfl⟩
 rw[he1]
 have hho:=h.one
 refine zav (Q:=fun e' σ' ds' v'=>e'= .normal∧ds'=[]∧(∃nv,σ' 3=nv∧Row v' nv ((zaI t o).1.map vs)∧BlkB w.heap.size v' nv)∧σ' 4=vi (zaI t o).2∧σ' 0= .pointer (some ⟨b,0,Option.none⟩)∧Rdr W0 v' b ws ov e1∧Keep (fun i=>i=b) w v') ?_ ?_
 ·refine W_tree (fun i=>i==1||i==5||i==6) (.run [(0,true),(2,true),(3,true),(4,true)] (.fork 7 [1,5] (fun i=>if i=1 then(.run [(5,false),(6,false),(7,true),(8,true),(9,true),(10,true),(11,true)] .fin) else(.run [(1,false),(6,false),(7,true),(8,true),(9,true),(10,true),(11,true)] .fin)))) NoS mixed (by kernel_rfl) ?_;intro gd K x hgd hx hxe hK;have hx0:=zaP hxe;clear hxe
  have c1x:=zab hx0 c1
  simp (disch:=first|omega|assumption|rfl) only[go_sem,Nat.zero_add]
  simp only[zgn,zhD];refine⟨?_,?_⟩
  ·simp (disch:=first|omega|assumption|rfl) only[go_sem]
   refine Fn.mono (zcL (h.extx hx0) hl) ?_
   rw[he1]
   rintro _ y1 ⟨rfl,hR1,hk1⟩
   refine⟨.inl rfl,?_⟩
   obtain⟨wv1,hb1,_⟩:=hR1.at'
   have q1:zad y1 (some ⟨b,1,Option.none⟩)=some ov:=zaa hb1 rfl
   simp (disch:=first|omega|assumption|rfl) only[go_sem,q1,Nat.zero_add]
   refine⟨.inl rfl,?_⟩
   refine Fn.mono (zct y1 t ov o ht (ho.ext hR1.ext) hoT) ?_
   rintro _ y2 ⟨hE2,nv,rfl,hrow,hbk⟩
   refine⟨.inl rfl,?_⟩
   simp (disch:=first|omega|assumption|rfl) only[go_sem]
   refine hK _ _ ?_;clear hK hgd;clear K;try clear gd
   exact⟨rfl,rfl,⟨nv,vr0,hrow,hbk.mono (by have:=hx0.size;have:=hk1.size;omega)⟩,vr0,vr0,hR1.extx hE2,((hx0.mono fun _ _ h=>h.elim).trans hk1).trans (hE2.mono fun _ _ h=>h.elim)⟩
  ·simp (disch:=first|omega|assumption|rfl) only[go_sem,c1x,Nat.zero_add]
   refine⟨.inl rfl,?_⟩
   refine Fn.mono (zcL (h.extx hx0) hl) ?_
   rw[he1]
   rintro _ y1 ⟨rfl,hR1,hk1⟩
   refine⟨.inl rfl,?_⟩
   simp (disch:=first|omega|assumption|rfl) only[go_sem]
   refine Fn.mono (zct y1 t ov o ht (ho.ext hR1.ext) hoT) ?_
   rintro _ y2 ⟨hE2,nv,rfl,hrow,hbk⟩
   refine⟨.inl rfl,?_⟩
   simp (disch:=first|omega|assumption|rfl) only[go_sem]
   refine hK _ _ ?_;clear hK hgd;clear K;try clear gd
   exact⟨rfl,rfl,⟨nv,vr0,hrow,hbk.mono (by have:=hx0.size;have:=hk1.size;omega)⟩,vr0,vr0,hR1.extx hE2,((hx0.mono fun _ _ h=>h.elim).trans hk1).trans (hE2.mono fun _ _ h=>h.elim)⟩
 rintro _ σ1 _ w1 ⟨rfl,rfl,⟨nv,s3,hrow,hbk⟩,s4,s0,hR1,hk1⟩
 refine go (an3 s3 s4 s0) ?_
 refine rc (an3 s3 s4 s0) (zcm hR1 (zaI t o).2) ?_
 rintro _ w2 ⟨hR2,hk2⟩
 refine rgo s3 ?_
 have hbl:=h.lt
 refine zaf (.inr rfl) Tryz.ntmps192 rfl (zac ((vr1 s3)) zae) ?_
 exact⟨hrow.blocks fun a n c hv=>hk2.block _ (hbk a n c hv).2 (by have:=(hbk a n c hv).1;omega),hbk.ext hk2.size,hR2,hk1.trans hk2⟩
def errT(t:Lab):Int:=if (unD [] 0 t []).2=0∧255<(unD [] 0 t []).1.length then 3 else(unD [] 0 t []).2
theorem text_ok{W0 w:World}{b:Nat}{t:Lab}{q:Bool}{ws:List (Lab×Bool)}{ov:Value}{e:Int}(h:Rdr W0 w b ((t,q)::ws) ov e)(hl:ws.length≤1000000)(ht:t.length≤1000000000):
  Fn Tryz.prog 190 #[.pointer (some ⟨b,0,Option.none⟩)] w (fun v w'=>v=vs (unD [] 0 t []).1∧Rdr W0 w' b ws ov (za6 e (errT t))∧Keep (fun i=>i=b) w w'):=by
 obtain⟨wv,hb,hr⟩:=h.at'
 obtain⟨a,c,rfl,hc,hg⟩:=hr.open
 rw[List.length_cons]at hc
 obtain⟨cs,g0,hcs⟩:=hg 0 (by simp)
 simp only[List.getElem_cons_zero,Nat.zero_mul,zak]at g0 hcs
 unfold WdC at hcs
 subst hcs
 obtain⟨xa,rfl⟩:∃x,a=some x:=by
  cases a with
  |none=>cases g0
  |some x=>exact⟨x,rfl⟩
 have gt:=zab h.ext (zaR g0 (j:=0) (by simp))
 rw[zak,List.getElem_cons_zero]at gt
 have c0:zad w (some ⟨b,0,Option.none⟩)=some (.slice (some xa) (ws.length+1) c):=zaa hb rfl
 have hdr:=hr.drop (m:=1) (by simp)
 rw[List.drop_one,List.tail_cons,List.length_cons]at hdr
 have l0:(0:Int)<((ws.length+1:Nat):Int):=by omega
 have l1:(1:Int)≤((ws.length+1:Nat):Int):=by omega
 have l2:(1:Int)≤(c:Int):=by omega
 have hlow:=h.low
 have hbl:=h.lt
 have hul:=zeC [] 0 t []
 rw[List.length_nil]at hul
 unfold errT
 refine enter Tryz.func190 Tryz.ntmps190 rfl rfl ?_
 refine go trivial ?_
 refine rc (an6 c0 l0 Int.toNat_zero (Nat.zero_mul 2) (zak (some xa)) gt) (zet w t [] ht) ?_
 rintro _ w1 ⟨rfl,hE1⟩
 obtain⟨⟨l,er⟩,hq⟩:∃x,unD [] 0 t []=x:=⟨_,rfl⟩
 rw[hq]at hul ⊢
 simp only at hul ⊢
 obtain⟨e2,he2⟩:∃e2,(if er=0∧255<l.length then(3:Int) else er)=e2:=⟨_,rfl⟩
 rw[he2]
 refine rgo trivial ?_
 obtain⟨tt,htt⟩:∃tt,decide (er=0∧255<l.length)=tt:=⟨_,rfl⟩
 refine zav (Q:=fun e' σ' ds' v'=>e'= .normal∧ds'=[]∧w1=v'∧σ' 3=vs l∧σ' 4=vi er∧σ' 0= .pointer (some ⟨b,0,Option.none⟩)∧σ' 22= .bool tt) ?_ ?_
 ·by_cases c1:er=0
  ·have d1:decide (er=0)=true:=decide_eq_true c1
   have d2:decide ((255:Int)<(l.length:Int))=tt:=by rw[←htt];exact decide_eq_decide.2 ⟨fun h=>⟨c1,by omega⟩,fun h=>by omega⟩
   refine rgg [(2,18)] (an2 d1 d2) ?_
   exact⟨rfl,rfl,rfl,vr0,vr0,vr0,vr0⟩
  ·have d1:decide (er=0)=false:=decide_eq_false c1
   have d2:tt=false:=by rw[←htt];exact decide_eq_false fun h=>c1 h.1
   subst d2
   refine rgg [(2,18)] d1 ?_
   exact⟨rfl,rfl,rfl,vr0,vr0,vr0,vr0⟩
 rintro _ σ0 _ v0 ⟨rfl,rfl,hv0,r3,r4,r0,r22⟩
 subst hv0
 repeat refine c_r ?_
 refine zav (Q:=fun e' σ' ds' v'=>e'= .normal∧ds'=[]∧w1=v'∧σ' 3=vs l∧σ' 4=vi e2∧σ' 0= .pointer (some ⟨b,0,Option.none⟩)) ?_ ?_
 ·cases tt with
  |true=>
   rw[if_pos (of_decide_eq_true htt)]at he2
   refine go (an4 r3 r4 r0 r22) ?_
   exact⟨rfl,rfl,rfl,(vq1 r3),by rw[←he2];first| (simp only[go_sem];done)| (simp only[go_sem];rfl),(vq1 r0)⟩
  |false=>
   rw[if_neg (of_decide_eq_false htt)]at he2
   refine go (an4 r3 r4 r0 r22) ?_
   exact⟨rfl,rfl,rfl,(vq1 r3),by rw[←he2];exact r4,(vq1 r0)⟩
 clear r3 r4 r0 r22
 rintro _ σ1 _ v1 ⟨rfl,rfl,hv1,s3,s4,s0⟩
 subst hv1
 have hb1:=Ext.at hE1 hb
 have c1:zad w1 (some ⟨b,0,Option.none⟩)=some (.slice (some xa) (ws.length+1) c):=zaa hb1 rfl
 refine go (an3 s3 s4 s0) ?_
 refine rq ?_;intro gd K hgd hK
 try simp (disch:=first|omega|assumption|rfl) only[go_sem,s0,c1,l1,l2]
 refine zan (P:=Tryz.prog) rfl rfl rfl hb1 (by simp) (by simp) ?_
 intro w2 hs2 hb2 hk2
 try simp only[go_sem]
 refine hK _ _ ?_;clear hK hgd;clear K;try clear gd
 have hR2:Rdr W0 w2 b ws ov e:=⟨Keep.to_ext (h.ext.trans hE1) rfl (fun i hi=>by omega) hk2,h.low,⟨_,hb2,hdr⟩,h.one⟩
 refine go (an3 s3 s4 s0) ?_
 refine rc (an3 s3 s4 s0) (zcm hR2 e2) ?_
 rintro _ w3 ⟨hR3,hk3⟩
 refine rgo s3 ?_
 refine zaf (.inr rfl) Tryz.ntmps190 rfl (zac ((vr1 s3)) zae) ?_
 exact⟨rfl,hR3,((hE1.mono fun _ _ h=>h.elim).trans hk2).trans hk3⟩
structure SplP(s:Lab)(ps:List Lab):Prop where
 sp:Lib.splitB ⟨#[46]⟩ 0 (Lib.countB ⟨s.toArray⟩ ⟨#[46]⟩) ⟨s.toArray⟩=ps.map fun l=>⟨l.toArray⟩
 ct:Lib.countB ⟨s.toArray⟩ ⟨#[46]⟩+1=ps.length
theorem zjV{w:World}(hW:WX w){s:Lab}{ps:List Lab}{n:Nat}(hs:s.length<4000000000)(h:SplP s ps)(hn:ps.length=n):
  Fn Tryz.prog 170 #[vs s,vs [46]] w (fun v w'=>v= .slice (some ⟨w.heap.size,0,Option.none⟩) n n∧w'.heap[w.heap.size]? =some (.cells (ps.map vs).toArray 9 (0,0))∧Ext w w'):=by
 obtain⟨m,hm⟩:=hW.ml
 refine Fn.of_calls ((Any.strings_Split Tryz.lays146 (by kernel_rfl) ⟨s.toArray⟩ ⟨#[46]⟩ m w (show s.toArray.size<_ by simp;omega) hm (by decide)).mono ?_)
 rintro _ w' ⟨he,rfl⟩
 subst hn
 rw[h.sp,h.ct,List.map_map]at*
 refine⟨_,he,rfl,?_,Ext.alloc w _⟩
 rw[World.alloc_heap_new]
 rfl
def digs16:Lab:=[48,49,50,51,52,53,54,55,56,57,97,98,99,100,101,102,65,66,67,68,69,70]
theorem zeD(w:World)(s:Lab)(hs:s.length≤1000000000):Fn Tryz.prog 211 #[vs s] w (fun v w'=>v= .bool (decide (Lib.trimS s digs16=[]))∧Ext w w'):=by
 have hT:Fn Tryz.prog 130 #[vs s,vs digs16] w (fun v w'=>v=vs (Lib.trimS s digs16)∧Ext w w'):=by
  by_cases h0:s=[]
  ·subst h0
   refine enter Tryz.func130 Tryz.ntmps130 rfl rfl ?_
   have d0:decide (([]:Lab)=[])=true:=rfl
   refine go trivial ?_
   refine rgg [(2,9)] d0 ?_
   refine go trivial ?_
   refine rt0 Tryz.ntmps130 ?_
   exact⟨rfl,Keep.refl _ _⟩
  refine Fn.of_calls (Calls.mono (Any.strings_Trim_set Tryz.lays160 (zero_of_info (n:=256) (by kernel_rfl)).1 (by kernel_rfl) ⟨s.toArray⟩ ⟨digs16.toArray⟩ w (by decide) (show 0<s.toArray.size by simpa using List.length_pos_iff.2 h0) (show s.toArray.size≤_ by simp;omega) (by decide) (ascii_of_all (by decide))) ?_)
  rintro _ w' ⟨he,q,rfl⟩
  exact⟨_,he,rfl,((Ext.alloc w _).trans (Ext.alloc _ _)).trans (Ext.drewN _ q)⟩
 refine enter Tryz.func211 Tryz.ntmps211 rfl rfl ?_
 refine go trivial ?_
 refine rc trivial hT ?_
 rintro _ w1 ⟨rfl,hE1⟩
 refine rgo trivial ?_
 refine rt0 Tryz.ntmps211 ?_
 exact⟨rfl,hE1⟩
theorem Keep.own{S T:Nat→Prop}{a b c:World}(h:Keep S a b)(k:Keep T b c)(hT:∀i,i<a.heap.size→T i→S i):Keep S a c:=
 ((h.mono fun _ _ h=>Or.inl h).trans (k.mono fun _ _ h=>Or.inr h):Keep (fun i=>S i∨T i) a c).mono fun i hi h=>h.elim id (hT i hi)
def octP(p:Lab):Value:=zao (UInt8.ofNat (decP 255 p).1)
def zgM(e:Int)(ps:List Lab):Int:=ps.foldl (fun e p=>za6 e (decP 255 p).2) e
theorem zib{W0 w:World}{b:Nat}{t:Lab}{q:Bool}{ws:List (Lab×Bool)}{ov:Value}{e:Int}{ps:List Lab}(hW:WX W0)(h:Rdr W0 w b ((t,q)::ws) ov e)(hl:ws.length≤1000000)(ht:t.length≤1000000)(hsp:SplP t ps)(hpl:ps.length≤1000000)(hpx:∀p∈ps,p.length≤1000000):
  Fn Tryz.prog 188 #[.pointer (some ⟨b,0,Option.none⟩)] w (fun v w'=>Own w.heap.size w' 5 v (ps.map octP)∧Rdr W0 w' b ws ov (zgM (if ps.length=4 then(if q=true then za6 e 2 else e) else za6 (if q=true then za6 e 2 else e) 2) ps)∧Keep (fun i=>i=b) w w'):=by
 have hbl:=h.lt
 obtain⟨e1,he1⟩:∃e1,(if q=true then za6 e 2 else e)=e1:=⟨_,rfl⟩
 refine enter Tryz.func188 Tryz.ntmps188 rfl rfl ?_
 refine go trivial ?_
 refine rc trivial (zcL h hl) ?_
 rw[he1]
 rintro _ w1 ⟨rfl,hR1,hk1⟩
 refine rd trivial (zjV (n:=ps.length) (hW.ext hR1.ext) (by omega) hsp rfl) ?_
 rintro _ w2 ⟨rfl,hB2,hE2⟩
 have hs1:=hk1.size
 have hs2:=hE2.size
 have hP:w1.heap.size<w2.heap.size:=(Array.getElem?_eq_some_iff.1 hB2).1
 obtain⟨P,hPe⟩:∃P,w1.heap.size=P:=⟨_,rfl⟩
 rw[hPe]at hB2 hP ⊢
 have hk2:Keep (fun i=>i=b) w w2:=hk1.trans (hE2.mono fun _ _ h=>h.elim)
 obtain⟨n,hn⟩:∃n,ps.length=n:=⟨_,rfl⟩
 rw[hn]at hpl ⊢
 obtain⟨tt,htt⟩:∃tt,decide ((n:Int)=4)=tt:=⟨_,rfl⟩
 obtain⟨e2,he2⟩:∃e2,(if n=4 then e1 else za6 e1 2)=e2:=⟨_,rfl⟩
 rw[he2]
 refine rgo htt ?_
 refine zav (Q:=fun e' σ' ds' v'=>e'= .normal∧ds'=[]∧(σ' 0= .pointer (some ⟨b,0,Option.none⟩)∧σ' 3= .slice (some ⟨P,0,Option.none⟩) n n)∧Rdr W0 v' b ws ov e2∧Keep (fun i=>i=b) w2 v') ?_ ?_
 ·cases tt with
  |true=>
   rw[if_pos (by have:=of_decide_eq_true htt;omega)]at he2
   refine go trivial ?_
   exact⟨rfl,rfl,⟨vr0,vr0⟩,by rw[←he2];exact hR1.extx hE2,Keep.refl _ _⟩
  |false=>
   rw[if_neg (by have:=of_decide_eq_false htt;omega)]at he2
   refine go trivial ?_
   refine rc trivial (zcm (hR1.extx hE2) 2) ?_
   rw[he2]
   rintro _ w3 ⟨hR3,hk3⟩
   refine rgo trivial ?_
   exact⟨rfl,rfl,⟨vr0,vr0⟩,hR3,hk3⟩
 rintro _ σ0 _ w3 ⟨rfl,rfl,⟨s0,s3⟩,hR3,hk3⟩
 refine go (an2 s0 s3) ?_
 refine zbq n (fun i σ v=>(σ 0= .pointer (some ⟨b,0,Option.none⟩)∧σ 17= .slice (some ⟨P,0,Option.none⟩) n n∧σ 18=vi n∧σ 19=vi i)∧Rdr W0 v b ws ov (zgM e2 (ps.take i))∧Keep (fun i=>i=b) w2 v∧∃sv,σ 4=sv∧Own w2.heap.size v 5 sv ((ps.take i).map octP)) ?_ ?_ ?_
 ·exact⟨⟨(vr1 s0),(vr1 s3),(vr1 s3),vr0⟩,hR3,hk3,_,vr0,Own.nil _ _ _⟩
 ·rintro i σ v hi r ⟨⟨s0,s17,s18,s19⟩,hR,hk,sv,s4,hown⟩
  obtain⟨p,hp⟩:∃p,ps[i]'(by omega)=p:=⟨_,rfl⟩
  have hpm:p∈ps:=hp▸List.getElem_mem _
  have hpl':=hpx p hpm
  have hsv:=hk.size
  have hBv:=(hk.block P hP (by omega)).trans hB2
  have g:zad v (some ⟨P,i,Option.none⟩)=some (vs p):=za1 (j:=i) hBv (by rw[List.getElem?_map,List.getElem?_eq_getElem (by omega),hp];rfl)
  have hi0:(0:Int)≤(i:Int):=by omega
  have hi1:(i:Int)<(n:Int):=by omega
  have hi2:(i:Int)+1=((i+1:Nat):Int):=by push_cast;rfl
  refine go (an9 s0 s17 s18 s19 s4 r g hi0 (an3 hi1 (Nat.mul_one i) (Nat.zero_add i))) ?_
  refine rc (an3 s0 s4 hi0) (zbh (hW.ext hR.ext) p 255 (by omega) (by omega)) ?_
  rintro _ v1 ⟨rfl,hE1⟩
  refine rgo (an3 s0 s4 hi0) ?_
  refine rc (an3 s0 s4 hi0) (zcm (hR.extx hE1) (decP 255 p).2) ?_
  rintro _ v2 ⟨hR2,hk2'⟩
  have hdl:=zbS 255 p
  obtain⟨x,hx⟩:∃x,(decP 255 p).1=x:=⟨_,rfl⟩
  rw[hx]at hdl
  have hox:octP p= .int .u8 (x:Int):=by unfold octP;rw[hx,zb9 (by omega)]
  have hsE:=hE1.size
  have hsk:=hk2'.size
  refine rgo (an3 s0 s4 hx) ?_
  refine rq ?_;intro gd K hgd hK
  try simp (disch:=first|omega|assumption|rfl) only[go_sem,s4,hx]
  refine za5 (z:= .int .u8 0) rfl rfl rfl rfl rfl ?_
  intro y1 hy1 hys1 hyo
  try simp (disch:=first|omega|assumption|rfl) only[go_sem,s4]
  have hb2:b<w2.heap.size:=by omega
  refine za2 (e:=5) (((hown.ext hE1).keep hk2' fun j hj hs=>by have:=(hown.ge hj).1;omega).ext hy1) hyo.row rfl rfl rfl rfl rfl rfl ((vr1 s4)) (vr0) (fun q hq=>by rw[List.mem_singleton.1 hq];rfl) (by simp;omega) (by decide) (by omega) ?_
  intro sv' y2 hown2 hX2 hK2 hb2'
  try simp only[go_sem]
  refine hK _ _ ?_;clear hK hgd;clear K;try clear gd
  refine go (an5 s0 s17 s18 s19 hi2) ?_
  have hkx:Keep (fun i=>i=b) w2 y1:=((hk.trans (hE1.mono fun _ _ h=>h.elim)).trans hk2').trans (hy1.mono fun _ _ h=>h.elim)
  refine⟨rfl,⟨(vq1 s0),(vq1 s17),(vq1 s18),(vq1 hi2)⟩,?_,hkx.own hK2 fun j hj h=>by have:=(hown.ge h).1;omega,sv',vr0,?_⟩
  ·rw[zal (by omega),hp]
   unfold zgM at hR2 ⊢
   rw[List.foldl_append]
   exact(hR2.extx hy1).keep hK2 fun j hj=>by have:=(hown.ge hj).1;have:=h.low;omega
  ·rw[zal (by omega),hp,List.map_append,List.map_cons,List.map_nil,hox]
   exact hown2
 ·rintro σ v r ⟨⟨s0,s17,s18,s19⟩,hR,hk,sv,s4,hown⟩
  rw[←hn,List.take_length]at hR hown
  refine go (an6 s0 s17 s18 s19 s4 r) ?_
  refine zaf (.inr rfl) Tryz.ntmps188 rfl (zac ((vr1 s4)) zae) ?_
  exact⟨hown.mono (by omega),hR,hk2.trans hk⟩
def hexV(c:UInt8):Option Nat:=if 48≤c.toNat∧c.toNat≤57 then some (c.toNat - 48) else if 97≤c.toNat∧c.toNat≤102 then some (c.toNat - 87) else if 65≤c.toNat∧c.toNat≤70 then some (c.toNat - 55) else Option.none
theorem zfj{c:UInt8}{x:Nat}(h:hexV c=some x):x<16:=by
 unfold hexV at h
 split at h
 ·simp only[Option.some.injEq]at h;omega
 ·split at h
  ·simp only[Option.some.injEq]at h;omega
  ·split at h
   ·simp only[Option.some.injEq]at h;omega
   ·cases h
theorem or32:∀n:Nat,n<128→(97≤n∧n≤102∨65≤n∧n≤70)→IntKind.u8.wrap ((BitVec.ofInt IntKind.u8.bits (n:Int)|||BitVec.ofInt IntKind.u8.bits 32).toNat:Int)=if 97≤n then(n:Int) else(n:Int)+32:=by decide+kernel
theorem lower_ok(w:World)(c:UInt8)(h:(97≤c.toNat∧c.toNat≤102)∨(65≤c.toNat∧c.toNat≤70)):Fn Tryz.prog 204 #[zao c] w (fun v w'=>v= .int .u8 (if 97≤c.toNat then(c.toNat:Int) else(c.toNat:Int)+32)∧w=w'):=by
 have ho:=or32 c.toNat (by omega) h
 have hbv:zao c= .int .u8 (c.toNat:Int):=rfl
 have hor:binV Tryz.prog .or 5 (.int .u8 (c.toNat:Int)) (.int .u8 32)=some (.int .u8 (if 97≤c.toNat then(c.toNat:Int) else(c.toNat:Int)+32)):=by rw[←ho];rfl
 refine enter Tryz.func204 Tryz.ntmps204 rfl rfl ?_
 refine go (an2 hbv hor) ?_
 refine rt0 Tryz.ntmps204 ?_
 exact⟨rfl,rfl⟩
def zaW(l:Lab):Nat:=l.foldl (fun n c=>16*n+(hexV c).getD 0) 0
theorem zjl:∀(l:Lab) (n:Nat),n≤l.foldl (fun n c=>16*n+(hexV c).getD 0) n
 | [],n=>Nat.le_refl _
 |c::l,n=>by rw[List.foldl_cons];have:=zjl l (16*n+(hexV c).getD 0);omega
theorem zgI{l:Lab}{i:Nat}(h:i<l.length):zaW (l.take (i+1))=16*zaW (l.take i)+(hexV l[i]).getD 0:=by
 unfold zaW
 rw[zal h,List.foldl_append]
 rfl
theorem zjk(l:Lab)(i:Nat):zaW (l.take i)≤zaW l:=by
 unfold zaW
 have h:=zjl (l.drop i) ((l.take i).foldl (fun n c=>16*n+(hexV c).getD 0) 0)
 rwa [←List.foldl_append,List.take_append_drop]at h
theorem PuHi_ok(w:World){l:Lab}{bt mx:Int}(hb:bt=8∧mx=255∨bt=16∧mx=65535)(h0:l≠ [])(hl2:l.length≤1000)(hv:∀c∈l,(hexV c).isSome=true)(hm:(zaW l:Int)≤mx):Fn Tryz.prog 180 #[vs l,vi 16,vi bt] w (fun v w'=>v= .tuple #[.int .u64 (zaW l:Nat),.nilIface]∧Ext w w'):=by
 have d1:decide (l=[])=false:=decide_eq_false h0
 refine enter Tryz.func180 Tryz.ntmps180 rfl rfl ?_
 have l1:decide ((2:Int)≤16)=true:=rfl
 have l2:decide ((16:Int)≤36)=true:=rfl
 have l3:decide (bt=0)=false:=decide_eq_false (by omega)
 have l4:decide (bt<0)=false:=decide_eq_false (by omega)
 have l5:decide ((64:Int)<bt)=false:=decide_eq_false (by omega)
 have l6:decide ((16:Int)=10)=false:=rfl
 have l7:decide ((16:Int)=16)=true:=rfl
 have l8:decide ((16:Int)=0)=false:=rfl
 have hmx:0≤mx∧mx≤65535:=by omega
 refine go (an2 d1 l8) ?_
 refine rgg [(2,28)] (an2 l1 l2) ?_
 refine go l3 ?_
 refine rgg [(2,80)] (an2 l4 l5) ?_
 have hsh:binV Tryz.prog .shl 71 (.int .u64 1) (.int .u64 bt)=some (.int .u64 (mx+1)):=by rcases hb with ⟨rfl,rfl⟩| ⟨rfl,rfl⟩<;>rfl
 have hwb:IntKind.u64.wrap bt=bt:=by rcases hb with ⟨rfl,rfl⟩| ⟨rfl,rfl⟩<;>rfl
 have hsb:mx+1 - 1=mx:=by omega
 have hwm:IntKind.u64.wrap mx=mx:=by rcases hb with ⟨rfl,rfl⟩| ⟨rfl,rfl⟩<;>rfl
 refine go (an6 l6 l7 hsh hsb hwb hwm) ?_
 refine rq ?_;intro gd K hgd hK
 try simp only[go_sem]
 refine zfr rfl rfl rfl (vr0) ?_
 intro cp cur w2 hlc hcs hct hE2 hs2 hb2
 try simp only[go_sem]
 refine hK _ _ ?_;clear hK hgd;clear K;try clear gd
 have hgx:∀i (h:i<l.length),zad w2 (some ⟨w.heap.size,i,Option.none⟩)=some (zao l[i]):=fun i hi=>by
  refine zaa hb2 ?_
  have:(cur.toList.take l.length)[i]? =some (zao l[i]):=by rw[hct,List.getElem?_map,List.getElem?_eq_getElem hi];rfl
  rw[List.getElem?_take,if_pos hi]at this
  simpa using this
 refine go trivial ?_
 refine zbq l.length (fun i σ v=>(σ 1=vi 16∧σ 8= .bool false∧σ 10= .int .u64 1152921504606846976∧σ 11= .int .u64 mx∧σ 12= .bool false∧σ 13= .int .u64 (zaW (l.take i):Nat)∧σ 99= .slice (some ⟨w.heap.size,0,Option.none⟩) l.length cp∧σ 100=vi l.length∧σ 101=vi i)∧v=w2) ?_ ?_ ?_
 ·exact⟨⟨vr0,vr0,vr0,vr0,vr0,vr0,vr0,vr0,vr0⟩,rfl⟩
 ·rintro i σ v hi r ⟨⟨s1,s8,s10,s11,s12,s13,s99,s100,s101⟩,rfl⟩
  obtain⟨k,d,n,hg,hkd,hn,hn15,hn1⟩:∃(k:UInt8) (d n:Nat),zad v (some ⟨w.heap.size,i,Option.none⟩)=some (zao k)∧hexV k=some d∧zaW (l.take i)=n∧((16*n+d:Nat):Int)≤mx∧zaW (l.take (i+1))=16*n+d:=by
   obtain⟨x,hx⟩:=Option.isSome_iff_exists.1 (hv l[i] (List.getElem_mem hi))
   have h1:=zgI hi
   have h2:=zjk l (i+1)
   rw[hx,Option.getD_some]at h1
   exact⟨l[i],x,_,hgx i hi,hx,rfl,by omega,h1⟩
  have hd:=zfj hkd
  rw[hn]at s13
  have hbv:zao k= .int .u8 (k.toNat:Int):=rfl
  have hi0:(0:Int)≤(i:Int):=by omega
  have hi1:(i:Int)<(l.length:Int):=by omega
  have hi2:(i:Int)+1=((i+1:Nat):Int):=by push_cast;rfl
  have hk48:48≤k.toNat∧k.toNat≤102∧k.toNat≠95∧((k.toNat≤57∧d=k.toNat - 48)∨(97≤k.toNat∧d=k.toNat - 87)∨(65≤k.toNat∧k.toNat≤70∧d=k.toNat - 55)):=by
   unfold hexV at hkd
   split at hkd
   ·simp only[Option.some.injEq]at hkd;omega
   ·split at hkd
    ·simp only[Option.some.injEq]at hkd;omega
    ·split at hkd
     ·simp only[Option.some.injEq]at hkd;omega
     ·cases hkd
  have k95:decide ((k.toNat:Int)=95)=false:=decide_eq_false (by omega)
  have k48:decide ((48:Int)≤(k.toNat:Int))=true:=decide_eq_true (by omega)
  refine go (an9 s1 s8 s10 s11 s12 s13 s99 s100 (an8 s101 r hg hbv hi0 hi1 (Nat.mul_one i) (Nat.zero_add i))) ?_
  obtain⟨A,hA⟩:∃A,16*n=A:=⟨_,rfl⟩
  obtain⟨B,hB⟩:∃B,16*n+d=B:=⟨_,rfl⟩
  have f1:decide ((16:Int)≤(d:Int))=false:=decide_eq_false (by omega)
  have f2:decide ((1152921504606846976:Int)≤(n:Int))=false:=decide_eq_false (by omega)
  have f3:(n:Int)*16=(A:Int):=by omega
  have f4:(A:Int)+(d:Int)=(B:Int):=by omega
  have f5:decide ((B:Int)<(A:Int))=false:=decide_eq_false (by omega)
  have f6:decide (mx<(B:Int))=false:=decide_eq_false (by omega)
  refine rgg [(2,109)] k95 ?_
  refine go trivial ?_
  by_cases c57:k.toNat≤57
  ·have k57:decide ((k.toNat:Int)≤57)=true:=decide_eq_true (by omega)
   have f0:(k.toNat:Int) - 48=(d:Int):=by omega
   refine rgg [(2,115)] (an2 k48 k57) ?_
   refine go (an9 s1 s8 s10 s11 s12 s13 s99 s100 (an6 s101 f0 f1 f2 f3 f4)) ?_
   refine rgg [(3,155)] (an5 f5 f6 f3 f4 s11) ?_
   refine go (an9 s1 s8 s10 s11 s12 s99 s100 s101 hi2) ?_
   exact⟨rfl,⟨(vq1 s1),(vq1 s8),(vq1 s10),(vq1 s11),(vq1 s12),by rw[hn1,hB];first| (simp only[go_sem];done)| (simp only[go_sem];rfl),(vq1 s99),(vq1 s100),(vq1 hi2)⟩,rfl⟩
  ·have k57:decide ((k.toNat:Int)≤57)=false:=decide_eq_false (by omega)
   have hlc:(97≤k.toNat∧k.toNat≤102)∨(65≤k.toNat∧k.toNat≤70):=by omega
   have hlo:=lower_ok v k hlc
   obtain⟨L,hL⟩:∃L:Int,(if 97≤k.toNat then(k.toNat:Int) else(k.toNat:Int)+32)=L:=⟨_,rfl⟩
   have hLb:97≤L∧L≤102∧L - 97+10=(d:Int):=by rw[←hL];split<;>omega
   rw[hL]at hlo
   have g1:decide ((97:Int)≤L)=true:=decide_eq_true hLb.1
   have g2:decide (L≤122)=true:=decide_eq_true (by omega)
   have f0:=hLb.2.2
   refine rgg [(2,115)] (an2 k48 k57) ?_
   refine go trivial ?_
   refine rcg [(3,125)] trivial hlo ?_
   rintro _ z1 ⟨rfl,hz1⟩
   subst hz1
   refine rdg [(3,125)] g1 hlo ?_
   rintro _ z1 ⟨rfl,hz1⟩
   subst hz1
   refine reg [(3,125)] g2 ?_
   refine go trivial ?_
   refine rc trivial hlo ?_
   rintro _ z1 ⟨rfl,hz1⟩
   subst hz1
   refine rgo (an9 s1 s8 s10 s11 s12 s13 s99 s100 (an6 s101 f0 f1 f2 f3 f4)) ?_
   refine rgg [(3,155)] (an5 f5 f6 f3 f4 s11) ?_
   refine go (an9 s1 s8 s10 s11 s12 s99 s100 s101 hi2) ?_
   exact⟨rfl,⟨(vq1 s1),(vq1 s8),(vq1 s10),(vq1 s11),(vq1 s12),by rw[hn1,hB];first| (simp only[go_sem];done)| (simp only[go_sem];rfl),(vq1 s99),(vq1 s100),(vq1 hi2)⟩,rfl⟩
 ·rintro σ v r ⟨⟨s1,s8,s10,s11,s12,s13,s99,s100,s101⟩,rfl⟩
  refine go (an7 s8 s12 s13 s99 s100 s101 r) ?_
  refine rgg [(1,165)] (an2 s12 s13) ?_
  refine go (an2 s12 s13) ?_
  refine zaf (.inr rfl) Tryz.ntmps180 rfl (zac ((vr1 s13)) (zac (vr0) zae)) ?_
  exact⟨by rw[List.take_length];rfl,hE2⟩
theorem PuH_ok(w:World){l:Lab}{bt mx:Int}(hb:bt=8∧mx=255∨bt=16∧mx=65535)(h0:l≠ [])(hl2:l.length≤1000)(hv:∀c∈l,(hexV c).isSome=true)(hm:(zaW l:Int)≤mx):Fn Tryz.prog 155 #[vs l,vi 16,vi bt] w (fun v w'=>v= .tuple #[.int .u64 (zaW l:Nat),.nilIface]∧Ext w w'):=by
 refine enter Tryz.func155 Tryz.ntmps155 rfl rfl ?_
 refine go trivial ?_
 refine rc trivial (PuHi_ok w hb h0 hl2 hv hm) ?_
 rintro _ w1 ⟨rfl,hE1⟩
 refine rgo trivial ?_
 refine rq ?_;intro gd K hgd hK
 try simp only[go_sem]
 rw[show binV Tryz.prog .neq 100 .nilIface .nilIface=Option.none from rfl,zc3]
 refine ze6 (u:= .nilIface) (b:=false) (by kernel_rfl) (.inl ⟨rfl,rfl⟩) (vr0) rfl ?_
 try simp only[go_sem]
 refine hK _ _ ?_;clear hK hgd;clear K;try clear gd
 refine go trivial ?_
 refine zaf (.inr rfl) Tryz.ntmps155 rfl (zac (vr0) (zac (vr0) zae)) ?_
 exact⟨rfl,hE1⟩
theorem Pu16_ok(w:World){a c:UInt8}{x y:Nat}(ha:hexV a=some x)(hc:hexV c=some y):Fn Tryz.prog 155 #[vs [a,c],vi 16,vi 8] w (fun v w'=>v= .tuple #[.int .u64 ((16*x+y:Nat):Int),.nilIface]∧Ext w w'):=by
 have hx:=zfj ha
 have hy:=zfj hc
 have e:zaW [a,c]=16*x+y:=by unfold zaW;simp[ha,hc]
 have:=PuH_ok w (l:=[a,c]) (.inl ⟨rfl,rfl⟩) (by simp) (by simp) (fun z hz=>by
  simp only[List.mem_cons,List.not_mem_nil,or_false]at hz
  rcases hz with rfl|rfl
  ·rw[ha];rfl
  ·rw[hc];rfl) (by rw[e];omega)
 rw[e]at this
 exact this
end Go.Proofs.YtihbdhjibplldaaGreatDoor
