/-
  Texts of a proof, joined: K17, K19, K20, C2, C3, T0, S1, K12, K13, N1, K21, K22, K23, K24, K33, O1, CP, Q0int, R1, L0, M3a, R2, N2, R3, Q1, Q2, QCcn, QCcu, QCct, Q0uint32, Q3, D0, D1, D2, D3, SS0, SO.
  Conditions: none.
-/
import Derived.Test.YtahbdamijngmmaaGreatJPA01
import Derived.Lib.Bytealg
import Derived.Maps.RangeRun
import Derived.Maps.Range
import Derived.Lib.Builder
import Derived.Lib.AppendStr
import Derived.Lib.UnsafeStr
import Derived.MapFrom
import Derived.WideKeyMaps
import Derived.DeepKeys3
import Derived.Test.YtahbdamijngmmaaGreatProg
import Derived.Shelf.Small.Strs
import Derived.CallsIn
import Derived.Laws.Externs
set_option linter.unusedVariables false
set_option linter.unusedSimpArgs false
set_option linter.defProp false
set_option linter.unnecessarySimpa false
set_option maxHeartbeats 8000000
namespace Go.Proofs.YtahbdamijngmmaaGreat
open Go
structure OwnK(k B:Nat)(w:World)(e:TypeId)(v:Value)(L:List (List Value)):Prop where
 own:w.ownsRow B e k v L.length L.flatten
 len:∀x∈L,x.length=k
 ones:∀x∈L,∀v∈x,one v=true
section
variable {P : Program} {d : Option Tmp} {ty : TypeId} {ps : String} {af : Array Edge} {g : Option (Nat × Bool)} {ρ : Operand -> Value} {w : World} {K : Value -> World -> Prop}
theorem OwnK.nil(k B:Nat)(w:World)(e:TypeId):OwnK k B w e (.slice .none 0 0) []:=⟨⟨by simp,.inl ⟨rfl,rfl⟩⟩,fun x h=>(by cases h),fun x h=>(by cases h)⟩
theorem OwnK.ge{k B:Nat}{e:TypeId}{v:Value}{L:List (List Value)}(h:OwnK k B w e v L){b:Nat}(hb:some b=v.ownBlock):B<=b/\b<w.heap.size:=by
 rcases h.own.2 with ⟨rfl,_⟩| ⟨g,cap,cur,rfl,hg,hc,_⟩
 ·cases hb
 ·cases hb;exact⟨hg,(Array.getElem?_eq_some_iff.1 hc).1⟩
theorem OwnK.keep{k B:Nat}{e:TypeId}{v:Value}{L:List (List Value)}{x:World}{S:Nat->Prop}(h:OwnK k B w e v L)(hk:Keep S w x)(hS:∀b,some b=v.ownBlock->¬S b):OwnK k B x e v L:=by
 obtain⟨⟨h1,h2⟩,h3,h4⟩:=h;refine⟨⟨h1,?_⟩,h3,h4⟩;rcases h2 with h2| ⟨g,cap,cur,hv,hb,hg,rest⟩
 ·exact .inl h2
 ·exact .inr ⟨g,cap,cur,hv,hb,(hk.block _ (Array.getElem?_eq_some_iff.1 hg).1 (hS _ (by rw[hv];rfl))).trans hg,rest⟩
theorem OwnK.ext{k B:Nat}{e:TypeId}{v:Value}{L:List (List Value)}{x:World}(h:OwnK k B w e v L)(hk:Ext w x):OwnK k B x e v L:=h.keep hk (fun _ _ h=>h)
theorem OwnK.mono{k B B':Nat}{e:TypeId}{v:Value}{L:List (List Value)}(h:OwnK k B w e v L)(hB:B'<=B):OwnK k B' w e v L:=by
 obtain⟨⟨h1,h2⟩,h3,h4⟩:=h;refine⟨⟨h1,?_⟩,h3,h4⟩;rcases h2 with h2| ⟨g,cap,cur,hv,hb,rest⟩
 ·exact .inl h2
 ·exact .inr ⟨g,cap,cur,hv,by omega,rest⟩
theorem OwnK.cases{k B:Nat}{e:TypeId}{v:Value}{L:List (List Value)}(h:OwnK k B w e v L):
  (v= .slice .none 0 0/\L=[])\/∃b cap,v= .slice (some ⟨b,0,.none⟩) L.length cap/\B<=b/\L.length<=cap/\cap<=maxLen/\SD k w b e cap L:=by
 obtain⟨⟨h1,h2⟩,h3,h4⟩:=h;rcases h2 with ⟨rfl,h0⟩| ⟨g,cap,cur,rfl,hg,hb,hn,hm,hcs,hx⟩
 ·exact .inl ⟨rfl,List.length_eq_zero_iff.1 h0⟩
 ·refine .inr ⟨g,cap,rfl,hg,hn,hm,⟨cur,cur.toList.drop (L.length*k),hb,?_,hcs⟩,h3,h4⟩;rw[←hx,List.take_append_drop]
theorem OwnK.of_sd{k B b cap:Nat}{e:TypeId}{L:List (List Value)}(h:SD k w b e cap L)(hB:B<=b)(hc:L.length<=cap)(hm:cap<=maxLen):OwnK k B w e (.slice (some ⟨b,0,.none⟩) L.length cap) L:=by
 obtain⟨cur,R,hb,e1,e2⟩:=h.lies;refine⟨⟨zbG h.len,.inr ⟨b,cap,cur,rfl,hB,hb,hc,hm,e2,?_⟩⟩,h.len,h.ones⟩;rw[e1,List.take_left' (zbG h.len)]
theorem OwnK.rowK{k B:Nat}{e:TypeId}{v:Value}{L:List (List Value)}(h:OwnK k B w e v L):RowK k w v L:=by
 rcases h.cases with ⟨rfl,rfl⟩| ⟨b,cap,rfl,_,hc,_,hD⟩
 ·exact⟨.none,0,rfl,ynl _,fun j h=>by simp at h⟩
 ·exact⟨_,cap,rfl,hc,fun j hj=>by rw[za6,yn0];exact hD.get hj⟩
theorem Src1.of_rowK{k:Nat}{u:Value}{L:List (List Value)}(h:RowK k w u L)(hk:∀x∈L,x.length=k):Src1 w u L.length k L.flatten:=by
 obtain⟨a,c,rfl,hc,hl⟩:=h;refine⟨a,c,rfl,zbG hk,fun j hj=>?_⟩;rw[zbG hk]at hj;have hk0:0<k:=Nat.pos_of_ne_zero (fun h=>by subst h;simp at hj);have hq:j / k<L.length:=Nat.div_lt_of_lt_mul (by rw[Nat.mul_comm];exact hj);obtain⟨e1,e2⟩:=zg0 hk hq;have hlen:=hk L[j / k] (List.getElem_mem hq);have hr:j % k<L[j / k].length:=by rw[hlen];exact Nat.mod_lt _ hk0
 have hg:=zch (hl (j / k) hq) hr;have hj2:j / k*k+j % k=j:=by rw[Nat.mul_comm];exact Nat.div_add_mod j k
 rw[zfW,hj2]at hg;rw[hg];have:L.flatten[j]? =some L[j / k][j % k]:=by
  rw[e1,yla,List.getElem?_append_right (by rw[e2];omega),List.getElem?_append_left (by rw[e2];omega),e2];rw[show j - j / k*k=j % k from by omega];exact List.getElem?_eq_getElem hr
 rw[List.getElem?_eq_getElem (by rw[zbG hk];exact hj)]at this;exact this.symm
theorem ziy{k B:Nat}{s x:Operand}{t e:TypeId}{inf:TypeInfo}{z:Value}{bytes:Nat}{v u:Value}{L N:List (List Value)}(hown:OwnK k B w e v L)(hrow:RowK k w u N)
  (ht:tyU P t=some (.slice e)) (hi:P.info? e=some inf) (hz:inf.zero=some z)
  (hsize:inf.size=k) (hby:inf.bytes=bytes) (hzs:z.cells.size=k) (hk0:0<k) (hv:ρ s=v) (hu:ρ x=u)
  (hl:∀x∈N,x.length=k) (h1:∀x∈N,∀q∈x,one q=true) (hlen:L.length+N.length<=100000000000) (hbytes:bytes<=1000) (hB:B<=w.heap.size)
  (h:∀v' w',OwnK k B w' e v' (L++N)->(∀w0,Ext w0 w->w0.heap.size<=B->Ext w0 w')->Keep (fun b=>some b=v.ownBlock) w w'->(∀b,some b=v'.ownBlock->some b=v.ownBlock\/w.heap.size<=b)->(v'= .slice .none 0 0->v= .slice .none 0 0)->K v' w'):
  opW P ⟨d,.call ⟨.builtin .append,#[s,x],#[t,t]⟩,ty,ps,af,g⟩ ρ w K:=by
 refine zd9 (B:=B) (m:=N.length) (xs:=L.flatten) (news:=N.flatten) (n:=L.length) ht hi hz hsize hby hzs hk0 hv hu hown.own (Src1.of_rowK hrow hl) ?_ (by simp[maxLen];omega) ?_ hB ?_
 ·intro q hq;obtain⟨y,hy,hq⟩:=List.mem_flatten.1 hq;exact h1 y hy q hq
 ·have:(L.length+N.length)*bytes<=100000000000*1000:=Nat.mul_le_mul hlen hbytes;omega
 ·intro v' w' ho hk hw;refine h v' w' ⟨by simpa using ho,?_,?_⟩ (fun w0 hE hB0=>?_) hk hw.2 (fun hv'=>(hw.1.1 hv').1)
  ·intro y hy;rcases List.mem_append.1 hy with hy|hy
   ·exact hown.len y hy
   ·exact hl y hy
  ·intro y hy;rcases List.mem_append.1 hy with hy|hy
   ·exact hown.ones y hy
   ·exact h1 y hy
  ·exact Keep.to_ext hE rfl (fun b hb=>by have:=(hown.ge hb).1;omega) hk
theorem zmc{k:Nat}{t e:TypeId}{z:Value}(hu:tyU P t=some (.slice e))(hz:tyZ P e=some z)(hs:tyS P e=k)(hz1:z.cells.size=k)
  (h:∀w1,Ext w w1->w1.heap.size=w.heap.size+1->OwnK k w.heap.size w1 e (.slice (some ⟨w.heap.size,0,.none⟩) 0 0) []->K (.slice (some ⟨w.heap.size,0,.none⟩) 0 0) w1):bsL P t 0 [] w K .mk:=by
 unfold bsL bsK;have:bsC P t 0 []=some (e,#[]):=by simp[bsC,hu,hz,hs,hz1,Instr.fill]
 rw[this];exact h _ (Ext.alloc w _) (zai w _) ⟨⟨by simp,.inr ⟨w.heap.size,0,#[],rfl,ynl _,zau w _,ynl _,by decide,by simp,by simp⟩⟩,fun x h=>(by cases h),fun x h=>(by cases h)⟩
theorem zhn:∀(l:List Value) (n:Nat) (cells:Array Value),n+l.length<=cells.size->((l.zipIdx n).foldl (fun cs (x:Value×Nat)=>cs.setIfInBounds (0+x.2) x.1) cells).toList=cells.toList.take n++l++cells.toList.drop (n+l.length)
 | [],n,cells,_=>by simp
 |v::l,n,cells,h=>by
  simp only[List.length_cons]at h;rw[List.zipIdx_cons,List.foldl_cons,zhn l (n+1) _ (by simp;omega)];rw[yn0,Array.toList_setIfInBounds,List.take_set,List.drop_set_of_lt (by omega)];have hlt:n<cells.toList.length:=by simp;omega
  rw[zal hlt];have e1:(cells.toList.take n).length=n:=by rw[List.length_take];omega
  rw[List.set_append_right _ _ (by omega),e1,Nat.sub_self,List.set_cons_zero];simp[Nat.add_assoc,Nat.add_comm 1]
theorem fill_agg{l:List Value}{k:Nat}{cells:Array Value}(hl:l.length=k)(hc:cells.size=k):
  ∃r,Instr.fill (fun i=>some (i*k,k)) cells [(0,.agg l.toArray)]=some r/\r.toList=l:=by
 refine⟨(l.zipIdx 0).foldl (fun cs (x:Value×Nat)=>cs.setIfInBounds (0+x.2) x.1) cells,?_,?_⟩
 ·unfold Instr.fill;have hcl:(Value.agg l.toArray).cells=l.toArray:=rfl;have c1:(decide (l.toArray.size≠k)||decide (0*k+l.toArray.size>cells.size))=false:=by simp[hl,hc]
  simp only[hcl];rw[if_neg (by rw[c1];exact Bool.false_ne_true)];show some _=some _
  congr 1
  rw[Nat.zero_mul];simp[Array.foldl_toList,←Array.foldl_toList]
 ·rw[zhn l 0 cells (by omega)];simp[hl,hc]
theorem zmb{k:Nat}{t e:TypeId}{z:Value}{l:List Value}(hu:tyU P t=some (.slice e))(hz:tyZ P e=some z)(hs:tyS P e=k)(hz1:z.cells.size=k)(hl:l.length=k)(hk:k<=1000)(h1:∀q∈l,one q=true)
  (h:∀w1,Ext w w1->w1.heap.size=w.heap.size+1->OwnK k w.heap.size w1 e (.slice (some ⟨w.heap.size,0,.none⟩) 1 1) [l]->K (.slice (some ⟨w.heap.size,0,.none⟩) 1 1) w1):bsL P t 1 [(0,.agg l.toArray)] w K .mk:=by
 unfold bsL bsK;obtain⟨r,hr1,hr2⟩:=fill_agg (cells:=(Array.range (1*k)).map (z.cells[· % z.cells.size]!)) hl (by simp);have:bsC P t 1 [(0,.agg l.toArray)]=some (e,r):=by
  unfold bsC;rw[hu];simp only[hz,hs];have c1:(decide (1*k<=2 ^ 24) && decide (z.cells.size=k))=true:=by rw[hz1];simp;omega
  rw[c1,cond_true,hr1];rfl
 rw[this];have hsz:r.size=k:=by rw[←hl,←hr2];simp
 exact h _ (Ext.alloc w _) (zai w _) ⟨⟨by simp[hl],.inr ⟨w.heap.size,1,r,rfl,ynl _,zau w _,ynl _,by decide,by simpa using hsz,by rw[hr2];simp[←hl]⟩⟩,fun x h=>(by rw[List.mem_singleton.1 h];exact hl),fun x h=>(by rw[List.mem_singleton.1 h];exact h1)⟩
theorem ret_cell{fn:Func}{n:Nat}{σ:Sto}{R:Value->World->Prop}{e:Exit}(he:e= .normal\/e= .ret){t:Tmp}{tt:TypeId}{x:Addr}{l:List Value}(hl:fn.results.toList=[.cell t tt])(hm:fn.ntmps=n)(hv:ev n σ (.tmp t)= .pointer (some x))
  (hA:tyA P tt=true) {k:Nat} (hk:tyS P tt=k) (hc:zan w (some x) k=some l) (h:R (.agg l.toArray) w):retQ P fn R e σ [] w:=by
 subst hm hk;refine zfn he hl (rs:=[.agg l.toArray]) ?_ h;unfold resV;rw[show (if t<fn.ntmps then σ t else undef)= .pointer (some x) from hv];have:ldV P w tt x=some (.agg l.toArray):=by
  unfold ldV;rw[hA,cond_true,show zaQ w x 0 (tyS P tt)=some l from hc];rfl
 simp only[this,resV]
theorem zdn(w:World)(A B:Obj):Ext w ((w.alloc A).alloc B)/\((w.alloc A).alloc B).heap.size=w.heap.size+2/\((w.alloc A).alloc B).heap[w.heap.size]? =some A/\((w.alloc A).alloc B).heap[w.heap.size+1]? =some B:=by
 have s1:=zai w A;have s2:=zai (w.alloc A) B;have b1:=zau w A;have b2:=zau (w.alloc A) B;rw[s1]at s2 b2;exact⟨(Ext.alloc w A).trans (Ext.alloc _ B),s2,(RowKit.Below.heap_alloc _ B _ (by rw[s1];omega)).trans b1,b2⟩
theorem zdV(w:World)(A B C:Obj):Ext w (((w.alloc A).alloc B).alloc C)/\(((w.alloc A).alloc B).alloc C).heap.size=w.heap.size+3/\(((w.alloc A).alloc B).alloc C).heap[w.heap.size]? =some A/\(((w.alloc A).alloc B).alloc C).heap[w.heap.size+1]? =some B/\(((w.alloc A).alloc B).alloc C).heap[w.heap.size+2]? =some C:=by
 obtain⟨h1,h2,h3,h4⟩:=zdn w A B;have s3:=zai ((w.alloc A).alloc B) C;have b3:=zau ((w.alloc A).alloc B) C;rw[h2]at s3 b3;exact⟨h1.trans (Ext.alloc _ C),s3,(RowKit.Below.heap_alloc _ C _ (by rw[h2];omega)).trans h3,(RowKit.Below.heap_alloc _ C _ (by rw[h2];omega)).trans h4,b3⟩
theorem eqIn_sl{t e:TypeId}(h:P.underlying t=some (.slice e))(n:Nat)(a:Option Addr)(l c:Nat):
  (Op.equalIn (n+1) t (.slice a l c) (.slice .none 0 0)).run P w= .ok a.isNone w:=by
 cases a<;>simp[Op.equalIn,underlying,program,Sem.run,h]
theorem zlX{t e yt:TypeId}{x y:Operand}{a:Option Addr}{n c:Nat}(ht:tyU P t=some (.slice e))(hx:ρ x= .slice a n c)(hy:ρ y= .slice .none 0 0)(h:K (.bool a.isNone) w):
  opW P ⟨d,.binOp .eql t x y yt,ty,ps,af,g⟩ ρ w K:=by
 have h2:(Op.equal t (.slice a n c) (.slice .none 0 0)).run P w= .ok a.isNone w:=eqIn_sl (show P.underlying t=_ from ht) 9999 a n c;have hr:(do eqGuard .eql t x y (.slice a n c) (.slice .none 0 0);binOp .eql t (.slice a n c) (.slice .none 0 0):Sem Value).run P w= .ok (.bool a.isNone) w:=by
  simp[eqGuard,binOp,h2]
 have:=zaO (P:=P) (K:=K) hr h;rw[←hx,←hy]at this;exact this
end
section
variable {α : Type}
def Rows(k:Nat)(C:List Value->α->Prop)(w:World)(v:Value)(xs:List α):Prop:=∃L,RowK k w v L/\L.length=xs.length/\∀i (h:i<L.length) (h':i<xs.length),C L[i] xs[i]
def Owns(k:Nat)(C:List Value->α->Prop)(B:Nat)(w:World)(e:TypeId)(v:Value)(xs:List α):Prop:=∃L,OwnK k B w e v L/\L.length=xs.length/\∀i (h:i<L.length) (h':i<xs.length),C L[i] xs[i]
structure zeD(k:Nat)(C:List Value->α->Prop):Prop where
 len:∀{cs:List Value} {a:α},C cs a->cs.length=k
 ones:∀{cs:List Value} {a:α},C cs a->∀q∈cs,one q=true
variable {k B : Nat} {C C' : List Value -> α -> Prop} {w x : World} {v : Value} {xs : List α} {e : TypeId}
theorem Rows.ext(h:Rows k C w v xs)(hE:Ext w x):Rows k C x v xs:=by
 obtain⟨L,h1,h2,h3⟩:=h;exact⟨L,h1.ext hE,h2,h3⟩
theorem Rows.to(h:Rows k C w v xs)(hC:∀cs a,C cs a->C' cs a):Rows k C' w v xs:=by
 obtain⟨L,h1,h2,h3⟩:=h;exact⟨L,h1,h2,fun i h h'=>hC _ _ (h3 i h h')⟩
theorem Owns.ext(h:Owns k C B w e v xs)(hE:Ext w x):Owns k C B x e v xs:=by
 obtain⟨L,h1,h2,h3⟩:=h;exact⟨L,h1.ext hE,h2,h3⟩
theorem Owns.keep{S:Nat->Prop}(h:Owns k C B w e v xs)(hk:Keep S w x)(hS:∀b,some b=v.ownBlock->¬S b):Owns k C B x e v xs:=by
 obtain⟨L,h1,h2,h3⟩:=h;exact⟨L,h1.keep hk hS,h2,h3⟩
theorem Owns.rows(h:Owns k C B w e v xs):Rows k C w v xs:=by
 obtain⟨L,h1,h2,h3⟩:=h;exact⟨L,h1.rowK,h2,h3⟩
theorem Owns.nil(k:Nat)(C:List Value->α->Prop)(B:Nat)(w:World)(e:TypeId):Owns k C B w e (.slice .none 0 0) []:=⟨[],OwnK.nil _ _ _ _,rfl,fun i h=>absurd h (by simp)⟩
theorem Rows.nil(k:Nat)(C:List Value->α->Prop)(w:World):Rows k C w (.slice .none 0 0) []:=(Owns.nil k C 0 w 0).rows
theorem Owns.mono{B':Nat}(h:Owns k C B w e v xs)(hB:B'<=B):Owns k C B' w e v xs:=by
 obtain⟨L,h1,h2,h3⟩:=h;exact⟨L,h1.mono hB,h2,h3⟩
theorem Owns.ge(h:Owns k C B w e v xs){b:Nat}(hb:some b=v.ownBlock):B<=b/\b<w.heap.size:=by
 obtain⟨L,h1,_⟩:=h;exact h1.ge hb
theorem Rows.open(h:Rows k C w v xs):∃a c,v= .slice a xs.length c/\xs.length<=c/\∀i (h:i<xs.length),∃cs,zan w (adr a (i*k)) k=some cs/\C cs xs[i]:=by
 obtain⟨L,⟨a,c,rfl,hc,hg⟩,h2,h3⟩:=h;refine⟨a,c,by rw[h2],by omega,fun i hi=>⟨L[i]'(by omega),hg i (by omega),h3 i (by omega) hi⟩⟩
theorem zjj{D:Nat->List Value->Prop}:∀(m:Nat),(∀i,i<m->∃cs,D i cs)->∃L:List (List Value),L.length=m/\∀i (h:i<L.length),D i L[i]
 |0,_=>⟨[],rfl,fun i h=>absurd h (by simp)⟩
 |m+1,h=>by
  obtain⟨L,hl,hL⟩:=zjj m (fun i hi=>h i (by omega));obtain⟨cs,h1⟩:=h m (by omega);refine⟨L++ [cs],by simp[hl],fun i hi=>?_⟩;by_cases he:i<L.length
  ·rw[List.getElem_append_left he];exact hL i he
  ·have hi0:i=L.length:=by simp at hi;omega
   have e1:(L++ [cs])[i]=cs:=by simp[hi0]
   rw[e1,hi0,hl];exact h1
theorem Rows.close{a:Option Addr}{c:Nat}(hc:xs.length<=c)(h:∀i (h:i<xs.length),∃cs,zan w (adr a (i*k)) k=some cs/\C cs xs[i]):Rows k C w (.slice a xs.length c) xs:=by
 obtain⟨L,hl,hL⟩:=zjj (D:=fun i cs=>∀h:i<xs.length,zan w (adr a (i*k)) k=some cs/\C cs xs[i]) xs.length (fun i hi=>by
  obtain⟨cs,h1⟩:=h i hi;exact⟨cs,fun _=>h1⟩)
 exact⟨L,⟨a,c,by rw[hl],by omega,fun i hi=>(hL i hi (by omega)).1⟩,hl,fun i h h'=>(hL i h h').2⟩
theorem all_app{L M:List (List Value)}{ys:List α}(hl:L.length=xs.length)(hm:M.length=ys.length)(h:∀q (h:q<L.length) (h':q<xs.length),C L[q] xs[q])(hM:∀q (h:q<M.length) (h':q<ys.length),C M[q] ys[q]):
  ∀q (h:q<(L++M).length) (h':q<(xs++ys).length),C (L++M)[q] (xs++ys)[q]:=by
 intro q h1 h2;by_cases hq:q<L.length
 ·rw[List.getElem_append_left hq,List.getElem_append_left (by omega)];exact h q hq (by omega)
 ·have e1:(L++M)[q]=M[q - L.length]'(by simp at h1;omega):=List.getElem_append_right (by omega);have e2:(xs++ys)[q]=ys[q - L.length]'(by simp at h2;omega):=by rw[List.getElem_append_right (by omega)];simp[hl]
  rw[e1,e2];exact hM _ _ _
theorem Rows.drop{a:Option Addr}{c n:Nat}(h:Rows k C w (.slice a n c) xs){m:Nat}(hm:m<=n):Rows k C w (.slice (if c=m then a else adr a (m*k)) (n - m) (c - m)) (xs.drop m):=by
 obtain⟨a',c',hv',hc,hg⟩:=h.open;have e1:a=a':=by injection hv'
 have e2:n=xs.length:=by injection hv'
 have e3:c=c':=by injection hv'
 subst e1 e2 e3;rw[show xs.length - m=(xs.drop m).length from(List.length_drop ..).symm];refine Rows.close (by rw[List.length_drop];omega) (fun i hi=>?_);rw[List.length_drop]at hi;obtain⟨cs,h1,h2⟩:=hg (m+i) (by omega);refine⟨cs,?_,by rw[List.getElem_drop];exact h2⟩;rw[if_neg (by omega),zfW,←Nat.add_mul];exact h1
theorem Rows.take{a:Option Addr}{c n:Nat}(h:Rows k C w (.slice a n c) xs){m c2:Nat}(hm:m<=n)(hc2:m<=c2):Rows k C w (.slice a m c2) (xs.take m):=by
 obtain⟨a',c',hv',hc,hg⟩:=h.open;have e1:a=a':=by injection hv'
 have e2:n=xs.length:=by injection hv'
 subst e1 e2;have hl:(xs.take m).length=m:=by rw[List.length_take];omega
 have:=Rows.close (k:=k) (C:=C) (w:=w) (a:=a) (c:=c2) (xs:=xs.take m) (by omega) (fun i hi=>by
  rw[hl]at hi;obtain⟨cs,h1,h2⟩:=hg i (by omega);exact⟨cs,h1,by rw[List.getElem_take];exact h2⟩)
 rwa [hl]at this
theorem Rows.len{a:Option Addr}{c n:Nat}(h:Rows k C w (.slice a n c) xs):n=xs.length/\xs.length<=c:=by
 obtain⟨a',c',hv',hc,hg⟩:=h.open;have e2:n=xs.length:=by injection hv'
 have e3:c=c':=by injection hv'
 exact⟨e2,by omega⟩
theorem Rows.get{a:Option Addr}{c n:Nat}(h:Rows k C w (.slice a n c) xs){i:Nat}(hi:i<xs.length):∃cs,zan w (adr a (i*k)) k=some cs/\C cs xs[i]:=by
 obtain⟨a',c',hv',hc,hg⟩:=h.open;have e1:a=a':=by injection hv'
 subst e1;exact hg i hi
theorem zmh{L:List (List Value)}{X:List Value}{m:α}{j:Nat}(hl:L.length=xs.length)(h:∀q (h:q<L.length) (h':q<xs.length),C L[q] xs[q])(hX:C X m):
  ∀q (h:q<(L.set j X).length) (h':q<(xs.set j m).length),C (L.set j X)[q] (xs.set j m)[q]:=by
 intro q h1 h2;by_cases hq:j=q
 ·subst hq;rw[List.getElem_set_self,List.getElem_set_self];exact hX
 ·rw[List.getElem_set_ne hq,List.getElem_set_ne hq];exact h q (by simpa using h1) (by simpa using h2)
theorem Owns.cases(h:Owns k C B w e v xs):
  (v= .slice .none 0 0/\xs=[])\/∃b cap L,v= .slice (some ⟨b,0,.none⟩) xs.length cap/\B<=b/\xs.length<=cap/\cap<=maxLen/\SD k w b e cap L/\L.length=xs.length/\∀i (h:i<L.length) (h':i<xs.length),C L[i] xs[i]:=by
 obtain⟨L,h1,h2,h3⟩:=h;rcases h1.cases with ⟨hv,h0⟩| ⟨b,cap,hv,hb,hc,hm,hD⟩
 ·refine .inl ⟨hv,?_⟩;rw[h0]at h2;exact List.length_eq_zero_iff.1 h2.symm
 ·exact .inr ⟨b,cap,L,by rw[hv,h2],hb,by omega,hm,hD,h2,h3⟩
theorem Owns.of_sd{b cap:Nat}{L:List (List Value)}(h:SD k w b e cap L)(hB:B<=b)(hc:xs.length<=cap)(hm:cap<=maxLen)(hl:L.length=xs.length)(h3:∀i (h:i<L.length) (h':i<xs.length),C L[i] xs[i]):
  Owns k C B w e (.slice (some ⟨b,0,.none⟩) xs.length cap) xs:=by
 have:=OwnK.of_sd h hB (by omega) hm;rw[hl]at this;exact⟨L,this,hl,h3⟩
end
section
variable {P : Program} {d : Option Tmp} {ty : TypeId} {ps : String} {af : Array Edge} {g : Option (Nat × Bool)} {ρ : Operand -> Value} {w : World} {K : Value -> World -> Prop} {α : Type} {k : Nat} {C : List Value -> α -> Prop}
theorem Ext.at{w x:World}(h:Ext w x){b:Nat}{O:Obj}(hb:w.heap[b]? =some O):x.heap[b]? =some O:=(h.block _ (Array.getElem?_eq_some_iff.1 hb).1 (fun h=>h)).trans hb
theorem zax{f:Option Nat}{n:Nat}{c:Code}{Q:Post}{σ:Sto}{ds:List Deferred}{O:Obj}(h:∀w1,Ext w w1->w1.heap.size=w.heap.size+1->w1.heap[w.heap.size]? =some O->W P f n c Q σ ds w1):W P f n c Q σ ds (w.alloc O):=
 h _ (Ext.alloc w O) (zai w O) (zau w O)
theorem zaF{f:Option Nat}{n:Nat}{c:Code}{Q:Post}{σ:Sto}{ds:List Deferred}{A B:Obj}(h:∀w1,Ext w w1->w1.heap.size=w.heap.size+2->w1.heap[w.heap.size]? =some A->w1.heap[w.heap.size+1]? =some B->W P f n c Q σ ds w1):W P f n c Q σ ds ((w.alloc A).alloc B):=by
 obtain⟨h1,h2,h3,h4⟩:=zdn w A B;exact h _ h1 h2 h3 h4
theorem zaG(hC:zeD k C){B:Nat}{s x:Operand}{t e:TypeId}{inf:TypeInfo}{z:Value}{bytes:Nat}{v u:Value}{xs ys:List α}(hown:Owns k C B w e v xs)(hrow:Rows k C w u ys)
  (ht:tyU P t=some (.slice e)) (hi:P.info? e=some inf) (hz:inf.zero=some z)
  (hsize:inf.size=k) (hby:inf.bytes=bytes) (hzs:z.cells.size=k) (hk0:0<k) (hv:ρ s=v) (hu:ρ x=u)
  (hlen:xs.length+ys.length<=100000000000) (hbytes:bytes<=1000) (hB:B<=w.heap.size)
  (h:∀v' w',Owns k C B w' e v' (xs++ys)->(∀w0,Ext w0 w->w0.heap.size<=B->Ext w0 w')->Keep (fun b=>some b=v.ownBlock) w w'->(∀b,some b=v'.ownBlock->some b=v.ownBlock\/w.heap.size<=b)->K v' w'):
  opW P ⟨d,.call ⟨.builtin .append,#[s,x],#[t,t]⟩,ty,ps,af,g⟩ ρ w K:=by
 obtain⟨L,h1,h2,h3⟩:=hown;obtain⟨M,m1,m2,m3⟩:=hrow;have hMl:∀x∈M,x.length=k:=fun x hx=>by
  obtain⟨i,hi,rfl⟩:=List.getElem_of_mem hx;exact hC.len (m3 i hi (by omega))
 have hM1:∀x∈M,∀q∈x,one q=true:=fun x hx=>by
  obtain⟨i,hi,rfl⟩:=List.getElem_of_mem hx;exact hC.ones (m3 i hi (by omega))
 refine ziy h1 m1 ht hi hz hsize hby hzs hk0 hv hu hMl hM1 (by omega) hbytes hB ?_;intro v' w' ho hE hk hb _;exact h v' w' ⟨L++M,ho,by simp[h2,m2],all_app h2 m2 h3 m3⟩ hE hk hb
theorem zaR(hC:zeD k C){t e:TypeId}{z:Value}{l:List Value}{a:α}(hu:tyU P t=some (.slice e))(hz:tyZ P e=some z)(hs:tyS P e=k)(hz1:z.cells.size=k)(hl:C l a)(hk:k<=1000)
  (h:∀w1,Ext w w1->w1.heap.size=w.heap.size+1->Owns k C w.heap.size w1 e (.slice (some ⟨w.heap.size,0,.none⟩) 1 1) [a]->K (.slice (some ⟨w.heap.size,0,.none⟩) 1 1) w1):bsL P t 1 [(0,.agg l.toArray)] w K .mk:=by
 refine zmb hu hz hs hz1 (hC.len hl) hk (hC.ones hl) ?_;intro w1 hE hsz ho;refine h w1 hE hsz ⟨[l],ho,rfl,fun i h h'=>?_⟩;have:i=0:=by simp at h;omega
 subst this;exact hl
end
theorem flat_set{k:Nat}{D:List (List Value)}(h:∀x∈D,x.length=k){j i:Nat}(hj:j<D.length)(hi:i<k)(v:Value):(D.set j (D[j].set i v)).flatten=D.flatten.set (j*k+i) v:=by
 obtain⟨e1,e2⟩:=zg0 h hj;have hk:=h D[j] (List.getElem_mem hj);have e3:(D.set j (D[j].set i v)).flatten=(D.take j).flatten++D[j].set i v++(D.drop (j+1)).flatten:=by
  rw[List.set_eq_take_append_cons_drop,if_pos hj];simp
 rw[e3,e1,yla,yla,List.set_append_right _ _ (by omega),e2,show j*k+i - j*k=i from by omega,List.set_append_left _ _ (by omega)]
theorem SD.setAt{k:Nat}{w:World}{b:Nat}{e:TypeId}{cap:Nat}{D:List (List Value)}(h:SD k w b e cap D){P:Program}{t:TypeId}{K:Value->World->Prop}{j i:Nat}(hj:j<D.length)(hi:i<k){v:Value}(hv:one v=true)
  (hs:tyS P t=1) (hin:(P.info? t).isSome=true) (hK:∀w',w'.heap.size=w.heap.size->SD k w' b e cap (D.set j (D[j].set i v))->Keep (fun i=>i=b) w w'->K undef w'):
  stK P t (.pointer (some ⟨b,j*k+i,.none⟩)) v w K:=by
 obtain⟨cur,R,hb,hc,hsz⟩:=h.lies;have hfl:=zbG h.len;have hlt:j*k+i<D.flatten.length:=by
  rw[hfl];have:(j+1)*k<=D.length*k:=Nat.mul_le_mul_right k hj;rw[Nat.succ_mul]at this;omega
 have hcl:cur.size=D.flatten.length+R.length:=by
  have:=congrArg List.length hc;simpa using this
 refine zda hs hin hv hb (by omega) (by simp) ?_;intro w' hs' hb' hk';refine hK w' hs' ⟨⟨_,R,hb',?_,by simpa using hsz⟩,?_,?_⟩ hk'
 ·rw[Array.toList_setIfInBounds,hc,flat_set h.len hj hi,List.set_append_left _ _ hlt]
 ·intro y hy;rcases List.mem_or_eq_of_mem_set hy with hy|rfl
  ·exact h.len y hy
  ·rw[List.length_set];exact h.len _ (List.getElem_mem hj)
 ·intro y hy;rcases List.mem_or_eq_of_mem_set hy with hy|rfl
  ·exact h.ones y hy
  ·intro q hq;rcases List.mem_or_eq_of_mem_set hq with hq|rfl
   ·exact h.ones _ (List.getElem_mem hj) q hq
   ·exact hv
theorem zcB{w:World}{a:Addr}{v:Value}(h:w.cell? a=some v):a.block<w.heap.size:=by
 apply Classical.byContradiction;intro hn;unfold World.cell? at h;rw[Array.getElem?_eq_none (by omega)]at h;cases h
theorem zfa{w:World}{p:Option Addr}{k:Nat}{l:List Value}(h:zan w p k=some l)(hk:0<k){a:Addr}(ha:p=some a):a.block<w.heap.size:=by
 subst ha;have hl:=zkk h;have h1:zaQ w a 0 k=some l:=h;have:=zcB (zeB h1 0 (by omega));have e:(a.add (0+0)).block=a.block:=by unfold Addr.add;split<;>rfl
 rwa [e]at this
theorem Rows.cut{α:Type}{k:Nat}{C:List Value->α->Prop}{w:World}{xs:List α}{a:Option Addr}{c n:Nat}(h:Rows k C w (.slice a n c) xs){lo hi:Nat}(h1:lo<=hi)(h2:hi<=n):
  Rows k C w (.slice (if c=lo then a else adr a (lo*k)) (hi - lo) (c - lo)) ((xs.drop lo).take (hi - lo)):=by
 have hl:=h.len;exact(h.drop (m:=lo) (by omega)).take (by omega) (by omega)
section
variable {P : Program} {w : World} {K : Value -> World -> Prop} {α : Type} {k : Nat} {C : List Value -> α -> Prop}
theorem zeC{t e:TypeId}{z:Value}(hu:tyU P t=some (.slice e))(hz:tyZ P e=some z)(hs:tyS P e=k)(hz1:z.cells.size=k)
  (h:∀w1,Ext w w1->w1.heap.size=w.heap.size+1->Owns k C w.heap.size w1 e (.slice (some ⟨w.heap.size,0,.none⟩) 0 0) ([]:List α)->K (.slice (some ⟨w.heap.size,0,.none⟩) 0 0) w1):bsL P t 0 [] w K .mk:=
 zmc hu hz hs hz1 fun w1 h1 h2 h3=>h w1 h1 h2 ⟨[],h3,rfl,fun i h=>absurd h (by simp)⟩
theorem zfO{b n:Nat}{cur:Array Value}{e:TypeId}{fr:Nat×Nat}(h:w.heap[b]? =some (.cells cur e fr))(hn:n=cur.size):zan w (some ⟨b,0,.none⟩) n=some cur.toList:=by
 rw[zaM h (by omega),List.drop_zero,List.take_of_length_le (by simp[hn])]
end
set_option maxRecDepth 10000
theorem u8_le(u:UInt8):(65<=u↔(65:Int)<=u.toNat)/\(u<=90↔(u.toNat:Int)<=90):=by
 rw[UInt8.le_iff_toNat_le,UInt8.le_iff_toNat_le];constructor
 ·show 65<=u.toNat↔_;omega
 ·show u.toNat<=90↔_;omega
theorem byteV_up{cc:UInt8}(h65:(65:Int)<=cc.toNat)(h90:(cc.toNat:Int)<=90):zaf (zf6 cc)= .int .u8 (cc.toNat+32):=by
 rw[zgZ ⟨(u8_le cc).1.2 h65,(u8_le cc).2.2 h90⟩];unfold zaf
 congr 1
 have:(cc+32).toNat=cc.toNat+32:=by
  rw[UInt8.toNat_add];show(cc.toNat+32) % 256=_;omega
 rw[this];push_cast;omega
theorem zkc{l:List UInt8}{k:Nat}(hk:k<l.length):(zbj l k)[k]? =some l[k]:=by
 unfold zbj;have e:(zbf (l.take k)).length=k:=by simp[zbf];omega
 rw[List.getElem?_append_right (by omega),e];simp[hk]
theorem zbm(w:World)(l:List UInt8)(hl:l.length<=9000000000000000000):Fn Tryz.prog 54 #[vs l] w (fun v w'=>v=vs (zbf l)/\Ext w w'):=by
 refine enter Tryz.func54 Tryz.ntmps54 rfl rfl ?_;refine gz0 ?_;refine rq ?_;intro gd K hgd hK;try simp only[go_sem]
 refine zjy rfl rfl rfl vq0 ?_;intro c cur w1 hlc hcur htake hE1 hsz1 hb1;try simp only[go_sem]
 apply hK;refine gz0 ?_;refine zao (fun m σ ds A=>ds=[]/\∃i,i+m=l.length/\σ 4=vi i/\σ 3= .slice (some ⟨w.heap.size,0,.none⟩) l.length c/\Ext w A/\
  ∃cur:Array Value,cur.size=c/\cur.toList.take l.length=(zbj l i).map zaf/\A.heap[w.heap.size]? =some (.cells cur 5 (c,c+1))) l.length ?_ ?_
 ·refine⟨rfl,0,by omega,?_,?_,hE1,cur,hcur,by simpa [zbj,zbf] using htake,hb1⟩<;>simp only[go_sem]<;>rfl
 ·rintro m σ ds A ⟨rfl,i,him,h4,h3,hE,cu,hcu,hpre,hrow⟩;refine gz (az2 h4 h3) ?_;refine wc0 ?_ ?_
  ·intro hlt;simp only[ydT]at hlt;have hk:i<l.length:=by omega
   generalize hcc:l[i]=cc;have hcell:zad A (some ⟨w.heap.size,i,.none⟩)=some (.int .u8 cc.toNat):=by
    show A.cell? _=_;rw[zbN hrow];have:(cu.toList.take l.length)[i]? =some (zaf cc):=by rw[hpre,List.getElem?_map,zkc hk,hcc];rfl
    rw[List.getElem?_take,if_pos hk]at this;simpa [zaf] using this
   repeat (with_reducible first|refine zh3 ?_|refine zks ?_|refine zfY ?_|refine zas ?_|refine zds ?_|refine zd1 ?_|refine zbO ?_|refine zdE ?_|refine zbZ ?_|refine zb6 rfl ?_)
   refine W_mid (fun σ ds B=>ds=[]/\σ 4=vi i/\σ 3= .slice (some ⟨w.heap.size,0,.none⟩) l.length c/\Ext w B/\
    ∃cur:Array Value,cur.size=c/\cur.toList.take l.length=(zbj l (i+1)).map zaf/\B.heap[w.heap.size]? =some (.cells cur 5 (c,c+1))) ?_ ?_
   ·repeat refine c_r ?_
    refine rq ?_;intro gd K hgd hK;have hg5:=gk 5 18 hgd rfl;have hno:¬(65<=cc/\cc<=90)->cu.toList.take l.length=(zbj l (i+1)).map zaf:=fun h=>by rw[hpre,zfH hk (by rw[hcc];exact h)]
    by_cases h65:(65:Int)<=cc.toNat
    ·try simp (disch:=first|omega|assumption|rfl) only[go_sem,h4,h3,hcell,yet h65,↓hg5]
     apply hK;refine wcz ?_ ?_
     ·intro h90;simp only[ydT]at h90;refine rqz ?_;intro gd K hgd hK;refine sgz (az3 h4 h3 hcell) ?_;refine zda rfl rfl rfl hrow (by omega) (by simp;omega) ?_;intro w5 hsz5 hb5 hk5;apply hK;repeat (with_reducible first|refine zh3 ?_|refine zks ?_|refine zfY ?_|refine zas ?_|refine zds ?_|refine zd1 ?_|refine zbO ?_|refine zdE ?_|refine zbZ ?_|refine zb6 rfl ?_)
      have hset:((zbj l i).map zaf).set i (.int .u8 (↑cc.toNat+32))=(zbj l (i+1)).map zaf:=by
       rw[←zdS hk,hcc,List.map_set,byteV_up h65 h90]
      refine⟨rfl,?_,?_,Keep.to_ext hE rfl (fun b hb=>by omega) hk5,cu.setIfInBounds i (.int .u8 (↑cc.toNat+32)),by simpa using hcu,?_,hb5⟩
      ·simp only[go_sem,h4]
      ·simp only[go_sem,h3]
      ·rw[Array.toList_setIfInBounds,List.take_set,hpre,hset]
     ·intro h90;simp only[ydF]at h90;repeat (with_reducible first|refine zh3 ?_|refine zks ?_|refine zfY ?_|refine zas ?_|refine zds ?_|refine zd1 ?_|refine zbO ?_|refine zdE ?_|refine zbZ ?_|refine zb6 rfl ?_)
      exact⟨rfl,vq1 h4,vq1 h3,hE,cu,hcu,hno (fun h=>h90 ((u8_le cc).2.1 h.2)),hrow⟩
    ·try simp (disch:=first|omega|assumption|rfl) only[go_sem,h4,h3,hcell,yef h65,↓hg5]
     apply hK;refine wcz ?_ ?_
     ·intro h;simp at h
     ·intro _;repeat (with_reducible first|refine zh3 ?_|refine zks ?_|refine zfY ?_|refine zas ?_|refine zds ?_|refine zd1 ?_|refine zbO ?_|refine zdE ?_|refine zbZ ?_|refine zb6 rfl ?_)
      exact⟨rfl,vq1 h4,vq1 h3,hE,cu,hcu,hno (fun h=>h65 ((u8_le cc).1.1 h.1)),hrow⟩
   ·rintro σ' ds B ⟨rfl,h4',h3',hE',hex⟩;refine rg1 h4' ?_;refine zas ?_;exact⟨m - 1,by omega,rfl,i+1,by omega,by simp only[go_sem];rfl,vq1 h3',hE',hex⟩
  ·intro hge;simp only[ydF]at hge;have hfull:zbj l i=zbf l:=by unfold zbj;rw[List.take_of_length_le (by omega),List.drop_of_length_le (by omega)];simp
   rw[hfull]at hpre;have hlen:(zbf l).length=l.length:=by simp[zbf]
   refine rqz ?_;intro gd K hgd hK;refine sgz h3 ?_;rw[←hlen];refine zbh rfl rfl rfl ((vq2 h3 hlen)) ?_ ?_
   ·intro j hj;rw[hlen]at hj;rw[za6];show A.cell? _=_;rw[zbN hrow];have:(cu.toList.take l.length)[j]? =some (zaf ((zbf l)[j]'(by omega))):=by
     rw[hpre,List.getElem?_map,List.getElem?_eq_getElem (by omega)];rfl
    rw[List.getElem?_take,if_pos hj]at this;simpa using this
   try simp only[go_sem]
   refine en hK ?_;refine rt0 Tryz.ntmps54 ?_;exact⟨rfl,hE⟩
abbrev Nm:=List (List UInt8)
def LB(n:Nm):Prop:=∀l∈n,l.length<=9000000000000000000
theorem LB.get{n:Nm}(h:LB n){i:Nat}(hi:i<n.length):n[i].length<=9000000000000000000:=h _ (List.getElem_mem hi)
def zaq(n:Nm):Nm:=n.map zbf
theorem zbb(n:Nm):(zaq n).length=n.length:=by simp[zaq]
theorem zcO{n:Nm}{i:Nat}(h:i<n.length):zaq (n.take (i+1))=zaq (n.take i)++ [zbf n[i]]:=by
 rw[zal h];simp only[zaq,List.map_append,List.map_cons,List.map_nil]
theorem zeL{a b:Nm}(h:a.length≠b.length):zaq a≠zaq b:=fun e=>h (by rw[←zbb a,e,zbb])
theorem zfI{a b:Nm}{i:Nat}(ha:i<a.length)(hb:i<b.length)(h:zbf a[i]≠zbf b[i]):zaq a≠zaq b:=by
 intro e;apply h;have:=congrArg (fun l:Nm=>l[i]?) e;simpa [zaq,ha,hb] using this
theorem vs_inj{a b:List UInt8}:vs a=vs b↔a=b:=by
 constructor
 ·intro h;simpa [vs] using h
 ·rintro rfl;rfl
theorem zb2(w:World)(a b:Value)(xs ys:List (List UInt8))(ha:Row w a (xs.map vs))(hb:Row w b (ys.map vs))(hx:LB xs)(hy:LB ys)(hxl:xs.length<=9000000000000000000)(hyl:ys.length<=9000000000000000000):
  Fn Tryz.prog 22 #[a,b] w (fun v w'=>v= .bool (decide (zaq xs=zaq ys))/\Ext w w'):=by
 obtain⟨a,ca,rfl,hca,hla⟩:=ha;obtain⟨b,cb,rfl,hcb,hlb⟩:=hb;simp only[ylm]at*;refine enter Tryz.func22 Tryz.ntmps22 rfl rfl ?_;refine gz0 ?_;refine zay (t:=!decide ((xs.length:Int)=ys.length)) (by simp only[go_sem]) ?_ ?_
 ·intro ht;refine gz0 ?_;refine rt0 Tryz.ntmps22 ?_;exact⟨by rw[yef (zeL (by simp at ht;omega))],Keep.refl _ _⟩
 ·intro ht;refine gz0 ?_;refine zao (fun m σ ds v=>ds=[]/\∃i,i+m=xs.length/\σ 5=vi i/\σ 0= .slice a xs.length ca/\σ 1= .slice b ys.length cb/\Ext w v/\zaq (xs.take i)=zaq (ys.take i)) xs.length ?_ ?_
  ·refine⟨rfl,0,by omega,?_,?_,?_,Keep.refl _ _,by simp[zaq]⟩<;>simp only[go_sem]<;>rfl
  ·rintro m σ ds v ⟨rfl,i,him,h5,h0,h1,hE,hpre⟩;refine zf8 ?_;refine zf8 ?_;refine rq ?_;intro gd K hgd hK;simp only[go_sem,h5,h0,h1];apply hK;refine zay (t:=decide ((i:Int)<xs.length)) (by simp only[go_sem]) ?_ ?_
   ·intro hlt;simp only[ydT]at hlt;repeat refine c_r ?_
    refine zaJ (fun _=>false) [(0,true),(1,true),(2,true),(3,true),(5,true),(6,true),(7,true),(8,true),(4,false),(9,false),(10,true)] NoS mixed (by kernel_rfl) ?_;intro gd K x hgd hx hxe hK;clear hxe;have hsa:a.isSome=true:=zag (hla i (by omega));have hsb:b.isSome=true:=zag (hlb i (by simp at ht;omega));have hla':=fun j h=>zaa (hE.trans hx) (hla j h);have hlb':=fun j h=>zaa (hE.trans hx) (hlb j h);have hxy:xs.length=ys.length:=by simp at ht;omega
    clear ht;simp (disch:=first|omega|assumption) only[go_sem,h5,h0,h1,hla',hlb',List.getElem_map];refine Fn.mono (zbm _ _ (LB.get ‹LB _› _)) ?_;rintro _ x1 ⟨rfl,hx1⟩;refine⟨.inr hx1,?_⟩;refine sg0 ?_;refine Fn.mono (zbm _ _ (LB.get ‹LB _› _)) ?_;rintro _ x2 ⟨rfl,hx2⟩;refine⟨.inr hx2,?_⟩;simp only[go_sem];refine en hK ?_;refine zay (by simp only[go_sem];rfl) ?_ ?_
    ·intro hne;simp only[Bool.not_eq_true',ydF]at hne;refine gz0 ?_;refine rt0 Tryz.ntmps22 ?_;exact⟨by rw[yef (zfI (i:=i) (by omega) (by omega) hne)],((hE.trans hx).trans hx1).trans hx2⟩
    ·intro heq;simp only[Bool.not_eq_false',ydT]at heq;refine rqz ?_;intro gd K hgd hK;simp (disch:=first|omega|assumption) only[go_sem,h5,h0,h1];apply hK;refine zas ?_;refine⟨m - 1,by omega,rfl,i+1,by omega,?_,?_,?_,((hE.trans hx).trans hx1).trans hx2,?_⟩
     ·simp only[go_sem];rfl
     ·simp only[go_sem,h0]
     ·simp only[go_sem,h1]
     ·rw[zcO (by omega),zcO (by omega),hpre,heq]
   ·intro hge;simp only[ydF]at hge;refine gz0 ?_;refine rt0 Tryz.ntmps22 ?_;refine⟨?_,hE⟩;rw[List.take_of_length_le (by omega),List.take_of_length_le (by simp at ht;omega)]at hpre;rw[yet hpre]
theorem Row.cut{w:World}{a:Option Addr}{n c:Nat}{l:List Value}(hn:n=l.length)(hc:n<=c)(hl:∀j (h:j<l.length),zad w (adr a j)=some l[j]){lo hi:Nat}(h1:lo<=hi)(h2:hi<=n):
  Row w (.slice (if c=lo then a else adr a lo) (hi - lo) (c - lo)) ((l.drop lo).take (hi - lo)):=by
 have hlen:((l.drop lo).take (hi - lo)).length=hi - lo:=by simp;omega
 refine⟨_,_,by rw[hlen],by omega,fun j hj=>?_⟩;rw[hlen]at hj;rw[if_neg (by omega),zfW,hl (lo+j) (by omega)];simp
theorem Row.tail{w:World}{a:Option Addr}{n c:Nat}{l:List Value}(hn:n=l.length)(hc:n<=c)(hl:∀j (h:j<l.length),zad w (adr a j)=some l[j]){lo:Nat}(h2:lo<=n):
  Row w (.slice (if c=lo then a else adr a lo) (n - lo) (c - lo)) (l.drop lo):=by
 have:=Row.cut hn hc hl h2 (ynl _)
 rwa [List.take_of_length_le (by simp;omega)]at this
def zaV(n z:Nm):Bool:=decide (z.length<=n.length) && decide (zaq (n.drop (n.length - z.length))=zaq z)
theorem LB.drop{n:Nm}(h:LB n)(k:Nat):LB (n.drop k):=fun l hl=>h l (List.drop_subset _ _ hl)
theorem zcS(w:World)(a b:Value)(xs ys:Nm)(ha:Row w a (xs.map vs))(hb:Row w b (ys.map vs))(hx:LB xs)(hy:LB ys)(hxl:xs.length<=9000000000000000000)(hyl:ys.length<=9000000000000000000):
  Fn Tryz.prog 71 #[a,b] w (fun v w'=>v= .bool (zaV xs ys)/\Ext w w'):=by
 have hb0:=hb;obtain⟨a,ca,rfl,hca,hla⟩:=ha;obtain⟨b,cb,rfl,hcb,hlb⟩:=hb;simp only[ylm]at*;refine enter Tryz.func71 Tryz.ntmps71 rfl rfl ?_;refine gz0 ?_;refine rq ?_;intro gd K hgd hK;have hg5:=gk 5 10 hgd rfl;by_cases h:(ys.length:Int)<=xs.length
 ·try simp (disch:=first|omega|assumption|rfl) only[go_sem,yet h,↓hg5]
  have hd:((xs.length:Int) - ys.length).toNat=xs.length - ys.length:=by omega
  have hcut:=Row.tail (l:=xs.map vs) (by simp) hca (fun j hj=>by rw[hla j (by simpa using hj)]) (lo:=xs.length - ys.length) (by omega);rw[←List.map_drop]at hcut;rw[hd];refine Fn.mono (zb2 w _ _ _ _ hcut hb0 (hx.drop _) hy (by simp;omega) hyl) ?_;rintro _ w1 ⟨rfl,hE⟩;try simp (disch:=first|omega|assumption|rfl) only[go_sem,yet h,↓hg5]
  refine en hK ?_;refine rt0 Tryz.ntmps71 ?_;exact⟨by simp[zaV];omega,hE⟩
 ·try simp (disch:=first|omega|assumption|rfl) only[go_sem,yef h,↓hg5]
  refine en hK ?_;refine rt0 Tryz.ntmps71 ?_;exact⟨by simp[zaV];omega,Keep.refl _ _⟩
theorem LSame_ok(w:World)(a b:List UInt8)(ha:a.length<=9000000000000000000)(hb:b.length<=9000000000000000000):Fn Tryz.prog 82 #[vs a,vs b] w (fun v w'=>v= .bool (decide (zbf a=zbf b))/\Ext w w'):=by
 refine enter Tryz.func82 Tryz.ntmps82 rfl rfl ?_;refine gz0 ?_;refine rq ?_;intro gd K hgd hK;try simp only[go_sem]
 refine Fn.mono (zfc _ _ ha) ?_;rintro _ w1 ⟨rfl,hE1⟩;try simp only[go_sem]
 refine Fn.mono (zfc _ _ hb) ?_;rintro _ w2 ⟨rfl,hE2⟩;try simp only[go_sem]
 refine en hK ?_;refine rt0 Tryz.ntmps82 ?_;exact⟨rfl,hE1.trans hE2⟩
theorem zik(w:World)(a b:Value)(xs ys:Nm)(ha:Row w a (xs.map vs))(hb:Row w b (ys.map vs))(hx:LB xs)(hy:LB ys)(hxl:xs.length<=9000000000000000000)(hyl:ys.length<=9000000000000000000):
  Fn Tryz.prog 81 #[a,b,.func (.func 82) #[] #[]] w (fun v w'=>v= .bool (decide (zaq xs=zaq ys))/\Ext w w'):=by
 obtain⟨a,ca,rfl,hca,hla⟩:=ha;obtain⟨b,cb,rfl,hcb,hlb⟩:=hb;simp only[ylm]at*;refine enter Tryz.func81 Tryz.ntmps81 rfl rfl ?_;repeat (first|refine c_r ?_|refine rg0 ?_)
 refine zay (t:=!decide ((xs.length:Int)=ys.length)) (by simp only[go_sem]) ?_ ?_
 ·intro ht;repeat (first|refine c_r ?_|refine rg0 ?_)
  refine rt0 Tryz.ntmps81 ?_;exact⟨by rw[yef (zeL (by simp at ht;omega))],Keep.refl _ _⟩
 ·intro ht;have hxy:xs.length=ys.length:=by simp at ht;omega
  clear ht;repeat (first|refine c_r ?_|refine rg0 ?_)
  refine zao (fun m σ ds v=>ds=[]/\∃i,i+m=xs.length/\σ 17=vi i/\σ 16=vi xs.length/\σ 15= .slice a xs.length ca/\σ 1= .slice b ys.length cb/\σ 2= .func (.func 82) #[] #[]/\Ext w v/\zaq (xs.take i)=zaq (ys.take i)) xs.length ?_ ?_
  ·refine⟨rfl,0,by omega,?_,?_,?_,?_,?_,Keep.refl _ _,by simp[zaq]⟩<;>simp only[go_sem]<;>rfl
  ·rintro m σ ds v ⟨rfl,i,him,h17,h16,h15,h1,h2,hE,hpre⟩;repeat refine c_r ?_
   refine rg2 h17 h16 ?_;repeat refine c_r ?_
   refine wc0 ?_ ?_
   ·intro hlt;simp only[ydT]at hlt;have hsa:a.isSome=true:=zag (hla i (by omega));have hsb:b.isSome=true:=zag (hlb i (by omega));have hla':=fun j h=>zaa hE (hla j h);have hlb':=fun j h=>zaa hE (hlb j h);repeat (first|refine c_r ?_| (refine zb7 (by rfl) ?_;intro gd K hgd hK;simp (disch:=first|omega|assumption|rfl) only[go_sem,h17,h15,h1,hla',hlb',List.getElem_map];refine hK _ _ ?_;clear hK hgd;clear K gd))
    refine rq ?_;intro gd K hgd hK;try simp (disch:=first|omega|assumption|rfl) only[go_sem,h2]
    refine Fn.mono (LSame_ok _ _ _ (LB.get hx _) (LB.get hy _)) ?_;rintro _ x1 ⟨rfl,hx1⟩;try simp only[go_sem]
    refine hK _ _ ?_;clear hK hgd;clear K;try clear gd
    repeat refine c_r ?_
    refine wc0 ?_ ?_
    ·intro hne;simp only[Bool.not_eq_true',ydF]at hne;repeat refine c_r ?_
     refine rg0 ?_;repeat refine c_r ?_
     refine rt0 Tryz.ntmps81 ?_;exact⟨by rw[yef (zfI (i:=i) (by omega) (by omega) hne)],hE.trans hx1⟩
    ·intro heq;simp only[Bool.not_eq_false',ydT]at heq;repeat refine c_r ?_
     refine rg1 h17 ?_;refine zas ?_;refine⟨m - 1,by omega,rfl,i+1,by omega,?_,?_,?_,?_,?_,hE.trans hx1,?_⟩
     ·simp only[go_sem];rfl
     ·simp only[go_sem,h16]
     ·simp only[go_sem,h15]
     ·simp only[go_sem,h1]
     ·simp only[go_sem,h2]
     ·rw[zcO (by omega),zcO (by omega),hpre,heq]
   ·intro hge;simp only[ydF]at hge;repeat (first|refine c_r ?_|refine rg0 ?_)
    refine rt0 Tryz.ntmps81 ?_;refine⟨?_,hE⟩;rw[List.take_of_length_le (by omega),List.take_of_length_le (by omega)]at hpre;rw[yet hpre]
theorem zeF(w:World)(a b:Value)(xs ys:Nm)(ha:Row w a (xs.map vs))(hb:Row w b (ys.map vs))(hx:LB xs)(hy:LB ys)(hxl:xs.length<=9000000000000000000)(hyl:ys.length<=9000000000000000000):
  Fn Tryz.prog 28 #[a,b] w (fun v w'=>v= .bool (decide (zaq xs=zaq ys))/\Ext w w'):=by
 refine enter Tryz.func28 Tryz.ntmps28 rfl rfl ?_;refine gz0 ?_;refine rq ?_;intro gd K hgd hK;try simp only[go_sem]
 refine Fn.mono (zik w _ _ _ _ ha hb hx hy hxl hyl) ?_;rintro _ w1 ⟨rfl,hE⟩;try simp only[go_sem]
 refine en hK ?_;refine rt0 Tryz.ntmps28 ?_;exact⟨rfl,hE⟩
theorem zc3(w:World)(a b:Value)(xs ys:Nm)(ha:Row w a (xs.map vs))(hb:Row w b (ys.map vs))(hx:LB xs)(hy:LB ys)(hxl:xs.length<=9000000000000000000)(hyl:ys.length<=9000000000000000000):
  Fn Tryz.prog 32 #[a,b] w (fun v w'=>v= .bool (zaV xs ys)/\Ext w w'):=by
 have hb0:=hb;obtain⟨a,ca,rfl,hca,hla⟩:=ha;obtain⟨b,cb,rfl,hcb,hlb⟩:=hb;simp only[ylm]at*;refine enter Tryz.func32 Tryz.ntmps32 rfl rfl ?_;refine gz0 ?_;refine rq ?_;intro gd K hgd hK;have hg5:=gk 5 10 hgd rfl;by_cases h:(ys.length:Int)<=xs.length
 ·try simp (disch:=first|omega|assumption|rfl) only[go_sem,yet h,↓hg5]
  have hd:((xs.length:Int) - ys.length).toNat=xs.length - ys.length:=by omega
  have hcut:=Row.tail (l:=xs.map vs) (by simp) hca (fun j hj=>by rw[hla j (by simpa using hj)]) (lo:=xs.length - ys.length) (by omega);rw[←List.map_drop]at hcut;rw[hd];refine Fn.mono (zeF w _ _ _ _ hcut hb0 (hx.drop _) hy (by simp;omega) hyl) ?_;rintro _ w1 ⟨rfl,hE⟩;try simp (disch:=first|omega|assumption|rfl) only[go_sem,yet h,↓hg5]
  refine en hK ?_;refine rt0 Tryz.ntmps32 ?_;exact⟨by simp[zaV];omega,hE⟩
 ·try simp (disch:=first|omega|assumption|rfl) only[go_sem,yef h,↓hg5]
  refine en hK ?_;refine rt0 Tryz.ntmps32 ?_;exact⟨by simp[zaV];omega,Keep.refl _ _⟩
theorem Child_ok(w:World)(b:Value)(l:List UInt8)(xs:Nm)(hb:Row w b (xs.map vs))(hxl:xs.length<=8796093022207):
  Fn Tryz.prog 31 #[vs l,b] w (fun v w'=>RowB w.heap.size w' v ((l::xs).map vs)/\Ext w w'):=by
 have hb0:=hb;obtain⟨b,cb,rfl,hcb,hlb⟩:=hb;simp only[ylm]at*;refine enter Tryz.func31 Tryz.ntmps31 rfl rfl ?_;refine gz0 ?_;refine rq ?_;intro gd K hgd hK;try simp only[go_sem]
 have hbs:bsC Tryz.prog 27 1 [(0,vs l)]=some (9,#[vs l]):=ziN (z:=vs []) rfl rfl rfl rfl rfl;unfold bsL bsK;rw[hbs];simp only[];have hown:(w.alloc (.cells #[vs l] 9)).ownsRow w.heap.size 9 1 (.slice (some ⟨w.heap.size,0,.none⟩) 1 1) 1 [vs l]:=
  ⟨rfl,.inr ⟨w.heap.size,1,#[vs l],rfl,ynl _,zau w _,ynl _,by decide,rfl,rfl⟩⟩
 try simp only[go_sem]
 refine zd9 (P:=Tryz.prog) (e:=9) (size:=1) (bytes:=16) (m:=xs.length) rfl rfl rfl rfl rfl rfl (by decide) vq0 (by simp only[go_sem];rfl) hown (by simpa using Src1.of_row (hb0.ext (Ext.alloc w _))) ?_ ?_ ?_ (by simp) ?_
 ·intro q hq;obtain⟨s,_,rfl⟩:=List.mem_map.1 hq
  rfl
 ·simp[maxLen];omega
 ·omega
 intro v' w' hown' hgr _;try simp only[go_sem]
 refine en hK ?_;refine rt0 Tryz.ntmps31 ?_;exact⟨by simpa using RowB.of_owns hown',Keep.to_ext (Ext.alloc w _) rfl (fun b hb=>by simp[Value.ownBlock]at hb;omega) hgr⟩
theorem KeepB.to_ext{n0:Nat}{C:Nat->Prop}{w0 w x:World}(h0:Ext w0 w)(h:KeepB n0 C w x)(hn:w0.heap.size<=n0)(hC:∀b,C b->w0.heap.size<=b):Ext w0 x:=
  ⟨h.os.trans h0.os,h.tape.trans h0.tape,h.output.trans h0.output,Nat.le_trans h0.size h.size,
   fun b hb _=>(h.block b (by omega) (fun hc=>by have:=hC b hc;omega)).trans (h0.block b hb (fun x=>x)),Nat.le_trans h0.drawn h.drawn⟩
abbrev cmpL:Lab->Lab->Int:=Lib.compareBytes
theorem zcj{a b:UInt8}:a<b↔a.toNat<b.toNat:=UInt8.lt_iff_toNat_lt
theorem zhV:∀a:Lab,cmpL a a=0
 | []=>rfl
 |a::l=>by
  show(if a<a then _ else if a<a then _ else cmpL l l)=0;have h:¬a<a:=by rw[zcj];omega
  rw[if_neg h,if_neg h];exact zhV l
theorem ze9:∀a b:Lab,cmpL b a= - cmpL a b
 | [],[]=>rfl
 | [],_::_=>rfl
 |_::_,[]=>rfl
 |a::l,b::m=>by
  show(if b<a then _ else if a<b then _ else cmpL m l)= - (if a<b then(-1:Int) else if b<a then 1 else cmpL l m);by_cases h1:a<b
  ·have h2:¬b<a:=by rw[zcj]at*;omega
   rw[if_neg h2,if_pos h1,if_pos h1];rfl
  ·by_cases h2:b<a
   ·rw[if_pos h2,if_neg h1,if_pos h2]
   ·rw[if_neg h2,if_neg h1,if_neg h1,if_neg h2];exact ze9 l m
theorem zcP:∀{a b:Lab},cmpL a b=0->a=b
 | [],[],_=>rfl
 | [],_::_,h=>by cases h
 |_::_,[],h=>by cases h
 |a::l,b::m,h=>by
  change (if a<b then(-1:Int) else if b<a then 1 else cmpL l m)=0 at h
  by_cases h1:a<b
  ·rw[if_pos h1]at h;cases h
  ·by_cases h2:b<a
   ·rw[if_neg h1,if_pos h2]at h;cases h
   ·rw[if_neg h1,if_neg h2]at h;have e:a=b:=by
     apply UInt8.toNat_inj.1;rw[zcj]at*;omega
    rw[e,zcP h]
theorem zgr:∀{a b c:Lab},cmpL a b<=0->cmpL b c<=0->cmpL a c<=0
 | [],_,[],_,_=>Int.le_refl _
 | [],_,_::_,_,_=>by show(-1:Int)<=0;omega
 |a::l,[],_,h,_=>by exact absurd h (by show¬(1:Int)<=0;omega)
 |a::l,b::m,[],_,h=>by exact absurd h (by show¬(1:Int)<=0;omega)
 |a::l,b::m,c::n,h1,h2=>by
  change (if a<b then(-1:Int) else if b<a then 1 else cmpL l m)<=0 at h1
  change (if b<c then(-1:Int) else if c<b then 1 else cmpL m n)<=0 at h2
  show(if a<c then(-1:Int) else if c<a then 1 else cmpL l n)<=0;by_cases e1:a<b
  ·have e3:¬c<b\/c<b:=by by_cases h:c<b<;>simp[h]
   by_cases e2:c<b
   ·have e4:¬b<c:=by rw[zcj]at*;omega
    rw[if_neg e4,if_pos e2]at h2;omega
   ·have:a<c:=by rw[zcj]at*;omega
    rw[if_pos this];omega
  ·by_cases e2:b<a
   ·rw[if_neg e1,if_pos e2]at h1;omega
   ·have e:a=b:=by
     apply UInt8.toNat_inj.1;rw[zcj]at*;omega
    subst e;rw[if_neg e1,if_neg e2]at h1;by_cases e3:a<c
    ·rw[if_pos e3];omega
    ·by_cases e4:c<a
     ·rw[if_neg e3,if_pos e4]at h2;omega
     ·rw[if_neg e3,if_neg e4]at h2;rw[if_neg e3,if_neg e4];exact zgr h1 h2
section
variable {P : Program} {d : Option Tmp} {ty : TypeId} {ps : String} {af : Array Edge} {g : Option (Nat × Bool)} {ρ : Operand -> Value} {w : World} {K : Value -> World -> Prop}
end
theorem zdu(w:World)(r:Nat)(o:Obj):(w.putObj r o).heap.size=w.heap.size:=by simp
structure KeepR(n0 n1:Nat)(X:Nat->Prop)(A B:World):Prop where
 os:B.os=A.os
 tape:B.tape=A.tape
 output:B.output=A.output
 size:A.heap.size<=B.heap.size
 block:∀b,b<A.heap.size->(b<n0\/n1<=b)->¬X b->B.heap[b]? =A.heap[b]?
 drawn:A.drawn<=B.drawn
def IterU{α:Type}(P:Program)(g:FuncId)(cap:Array Value)(W0:World)(n0:Nat)(C:Nat->Prop)(own:Nat)(Pre:List α->α->Prop)(Full:List α->Prop)(enc:Nat->α->(Nat->Prop)->World->Array Value->Prop):Prop:=
 ∀(l:Nat) (J:List α->(Nat->Prop)->World->Prop) (Jx:List α->World->Prop) (W:World),Ext W0 W->n0<=W.heap.size->
  (∀pre U A B,J pre U A->Keep (span W.heap.size own) A B->J pre U B)->(∀pre A B,Jx pre A->Keep (span W.heap.size own) A B->Jx pre B)->
  (∀pre U x A args,Pre pre x->J pre U A->W.heap.size+own<=A.heap.size->KeepB n0 C W A->enc W.heap.size x U A args->Yld P l args A (fun v B=>
   (v= .bool true/\∃U',J (pre++ [x]) U' B/\(∀b,U' b->U b\/(A.heap.size<=b/\b<B.heap.size))/\KeepR n0 W.heap.size (fun b=>C b\/U b) A B)\/(v= .bool false/\Jx (pre++ [x]) B)))->
  J [] NoS W->Fn P g (#[.func (.yield l) #[] #[]]++cap) W (fun _ B=>(∃xs U,Full xs/\J xs U B)\/∃pre x,Pre pre x/\Jx (pre++ [x]) B)
def roundU{α:Type}(I:List α->(Nat->Prop)->World->Prop)(Ix:Code->List α->World->Prop)(C U:Nat->Prop)(pre':List α)(A:World):Post
 | .normal,_,_,B=>∃U',I pre' U' B/\(∀b,U' b->U b\/(A.heap.size<=b/\b<B.heap.size))/\Keep (fun b=>C b\/U b) A B
 | .ret,_,_,B=>Ix .ret pre' B/\Keep (fun b=>C b\/U b) A B
 | .exit id,_,_,B=>Ix (.exit id) pre' B/\Keep (fun b=>C b\/U b) A B
 | .goto t,_,_,B=>Ix (.goto t) pre' B/\Keep (fun b=>C b\/U b) A B
 |_,_,_,_=>False
theorem zek{α:Type}{P:Program}{n:Nat}{f:Operand}{ps:Array Tmp}{assign body:Code}{Q:Post}{σ:Sto}{ds:List Deferred}{w:World}
  {g:FuncId} {cap:Array Value} {W0:World} {n0:Nat} {C:Nat->Prop} {own:Nat} {Pre:List α->α->Prop} {Full:List α->Prop} {enc:Nat->α->(Nat->Prop)->World->Array Value->Prop}
  (hf:ev n σ f= .func (.func g) #[] cap) (hc:zar P g=true) (hit:IterU P g cap W0 n0 C own Pre Full enc) (hW0:Ext W0 w) (hn0:n0<=w.heap.size) (hCn:∀b,C b->b<w.heap.size)
  (henc:∀x U A args,enc (w.heap.size+2) x U A args->args.size=ps.size)
  (I:List α->(Nat->Prop)->World->Prop) (Ix:Code->List α->World->Prop)
  (hI:∀pre U A B,I pre U A->(∀b,U b->w.heap.size+2+own<=b)->Keep (span w.heap.size (2+own)) A B->I pre U B)
  (hIx:∀c pre A B,Ix c pre A->Keep (span w.heap.size (2+own)) A B->Ix c pre B)
  (h0:I [] NoS w)
  (hround:∀(l:Nat) (pre:List α) (U:Nat->Prop) (x:α) (A:World) (args:Array Value),Pre pre x->w.heap.size+2+own<=A.heap.size->I pre U A->(∀b,U b->w.heap.size+2+own<=b/\b<A.heap.size)->enc (w.heap.size+2) x U A args->
   W P (some l) n assign (zdH (fun σ1 ds1 A1=>ds1=[]/\Keep (fun b=>C b\/U b) A A1/\∀A2,Keep (two w.heap.size) A1 A2->W P (some l) n body (roundU I Ix C U (pre++ [x]) A2) σ1 [] A2) (fun _ _ _ _=>False))
    (zdP σ (ps.zip args).toList) [] A)
  (hdone:∀xs U w',Full xs->w.heap.size+2<=w'.heap.size->(∀b,U b->w.heap.size+2+own<=b/\b<w'.heap.size)->I xs U w'->w'.heap[w.heap.size]? =some (.deferred (some []))->Q .normal σ ({target:= .collected w.heap.size,args:=#[]}::ds) w')
  (hstop:∀c pre x w',w.heap.size+2<=w'.heap.size->Pre pre x->Ix c (pre++ [x]) w'->w'.heap[w.heap.size]? =some (.deferred (some []))->
   W P .none n c Q σ ({target:= .collected w.heap.size,args:=#[]}::ds) w'):
  W P .none n (.rangeFunc f ps assign body) Q σ ds w:=by
 refine wpIn_rangeFunc ?_;intro fn _;generalize hrec:zeX fn (act n σ ds).tmps ps assign body w.heap.size=rec;obtain⟨W1,hW1⟩:∃W1,(w.alloc (.deferred (some []))).alloc (.loop (rec .ready .none))=W1:=⟨_,rfl⟩;have hsz1:W1.heap.size=w.heap.size+2:=by rw[←hW1];simp
 have hL1:W1.heap[w.heap.size+1]? =some (.loop (rec .ready .none)):=by
  rw[←hW1];have:=World.alloc_heap_new (w.alloc (.deferred (some []))) (.loop (rec .ready .none));rwa [World.size_alloc]at this
 have hK1:W1.heap[w.heap.size]? =some (.deferred (some [])):=by
  rw[←hW1];exact(RowKit.Below.heap_alloc _ _ _ (by simp)).trans (World.alloc_heap_new w _)
 have hE1:Ext w W1:=by rw[←hW1];exact(Ext.alloc w _).trans (Ext.alloc _ _)
 have hI1:I [] NoS W1:=hI _ _ _ _ h0 (fun _ h=>h.elim) (hE1.mono (fun _ _ h=>h.elim));have hl2:two w.heap.size (w.heap.size+1):= .inr rfl;have hl2':span w.heap.size (2+own) (w.heap.size+1):=by unfold span;omega
 refine⟨w.heap.size+1,[{target:= .collected w.heap.size,args:=#[]}],W1,{target:= .fn (.func g) cap,args:=#[.func (.yield (w.heap.size+1)) #[] #[]]},W1,g,
  #[.func (.yield (w.heap.size+1)) #[] #[]]++cap,W1,?_,?_,?_,?_,zdy,?_⟩
 ·rw[←hW1,←hrec];exact run_enterLoop_outer _ _ _ _ _
 ·simp only[resolve,zcy,hf];simp[Deferred.ofValue,ev]
 ·intro f' hf';trivial
 ·simp only[invoke];exact zct hc
 ·-- the iterator's contract
  have hsp:∀{n:Nat} b,b<n->span W1.heap.size own b->span w.heap.size (2+own) b:=fun b _ h=>by unfold span at*;omega
  have hCl:∀b,two w.heap.size b->¬C b:=fun b hb hcb=>by have:=hCn b hcb;rcases hb with rfl|rfl<;>omega
  refine zc2 (CallsIn.mono (hit (w.heap.size+1)
   (fun pre U B=>(I pre U B/\∀b,U b->w.heap.size+2+own<=b/\b<B.heap.size)/\w.heap.size+2<=B.heap.size/\B.heap[w.heap.size+1]? =some (.loop (rec .ready .none))/\B.heap[w.heap.size]? =some (.deferred (some [])))
   (fun pre B=>∃c,Ix c pre B/\w.heap.size+2<=B.heap.size/\B.heap[w.heap.size+1]? =some (.loop (rec .done (some c)))/\B.heap[w.heap.size]? =some (.deferred (some [])))
   W1 (hW0.trans hE1) (by omega) ?_ ?_ ?_ ⟨⟨hI1,fun _ h=>h.elim⟩,by omega,hL1,hK1⟩) ?_)
  ·rintro pre U A B ⟨⟨hi,hu⟩,hs,hl,hk⟩ hAB;exact⟨⟨hI _ _ _ _ hi (fun b hb=>(hu b hb).1) (hAB.mono hsp),fun b hb=>⟨(hu b hb).1,Nat.lt_of_lt_of_le (hu b hb).2 hAB.size⟩⟩,Nat.le_trans hs hAB.size,(hAB.block _ (by omega) (by unfold span;omega)).trans hl,(hAB.block _ (by omega) (by unfold span;omega)).trans hk⟩
  ·rintro pre A B ⟨c,hi,hs,hl,hk⟩ hAB;exact⟨c,hIx _ _ _ _ hi (hAB.mono hsp),Nat.le_trans hs hAB.size,(hAB.block _ (by omega) (by unfold span;omega)).trans hl,(hAB.block _ (by omega) (by unfold span;omega)).trans hk⟩
  ·-- one round
   rintro pre U x A args hxs ⟨⟨hi,hu⟩,hs,hl,hk⟩ hsA _ hx;have hy:=run_yield (P:=P) (args:=args) hl (by rw[←hrec];exact henc x U A args (by rw[←hsz1];exact hx));unfold Yld zg5
   dsimp only
   rw[show (#[]++args:Array Value)=args from by simp];rw[hy,←hrec]
   dsimp only[zeX,opR]
   refine zcV (r:= .none) (n:=0) (roundIn_of_wpIn (F:=fw .none) (n:=0) trivial ?_);have hin:(fw .none).inRound (w.heap.size+1)=fw (some (w.heap.size+1)):=rfl;rw[hin];have hfold:(ps.zip args).foldl (fun t (x:Tmp×Value)=>t.setIfInBounds x.1 x.2) (act n σ ds).tmps=(act n (zdP σ (ps.zip args).toList) []).tmps:=by
    rw[←Array.foldl_toList];exact zcZ n ds _ σ
   have hst:({tmps:=(ps.zip args).foldl (fun t (x:Tmp×Value)=>t.setIfInBounds x.1 x.2) (act n σ ds).tmps,defers:=[]}:Act)=act n (zdP σ (ps.zip args).toList) []:=by
    rw[hfold];rfl
   have hD1:=(Array.getElem?_eq_some_iff.1 hl).1;have hno:∀b,two w.heap.size b->¬(C b\/U b):=fun b hb h=>by
    rcases h with h|h
    ·exact hCl b hb h
    ·have:=(hu b h).1;rcases hb with rfl|rfl<;>omega
   have hr:=hround (w.heap.size+1) pre U x A args hxs (by omega) hi hu (by rw[←hsz1];exact hx);unfold W at hr;rw[←hst]at hr;refine wpIn_mono hr ?_;rintro e a A1 ⟨σ1,ds1,rfl,hq⟩;cases e with
   |normal=>
    obtain⟨rfl,hA1,hbody⟩:=hq;have hlA1:A1.heap[w.heap.size+1]? =some (.loop (rec .ready .none)):=(hA1.block _ (by omega) (hno _ hl2)).trans hl;have hkA1:A1.heap[w.heap.size]? =some (.deferred (some [])):=(hA1.block _ (by omega) (hno _ (.inl rfl))).trans hk;have hlt1:w.heap.size+1<A1.heap.size:=(Array.getElem?_eq_some_iff.1 hlA1).1;refine⟨_,run_beginRound hlA1 (by rw[←hrec];rfl),?_⟩;have hb:=hbody _ (zaH (w:=A1) (r:=w.heap.size+1) (o:= .loop {rec .ready .none with state:= .busy}) hl2);refine wpIn_mono hb ?_;have hlA2:(A1.putObj (w.heap.size+1) (.loop {rec .ready .none with state:= .busy})).heap[w.heap.size+1]? =some (.loop {rec .ready .none with state:= .busy}):=World.putObj_heap_same hlt1;have hkA2:(A1.putObj (w.heap.size+1) (.loop {rec .ready .none with state:= .busy})).heap[w.heap.size]? =some (.deferred (some [])):=(World.putObj_heap_other (by omega)).trans hkA1;have fin:∀(jump:Option Code) (B:World),Keep (fun b=>C b\/U b) (A1.putObj (w.heap.size+1) (.loop {rec .ready .none with state:= .busy})) B->
      (Instr.endRound (w.heap.size+1) jump).run P B= .ok (.bool jump.isNone) (B.putObj (w.heap.size+1) (.loop (rec (if jump.isNone then .ready else .done) jump)))/\
      w.heap.size+2<=(B.putObj (w.heap.size+1) (.loop (rec (if jump.isNone then .ready else .done) jump))).heap.size/\
      (B.putObj (w.heap.size+1) (.loop (rec (if jump.isNone then .ready else .done) jump))).heap[w.heap.size+1]? =some (.loop (rec (if jump.isNone then .ready else .done) jump))/\
      (B.putObj (w.heap.size+1) (.loop (rec (if jump.isNone then .ready else .done) jump))).heap[w.heap.size]? =some (.deferred (some []))/\
      KeepR n0 W1.heap.size (fun b=>C b\/U b) A (B.putObj (w.heap.size+1) (.loop (rec (if jump.isNone then .ready else .done) jump))):=by
     intro jump B hB;have hlB:=(hB.block _ (by simp;omega) (hno _ hl2)).trans hlA2;have hkB:=(hB.block _ (by simp;omega) (hno _ (.inl rfl))).trans hkA2;have hltB:w.heap.size+1<B.heap.size:=(Array.getElem?_eq_some_iff.1 hlB).1;have hsB:=hB.size;simp only[zdu]at hsB;refine⟨?_,by simp;omega,World.putObj_heap_same hltB,(World.putObj_heap_other (by omega)).trans hkB,?_⟩
     ·have:=run_endRound (P:=P) jump hlB;rw[←hrec]at this ⊢;exact this
     ·refine⟨hB.os.trans hA1.os,hB.tape.trans hA1.tape,hB.output.trans hA1.output,?_,fun b hb hor hn=>?_,Nat.le_trans hA1.drawn hB.drawn⟩
      ·have:=hA1.size;simp;omega
      ·have h1:=hA1.size;have hne:b≠w.heap.size+1:=by omega
       exact(World.putObj_heap_other hne).trans ((hB.block b (by simp;omega) hn).trans ((World.putObj_heap_other hne).trans (hA1.block b hb hn)))
    rintro e a B ⟨σ2,ds2,rfl,hq⟩;cases e with
    |normal=>
     obtain⟨U',hi',hU',hB⟩:=hq;obtain⟨h1,h2,h3,h4,h5⟩:=fin .none B hB;have hsA1:=hA1.size;have hsB:=hB.size;simp only[zdu]at hsB;have hU2:∀b,U' b->U b\/(A.heap.size<=b/\b<B.heap.size):=fun b hb=>by
      rcases hU' b hb with h| ⟨h,h'⟩
      ·exact .inl h
      ·simp only[zdu]at h;exact .inr ⟨by omega,h'⟩
     have hu':∀b,U' b->w.heap.size+2+own<=b/\b<B.heap.size:=fun b hb=>by
      rcases hU2 b hb with h| ⟨h,h'⟩
      ·have:=hu b h;omega
      ·omega
     exact⟨_,_,h1,_,rfl,.inl ⟨rfl,U',⟨⟨hI _ _ _ _ hi' (fun b hb=>(hu' b hb).1) (zaH hl2'),fun b hb=>by rw[zdu];exact hu' b hb⟩,h2,h3.trans (by rw[←hrec];rfl),h4⟩,fun b hb=>by rw[zdu];exact hU2 b hb,h5⟩⟩
    |ret=>
     obtain⟨hi',hB⟩:=hq;obtain⟨h1,h2,h3,h4,_⟩:=fin (some .ret) B hB;exact⟨_,_,h1,_,rfl,.inr ⟨rfl,_,hIx _ _ _ _ hi' (zaH hl2'),h2,h3.trans (by rw[←hrec];rfl),h4⟩⟩
    |exit id=>
     obtain⟨hi',hB⟩:=hq;obtain⟨h1,h2,h3,h4,_⟩:=fin (some (.exit id)) B hB;exact⟨_,_,h1,_,rfl,.inr ⟨rfl,_,hIx _ _ _ _ hi' (zaH hl2'),h2,h3.trans (by rw[←hrec];rfl),h4⟩⟩
    |goto t=>
     obtain⟨hi',hB⟩:=hq;obtain⟨h1,h2,h3,h4,_⟩:=fin (some (.goto t)) B hB;exact⟨_,_,h1,_,rfl,.inr ⟨rfl,_,hIx _ _ _ _ hi' (zaH hl2'),h2,h3.trans (by rw[←hrec];rfl),h4⟩⟩
    |panic c=>exact hq.elim
    |outgrown=>exact hq.elim
   |ret=>exact hq.elim
   |exit id=>exact hq.elim
   |goto t=>exact hq.elim
   |panic c=>exact hq.elim
   |outgrown=>exact hq.elim
  ·rintro e B ⟨v,rfl,h⟩;rcases h with ⟨xs,U,hfull,⟨hi,hu⟩,hs,hl,hk⟩| ⟨pre,x,hxs,c,hi,hs,hl,hk⟩
   ·have hend:=run_endLoop (P:=P) hl (by rw[←hrec];simp[zeX]);have hp:(rec LoopState.ready .none).pending= .none:=by rw[←hrec];rfl
    rw[hp]at hend;refine⟨.none,_,hend,?_⟩;exact⟨σ,_,rfl,hdone xs U _ hfull (by simp;omega) (fun b hb=>by rw[zdu];exact hu b hb) (hI _ _ _ _ hi (fun b hb=>(hu b hb).1) (zaH hl2')) ((World.putObj_heap_other (by omega)).trans hk)⟩
   ·have hend:=run_endLoop (P:=P) hl (by rw[←hrec];simp[zeX]);have hp:(rec LoopState.done (some c)).pending=some c:=by rw[←hrec];rfl
    rw[hp]at hend;refine⟨some c,_,hend,?_⟩;exact hstop c pre x _ (by simp;omega) hxs (hIx _ _ _ _ hi (zaH hl2')) ((World.putObj_heap_other (by omega)).trans hk)
section
variable {α : Type} {k B : Nat} {C : List Value -> α -> Prop} {w x : World} {v : Value} {xs : List α} {e : TypeId}
theorem zbq(a:Addr)(i:Nat):(a.add i).block=a.block:=by unfold Addr.add;split<;>rfl
theorem zl9{a:Addr}(h:x.heap[a.block]? =w.heap[a.block]?):x.cell? a=w.cell? a:=by unfold World.cell?;rw[h]
theorem zfQ{a:Addr}(h:x.heap[a.block]? =w.heap[a.block]?):∀(k i:Nat),zaQ x a i k=zaQ w a i k
 |0,_=>rfl
 |k+1,i=>by
  have e1:x.cell? (a.add i)=w.cell? (a.add i):=zl9 (by rw[zbq];exact h);have e2:=zfQ h k (i+1);unfold zaQ;rw[e1,e2]
theorem ziL{p:Option Addr}(h:∀a,p=some a->x.heap[a.block]? =w.heap[a.block]?)(k:Nat):zan x p k=zan w p k:=by
 cases p with
 |none=>rfl
 |some a=>exact zfQ (h a rfl) k 0
theorem Rows.blocks(h:Rows k C w v xs)(hb:∀a n c,v= .slice (some a) n c->x.heap[a.block]? =w.heap[a.block]?):Rows k C x v xs:=by
 obtain⟨L,⟨a,c,rfl,hc,hl⟩,h2,h3⟩:=h;refine⟨L,⟨a,c,rfl,hc,fun j hj=>?_⟩,h2,h3⟩;rw[←hl j hj];refine ziL (fun p hp=>?_) k;cases a with
 |none=>cases hp
 |some a=>
  have:p.block=a.block:=by
   simp only[adr,Option.map_some,Option.some.injEq]at hp;rw[←hp,zbq]
  rw[this];exact hb a _ _ rfl
def BlkB(B:Nat)(w:World)(v:Value):Prop:=∀a n c,v= .slice (some a) n c->B<=a.block/\a.block<w.heap.size
theorem BlkB.ext(h:BlkB B w v)(hs:w.heap.size<=x.heap.size):BlkB B x v:=fun a n c hv=>⟨(h a n c hv).1,Nat.lt_of_lt_of_le (h a n c hv).2 hs⟩
theorem BlkB.mono{B':Nat}(h:BlkB B w v)(hB:B'<=B):BlkB B' w v:=fun a n c hv=>⟨Nat.le_trans hB (h a n c hv).1,(h a n c hv).2⟩
theorem BlkB.nil{n c:Nat}:BlkB B w (.slice .none n c):=fun a n c hv=>by cases hv
theorem BlkB.same{a:Option Addr}{n c n' c':Nat}(h:BlkB B w (.slice a n c)):BlkB B w (.slice a n' c'):=fun b n2 c2 hv=>by
 injection hv with e1 e2 e3
 subst e1;exact h b n c rfl
theorem Owns.blk(h:Owns k C B w e v xs):BlkB B w v:=by
 intro a n c hv;rcases h.cases with ⟨h1,_⟩| ⟨b,cap,L,h1,hb,_,_,hD,_⟩
 ·rw[h1]at hv;cases hv
 ·rw[h1]at hv;injection hv with e1 e2 e3
  injection e1 with e1
  subst e1;exact⟨hb,hD.lt⟩
theorem Rows.keep(h:Rows k C w v xs){S:Nat->Prop}(hk:Keep S w x)(hB:BlkB B w v)(hS:∀b,B<=b->b<w.heap.size->¬S b):Rows k C x v xs:=
 h.blocks fun a n c hv=>hk.block _ (hB a n c hv).2 (hS _ (hB a n c hv).1 (hB a n c hv).2)
theorem zfR{w:World}{a:Addr}:∀(i m k:Nat) {l:List Value},zaQ w a i (m+k)=some l->zaQ w a (i+m) k=some (l.drop m)
 |i,0,k,l,h=>by rw[yn0]at h;simpa using h
 |i,m+1,k,l,h=>by
  rw[show m+1+k=(m+k)+1 from by omega]at h;unfold zaQ at h
  split at h
  ·rename_i v l' h1 h2;cases h;have:=zfR (i+1) m k h2;rw[show i+1+m=i+(m+1) from by omega]at this;simpa using this
  ·cases h
theorem zhY{w:World}{a:Addr}{m:Nat}:∀(k i:Nat),zaQ w (a.add m) i k=zaQ w a (m+i) k
 |0,_=>rfl
 |k+1,i=>by
  have e:=zhY (w:=w) (a:=a) (m:=m) k (i+1);unfold zaQ;rw[zdo,e];rfl
theorem za9{w:World}{p:Option Addr}{m k:Nat}{l:List Value}(h:zan w p (m+k)=some l):zan w (adr p m) k=some (l.drop m):=by
 cases p with
 |none=>cases h
 |some a=>
  show zaQ w (a.add m) 0 k=_;rw[zhY,Nat.add_zero];have:=zfR 0 m k (show zaQ w a 0 (m+k)=some l from h)
  rwa [yn0]at this
theorem zkK{c lo m:Nat}{y a:Addr}(h:(if c=lo then some y else adr (some y) m)=some a):a.block=y.block:=by
 split at h
 ·cases h;rfl
 ·simp only[adr,Option.map_some,Option.some.injEq]at h;rw[←h,zbq]
theorem zcw{b o n:Nat}(h:b<n):offS (zbE n) (some ⟨b,o,.none⟩):=fun a ha hb=>by
 cases ha;unfold zbE at hb;exact absurd (show n<=b from hb) (by omega)
theorem zll{y:Addr}{k n:Nat}(h:y.block<n):offS (zbE n) (adr (some y) k):=fun a ha hb=>by
 simp only[adr,Option.map_some,Option.some.injEq]at ha;rw[←ha]at hb;unfold zbE at hb;rw[zbq]at hb;omega
theorem zez{w x:World}(h:x=w.drew):Ext w x:=h▸Keep.drew NoS w
/-! ### a variable of several cells -/
variable {P : Program} {K : Value -> World -> Prop}
theorem zaD{t:TypeId}{b:Nat}{cur:Array Value}{l:List Value}(hb:w.heap[b]? =some (.cells cur e (0,0)))(hl:l.length=cur.size)(h1:∀v∈l,one v=true)(hs:tyS P t=l.length)(hi:(P.info? t).isSome=true)
  (hK:∀w',w'.heap.size=w.heap.size->w'.heap[b]? =some (.cells l.toArray e (0,0))->Keep (fun i=>i=b) w w'->K undef w'):stK P t (.pointer (some ⟨b,0,.none⟩)) (.agg l.toArray) w K:=by
 obtain⟨w',k1,k2,k3,cur',k4,k5⟩:=zfl (o:=0) l 0 w [] cur.toList [] cur hb (by simp) rfl (by simp[hl]) h1;refine⟨by simp[Value.cells,hs],hi,w',by simpa [Value.cells] using k1,hK w' k2 ?_ k3⟩;rw[k4];have:cur'=l.toArray:=by
  apply Array.ext';simpa using k5
 rw[this]
theorem zaU{t:TypeId}{b j:Nat}{u:Value}{l:List Value}(hb:w.heap[b]? =some (.cells l.toArray e (0,0)))(hj:j<l.length)(h1:one u=true)(hs:tyS P t=1)(hi:(P.info? t).isSome=true)
  (hK:∀w',w'.heap.size=w.heap.size->w'.heap[b]? =some (.cells (l.set j u).toArray e (0,0))->Keep (fun i=>i=b) w w'->K undef w'):stK P t (.pointer (some ⟨b,j,.none⟩)) u w K:=by
 refine zda hs hi h1 hb (by simpa using hj) (by simp) ?_;intro w' h1 h2 h3;refine hK w' h1 ?_ h3;rw[h2];simp
theorem zcr{b j:Nat}{u:Value}{l:List Value}(hb:w.heap[b]? =some (.cells l.toArray e (0,0)))(hj:l[j]? =some u):zad w (some ⟨b,j,.none⟩)=some u:=by
 show w.cell? _=_;rw[zbN hb];simpa using hj
theorem zae{b n:Nat}{l:List Value}(hb:w.heap[b]? =some (.cells l.toArray e (0,0)))(hn:n=l.length):zan w (some ⟨b,0,.none⟩) n=some l:=by
 have:=zfO (n:=n) hb (by simp[hn]);simpa using this
end
theorem zcz{P:Program}{w:World}{f:Option Nat}{n:Nat}{c:Code}{Q:Post}{σ:Sto}{ds:List Deferred}{A B C:Obj}(h:∀w1,Ext w w1->w1.heap.size=w.heap.size+3->w1.heap[w.heap.size]? =some A->w1.heap[w.heap.size+1]? =some B->w1.heap[w.heap.size+1+1]? =some C->W P f n c Q σ ds w1):W P f n c Q σ ds (((w.alloc A).alloc B).alloc C):=by
 obtain⟨h1,h2,h3,h4,h5⟩:=zdV w A B C;exact h _ h1 h2 h3 h4 h5
section
variable {P : Program} {n : Nat} {σ : Sto} {w : World} {l : List ResultVar} {r : List Value}
theorem zap:resV P n σ w []=some []:=rfl
theorem zam{t:Tmp}{v:Value}(hv:ev n σ (.tmp t)=v)(h:resV P n σ w l=some r):resV P n σ w (.tmp t::l)=some (v::r):=by
 unfold resV;rw[h,←hv];rfl
theorem zaI{a:Tmp}{t:TypeId}{x:Addr}{k:Nat}{cs:List Value}(hv:ev n σ (.tmp a)= .pointer (some x))(hA:tyA P t=true)(hk:tyS P t=k)(hc:zan w (some x) k=some cs)(h:resV P n σ w l=some r):resV P n σ w (.cell a t::l)=some (.agg cs.toArray::r):=by
 subst hk;unfold resV;rw[show (if a<n then σ a else undef)= .pointer (some x) from hv];have:ldV P w t x=some (.agg cs.toArray):=by
  unfold ldV;rw[hA,cond_true,show zaQ w x 0 (tyS P t)=some cs from hc];rfl
 simp only[this,h]
theorem zgE{a:Tmp}{t:TypeId}{x:Addr}{v:Value}(hv:ev n σ (.tmp a)= .pointer (some x))(hA:tyA P t=false)(hU:(tyU P t).isSome=true)(hc:zad w (some x)=some v)(h:resV P n σ w l=some r):resV P n σ w (.cell a t::l)=some (v::r):=by
 unfold resV;rw[show (if a<n then σ a else undef)= .pointer (some x) from hv];have:ldV P w t x=some v:=by
  unfold ldV;rw[hA,cond_false,hU,cond_true];exact hc
 simp only[this,h]
theorem zat{fn:Func}{R:Value->World->Prop}{e:Exit}(he:e= .normal\/e= .ret)(hm:fn.ntmps=n){rs:List ResultVar}(hl:fn.results.toList=rs)(hr:resV P n σ w rs=some r)(h:R (resT r) w):retQ P fn R e σ [] w:=by
 subst hm hl;exact⟨he,trivial,r,hr,h⟩
theorem zbz{fn:Func}{R:Value->World->Prop}{e:Exit}{D:Nat}(he:e= .normal\/e= .ret)(hm:fn.ntmps=n){rs:List ResultVar}(hl:fn.results.toList=rs)(hD:w.heap[D]? =some (.deferred (some [])))
  (h:∀w',Keep (fun b=>b=D) w w'->w'.heap.size=w.heap.size->∃r,resV P n σ w' rs=some r/\R (resT r) w'):retQ P fn R e σ [{target:= .collected D,args:=#[]}] w:=by
 subst hm hl;obtain⟨r,h1,h2⟩:=h (w.putObj D (.deferred .none)) (zaH rfl) (by simp);exact⟨he,⟨D,rfl,hD,trivial⟩,r,h1,h2⟩
end
section
variable {P : Program} {d : Option Tmp} {ty : TypeId} {ps : String} {af : Array Edge} {g : Option (Nat × Bool)} {ρ : Operand -> Value} {w : World} {K : Value -> World -> Prop}
theorem zlg{op:BinOp}{t yt:TypeId}{x y:Operand}{u v r:Value}(hx:ρ x=u)(hy:ρ y=v)(hr:(do eqGuard op t x y u v;binOp op t u v:Sem Value).run P w= .ok r w)(h:K r w):
  opW P ⟨d,.binOp op t x y yt,ty,ps,af,g⟩ ρ w K:=by
 have:=zaO (P:=P) (K:=K) hr h;rw[←hx,←hy]at this;exact this
theorem zhD{t te yt:TypeId}{j:TypeInfo}{x y:Operand}{a:Addr}(ht:tyU P t=some (.pointer te))(hj:P.info? te=some j)(hx:ρ x= .pointer (some a))(hy:ρ y= .pointer (some a))(h:K (.bool false) w):
  opW P ⟨d,.binOp .neq t x y yt,ty,ps,af,g⟩ ρ w K:=by
 refine zlg hx hy ?_ h;simp[eqGuard,Lib.run_neq_ptr_same (P:=P) w a (show P.underlying t=_ from ht) hj]
theorem zli{s t:TypeId}{x:Operand}{u v:Value}{w':World}(hx:ρ x=u)(hr:(convert s t u).run P w= .ok v w')(h:K v w'):opW P ⟨d,.convert s t x,ty,ps,af,g⟩ ρ w K:=by
 show opR P K ((do pure (.value (←convert s t (ρ x))):Sem Next).run P w);rw[hx];exact zaO hr h
theorem op_appS{B:Nat}{s x:Operand}{t tu e:TypeId}{inf:TypeInfo}{v:Value}{l:List Value}{bs:List UInt8}(hown:Own B w e v l)(ht:tyU P t=some (.slice e))(hu:tyU P tu=some .string)(hi:P.info? e=some inf)(hz:inf.zero=some (.int .u8 0))
  (hsize:inf.size=1) (hby:inf.bytes=1) (hv:ρ s=v) (hx:ρ x=vs bs) (hlen:l.length+bs.length<=100000000000) (hB:B<=w.heap.size)
  (h:∀v' w',Own B w' e v' (l++bs.map zaf)->Keep (fun b=>some b=v.ownBlock) w w'->K v' w'):
  opW P ⟨d,.call ⟨.builtin .append,#[s,x],#[t,tu]⟩,ty,ps,af,g⟩ ρ w K:=by
 have hs:(⟨bs.toArray⟩:ByteArray).size=bs.length:=by simp[ByteArray.size]
 obtain⟨v',w',hr,h2,h3,h4⟩:=Lib.run_append_own_string (P:=P) w B t tu ty e inf (show P.underlying t=_ from ht) (show P.underlying tu=_ from hu) hi hz hsize hby v l.length l hown ⟨bs.toArray⟩ (by rw[hs];simp[maxLen];omega) (by rw[hs];omega) hB;have hc:Lib.strCells ⟨bs.toArray⟩=bs.map zaf:=by simp[Lib.strCells,zaf]
 rw[hs,hc]at h2;refine zdb (b:= .append) (r:= .ok v' w') (fun v2 w2 h'=>?_) ⟨v',w',by rw[hv,hx];exact hr⟩;rw[hv,hx]at h';have e1:(Builtin.append_ #[t,tu] ty #[v,.string ⟨bs.toArray⟩]).run P w= .ok v2 w2:=h';rw[hr]at e1;cases e1;have hl:l.length+bs.length=(l++bs.map zaf).length:=by simp
 rw[hl]at h2;exact h v' w' h2 (zgj h3 (zaX _ _ _ _ hr))
theorem zcu{x:Operand}{ts:Array TypeId}{u v:Value}{w':World}(hx:ρ x=u)(hr:(Builtin.unsafeSliceData_ ts ty #[u]).run P w= .ok v w')(h:K v w'):
  opW P ⟨d,.call ⟨.builtin .unsafeSliceData,#[x],ts⟩,ty,ps,af,g⟩ ρ w K:=by
 simp only[opW,execOp,Sem.run_bind,resolve];simp only[Sem.run_pure,Result.andThen_ok,invoke,builtin];exact zaO (s:=Builtin.unsafeSliceData_ ts ty (Array.map ρ #[x])) (by simpa [hx] using hr) h
theorem zbK{x y:Operand}{ts:Array TypeId}{u z v:Value}{w':World}(hx:ρ x=u)(hy:ρ y=z)(hr:(Builtin.unsafeString_ ts ty #[u,z]).run P w= .ok v w')(h:K v w'):
  opW P ⟨d,.call ⟨.builtin .unsafeString,#[x,y],ts⟩,ty,ps,af,g⟩ ρ w K:=by
 simp only[opW,execOp,Sem.run_bind,resolve];simp only[Sem.run_pure,Result.andThen_ok,invoke,builtin];exact zaO (s:=Builtin.unsafeString_ ts ty (Array.map ρ #[x,y])) (by simpa [hx,hy] using hr) h
end
theorem zjt{key:Lab}{v:Value}:∀(es:List MapEntry) (l:List (Lab×Value)) (i:Nat),es.map (fun e=>(e.key,e.val))=l.map (fun p=>(vs p.1,p.2))->l.lookup key=some v->∃j e,Instr.findNow .string (vs key) es i=some (some (i+j,v))/\es[j]? =some e/\e.key=vs key/\e.val=v
 | [],[],_,_,h=>by simp at h
 | [],_::_,_,h,_=>by simp at h
 |_::_,[],_,h,_=>by simp at h
 |e::es,(k,u)::l,i,h,hl=>by
  simp only[List.map_cons,List.cons.injEq,Prod.mk.injEq]at h;obtain⟨⟨h1,h2⟩,h3⟩:=h;simp only[List.lookup_cons]at hl
  split at hl
  ·rename_i heq;cases hl;have:key=k:=by simpa using heq
   subst this;exact⟨0,e,by simp only[Instr.findNow,h1,zcH,heq,h2,Nat.add_zero],rfl,h1,h2⟩
  ·rename_i hne;obtain⟨j,e',g1,g2,g3⟩:=zjt es l (i+1) h3 hl;exact⟨j+1,e',by simp only[Instr.findNow,h1,zcH,hne];rw[g1];congr 3;omega,by simpa using g2,g3⟩
section
variable {P : Program} {d : Option Tmp} {ty : TypeId} {ps : String} {af : Array Edge} {g : Option (Nat × Bool)} {ρ : Operand -> Value} {w : World} {K : Value -> World -> Prop}
theorem zhz{t:TypeId}{m k:Operand}{ok:Bool}{mv kv v:Value}(hm:ρ m=mv)(hk:ρ k=kv)(h:lkV P w t mv kv ok=some v)(hK:K v w):opW P ⟨d,.lookup t m k ok,ty,ps,af,g⟩ ρ w K:=by
 have:=zaO (P:=P) (K:=K) (zlx h) hK;rw[←hm,←hk]at this;exact this
theorem zj1{t kt et:TypeId}{m k x:Operand}{r:Nat}{l:List (Lab×Value)}{key:Lab}{v:Value}(ht:tyU P t=some (.map kt et))(hk:tyU P kt=some .string)
  (hm:ρ m= .map (some r)) (hkey:ρ k=vs key) (hx:ρ x=v) (hat:MapAt w r l) (hin:l.lookup key=some v)
  (h:∀w',MapAt w' r l->Keep (fun i=>i=r) w w'->w'.heap.size=w.heap.size->K undef w'):
  opW P ⟨d,.mapUpdate t m k x,ty,ps,af,g⟩ ρ w K:=by
 obtain⟨es,clk,h1,h2,h3,h4⟩:=hat;obtain⟨j,e,hf,hj,hek,hev⟩:=zjt es.toList l 0 h2 hin;rw[yn0]at hf;have hj':es[j]? =some e:=by simpa using hj
 have hrun:(Instr.mapUpdate t (.map (some r)) (vs key) v).run P w= .ok () (w.putObj r (.map (es.modify j fun e=>{e with key:=vs key,val:=v}) clk)):=by
  have hck:∀e,(Instr.checkKey e 10000 kt (vs key)).run P w= .ok () w:=fun e=>zco hk 9999;have hst:(Instr.keyThatStays (vs key) (vs key)).run P w= .ok (vs key) w:=MapKept.run_keyThatStays (d:= .string) trivial;simp[Instr.mapUpdate,run_underlying (show P.underlying t=_ from ht),MapKept.run_getObj_map h1,hck,Instr.findKey,run_underlying (show P.underlying kt=_ from hk),hf,hj',hek,hst,MapKept.run_setObj_map _ h1,Result.andThen]
  rfl
 have hlt:r<w.heap.size:=(Array.getElem?_eq_some_iff.1 h1).1;have hsame:∀i:Nat,(es.modify j fun e=>{e with key:=vs key,val:=v})[i]? =es[i]?:=fun i=>by
  rw[Array.getElem?_modify]
  split
  ·rename_i hi;rw[←hi,hj'];cases e;simp only at hek hev;subst hek hev
   rfl
  ·rfl
 have hmod:(es.modify j fun e=>{e with key:=vs key,val:=v})=es:=Array.ext_getElem? hsame;rw[hmod]at hrun;have hat':MapAt (w.putObj r (.map es clk)) r l:=⟨es,clk,World.putObj_heap_same hlt,h2,h3,h4⟩;have hfin:=h _ hat' (zaH rfl) (by simp);show opR P K ((do Instr.mapUpdate t (ρ m) (ρ k) (ρ x);pure .skip:Sem Next).run P w);rw[hm,hkey,hx];simp only[Sem.run_bind,hrun,Result.andThen_ok,Sem.run_pure];exact hfin
end
section
variable {P : Program} {d : Option Tmp} {ty : TypeId} {ps : String} {af : Array Edge} {g : Option (Nat × Bool)} {ρ : Operand -> Value} {w : World} {K : Value -> World -> Prop} {good : Value -> Prop}
end
structure KeyL where
 name:Lab
 a:Int
 b:Int
 c:Int
 d:Int
 ref:Bool
def cmpI(a b:Int):Int:=if a<b then -1 else if b<a then 1 else 0
def orI:List Int->Int
 | []=>0
 |a::l=>if a=0 then orI l else a
def lexC{α:Type}(cf:α->α->Int):List α->List α->Int
 | [],[]=>0
 | [],_::_=> -1
 |_::_,[]=>1
 |x::l,y::m=>if cf x y=0 then lexC cf l m else cf x y
theorem orI_drop{l:List Int}{i:Nat}(h:i<l.length):orI (l.drop i)=if l[i]=0 then orI (l.drop (i+1)) else l[i]:=by
 rw[List.drop_eq_getElem_cons h];rfl
theorem zcM{α:Type}{cf:α->α->Int}{a b:List α}{i:Nat}(ha:i<a.length)(hb:i<b.length):lexC cf (a.drop i) (b.drop i)=if cf a[i] b[i]=0 then lexC cf (a.drop (i+1)) (b.drop (i+1)) else cf a[i] b[i]:=by
 rw[List.drop_eq_getElem_cons ha,List.drop_eq_getElem_cons hb];rfl
theorem zcX{α:Type}{cf:α->α->Int}:∀{a b:List α},a=[]\/b=[]->lexC cf a b=cmpI a.length b.length
 | [],[],_=>rfl
 | [],_::_,_=>by simp only[lexC,cmpI,List.length_cons,List.length_nil];rw[if_pos (by omega)]
 |_::_,[],_=>by simp only[lexC,cmpI,List.length_cons,List.length_nil];rw[if_neg (by omega),if_pos (by omega)]
 |_::_,_::_,h=>by simp at h
end Go.Proofs.YtahbdamijngmmaaGreat
namespace Go.Proofs.YtahbdamijngmmaaGreat.N_int
open Go Go.Proofs.YtahbdamijngmmaaGreat
set_option maxRecDepth 10000
theorem isNaN_ok(w:World)(a:Int):Fn Tryz.prog 226 #[.int .i64 a] w (fun v w'=>v= .bool false/\w'=w):=by
 refine enter Tryz.func226 Tryz.ntmps226 rfl rfl ?_;repeat (first|refine c_r ?_| (refine zb7 (by rfl) ?_;intro gd K hgd hK;simp (disch:=first|omega|assumption|rfl) only[go_sem,decide_true];refine hK _ _ ?_;clear hK hgd;clear K gd))
 refine rt0 Tryz.ntmps226 ?_;exact⟨rfl,rfl⟩
theorem Compare_ok(w:World)(a b:Int):Fn Tryz.prog 177 #[.int .i64 a,.int .i64 b] w (fun v w'=>v=vi (cmpI a b)/\w'=w):=by
 refine enter Tryz.func177 Tryz.ntmps177 rfl rfl ?_;refine gz0 ?_;refine rq ?_;intro gd K hgd hK;try simp only[go_sem]
 refine Fn.mono (isNaN_ok _ _) ?_;rintro _ _ ⟨rfl,rfl⟩;try simp only[go_sem]
 apply hK;refine rqz ?_;intro gd K hgd hK;try simp only[go_sem]
 refine Fn.mono (isNaN_ok _ _) ?_;rintro _ _ ⟨rfl,rfl⟩;try simp only[go_sem]
 apply hK;refine gz0 ?_;refine wc0 ?_ ?_
 ·intro h;cases h
 intro _;refine gz0 ?_;refine wc0 ?_ ?_
 ·intro h;cases h
 intro _;refine gz0 ?_;refine wc0 ?_ ?_
 ·intro h;simp only[ydT]at h;refine gz0 ?_;refine rt0 Tryz.ntmps177 ?_;exact⟨by rw[cmpI,if_pos h],rfl⟩
 intro h;simp only[ydF]at h;refine gz0 ?_;refine wc0 ?_ ?_
 ·intro h2;simp only[ydT]at h2;refine gz0 ?_;refine rt0 Tryz.ntmps177 ?_;exact⟨by rw[cmpI,if_neg h,if_pos h2],rfl⟩
 intro h2;simp only[ydF]at h2;refine gz0 ?_;refine rt0 Tryz.ntmps177 ?_;exact⟨by rw[cmpI,if_neg h,if_neg h2],rfl⟩
end Go.Proofs.YtahbdamijngmmaaGreat.N_int
namespace Go.Proofs.YtahbdamijngmmaaGreat
open Go
set_option maxRecDepth 10000
theorem zfT:∀a b:Lab,zdj a b=decide (cmpL a b<0)
 | [],[]=>rfl
 | [],_::_=>rfl
 |_::_,[]=>rfl
 |a::l,b::m=>by
  show(decide (a<b)|| (a==b && zdj l m))=decide ((if a<b then(-1:Int) else if b<a then 1 else cmpL l m)<0);by_cases h1:a<b
  ·simp[h1]
  ·by_cases h2:b<a
   ·have:¬a=b:=by rintro rfl;exact h1 h2
    simp[h1,h2,this]
   ·have:a=b:=by apply UInt8.toNat_inj.1;rw[zcj]at*;omega
    subst this;simp[h1,zfT l m]
theorem zgs:∀a b:Lab,cmpL a b= -1\/cmpL a b=0\/cmpL a b=1
 | [],[]=> .inr (.inl rfl)
 | [],_::_=> .inl rfl
 |_::_,[]=> .inr (.inr rfl)
 |a::l,b::m=>by
  show(if a<b then(-1:Int) else if b<a then 1 else cmpL l m)= -1\/(if a<b then(-1:Int) else if b<a then 1 else cmpL l m)=0\/(if a<b then(-1:Int) else if b<a then 1 else cmpL l m)=1;by_cases h1:a<b
  ·simp[h1]
  ·by_cases h2:b<a
   ·simp[h1,h2]
   ·simp only[h1,h2,if_false];exact zgs l m
theorem zeh{a b c:Lab}(h1:cmpL a b<0)(h2:cmpL b c<=0):cmpL a c<0:=by
 have h3:=zgr (Int.le_of_lt h1) h2;by_cases h:cmpL a c=0
 ·have:=zcP h;subst this;have:=ze9 a b;omega
 ·omega
theorem zf0(w:World)(a b:Lab):Fn Tryz.prog 268 #[vs a,vs b] w (fun v w'=>v=vi (cmpL a b)/\Ext w w'):=by
 have hc:=zgs a b;have h1:=zfT a b;have h2:cmpL a b=0↔a=b:=⟨zcP,fun h=>by rw[h];exact zhV _⟩;refine enter Tryz.func268 Tryz.ntmps268 rfl rfl ?_;refine gz0 ?_;refine wc0 ?_ ?_
 ·intro ht;rw[h1]at ht;simp only[ydT]at ht;refine gz0 ?_;refine rt0 Tryz.ntmps268 ?_;exact⟨by congr 1;omega,Keep.refl _ _⟩
 ·intro hf;rw[h1]at hf;simp only[ydF]at hf;refine gz0 ?_;refine wc0 ?_ ?_
  ·intro ht;rw[h1]at ht;simp only[Bool.not_eq_true',Bool.or_eq_false_iff,ydF]at ht;refine gz0 ?_;refine rt0 Tryz.ntmps268 ?_;refine⟨?_,Keep.refl _ _⟩;have:¬cmpL a b=0:=fun h=>ht.2 (h2.1 h)
   congr 1;omega
  ·intro hf2;rw[h1]at hf2;simp only[Bool.not_eq_false',Bool.or_eq_true,ydT]at hf2;refine gz0 ?_;refine rt0 Tryz.ntmps268 ?_;refine⟨?_,Keep.refl _ _⟩;have:cmpL a b=0:=h2.2 (hf2.resolve_left hf);rw[this]
theorem zeY(w:World)(a b:Lab)(ha:a.length<=9000000000000000000)(hb:b.length<=9000000000000000000):Fn Tryz.prog 265 #[vs a,vs b] w (fun v w'=>v=vi (cmpL (zbf a) (zbf b))/\Ext w w'):=by
 refine enter Tryz.func265 Tryz.ntmps265 rfl rfl ?_;refine gz0 ?_;refine rq ?_;intro gd K hgd hK;try simp only[go_sem]
 refine Fn.mono (zbm _ _ ha) ?_;rintro _ w1 ⟨rfl,hE1⟩;try simp only[go_sem]
 refine Fn.mono (zbm _ _ hb) ?_;rintro _ w2 ⟨rfl,hE2⟩;try simp only[go_sem]
 refine Fn.mono (zf0 _ _ _) ?_;rintro _ w3 ⟨rfl,hE3⟩;try simp only[go_sem]
 refine en hK ?_;refine rt0 Tryz.ntmps265 ?_;exact⟨rfl,(hE1.trans hE2).trans hE3⟩
def sgn(n:Int):Int:=if n<0 then -1 else if 0<n then 1 else 0
theorem zdG(w:World)(n:Int):Fn Tryz.prog 266 #[vi n] w (fun v w'=>v=vi (sgn n)/\Ext w w'):=by
 refine enter Tryz.func266 Tryz.ntmps266 rfl rfl ?_;refine gz0 ?_;refine wc0 ?_ ?_
 ·intro ht;simp only[ydT]at ht;refine gz0 ?_;refine rt0 Tryz.ntmps266 ?_;exact⟨by rw[sgn,if_pos ht],Keep.refl _ _⟩
 ·intro hf;simp only[ydF]at hf;refine gz0 ?_;refine wc0 ?_ ?_
  ·intro ht;simp only[ydT]at ht;refine gz0 ?_;refine rt0 Tryz.ntmps266 ?_;exact⟨by rw[sgn,if_neg hf,if_pos ht],Keep.refl _ _⟩
  ·intro hf2;simp only[ydF]at hf2;refine gz0 ?_;refine rt0 Tryz.ntmps266 ?_;exact⟨by rw[sgn,if_neg hf,if_neg hf2],Keep.refl _ _⟩
def cmpR:Nm->Nm->Int
 | [],[]=>0
 | [],_::_=> -1
 |_::_,[]=>1
 |a::l,b::m=>if cmpL a b=0 then cmpR l m else cmpL a b
def cmpN(a b:Nm):Int:=cmpR a.reverse b.reverse
theorem zjz:∀a b:Nm,a=[]\/b=[]->cmpR a b=sgn ((a.length:Int) - b.length)
 | [],[],_=>rfl
 | [],_::_,_=>by simp only[cmpR,sgn,List.length_cons,List.length_nil];rw[if_pos (by omega)]
 |_::_,[],_=>by simp only[cmpR,sgn,List.length_cons,List.length_nil];rw[if_neg (by omega),if_pos (by omega)]
 |_::_,_::_,h=>by simp at h
theorem zhT{a b:Nm}{i:Nat}(ha:i<a.length)(hb:i<b.length):cmpR (a.drop i) (b.drop i)=if cmpL a[i] b[i]=0 then cmpR (a.drop (i+1)) (b.drop (i+1)) else cmpL a[i] b[i]:=by
 rw[List.drop_eq_getElem_cons ha,List.drop_eq_getElem_cons hb];rfl
theorem zf1(w:World)(a b:Value)(xs ys:Nm)(ha:Row w a (xs.map vs))(hb:Row w b (ys.map vs))(hx:LB xs)(hy:LB ys)(hxl:xs.length<=9000000000000000000)(hyl:ys.length<=9000000000000000000):
  Fn Tryz.prog 219 #[a,b] w (fun v w'=>v=vi (cmpN (zaq xs) (zaq ys))/\Ext w w'):=by
 obtain⟨a,ca,rfl,hca,hla⟩:=ha;obtain⟨b,cb,rfl,hcb,hlb⟩:=hb;simp only[ylm]at*;refine enter Tryz.func219 Tryz.ntmps219 rfl rfl ?_;refine gz0 ?_;refine zao (fun m σ ds v=>ds=[]/\∃i:Nat,i+m=xs.length/\i<=ys.length/\σ 5=vi (i+1)/\σ 0= .slice a xs.length ca/\σ 1= .slice b ys.length cb/\Ext w v/\cmpN (zaq xs) (zaq ys)=cmpR ((zaq xs).reverse.drop i) ((zaq ys).reverse.drop i)) xs.length ?_ ?_
 ·refine⟨rfl,0,by omega,by omega,?_,?_,?_,Keep.refl _ _,by simp[cmpN]⟩<;>simp only[go_sem]<;>rfl
 ·rintro m σ ds v ⟨rfl,i,him,hiy,h5,h0,h1,hE,hinv⟩;refine rqz ?_;intro gd K hgd hK;have hg4:=gk 4 11 hgd rfl;have hstep:∀(c:Bool),(c=true↔i<xs.length/\i<ys.length)->c=false->cmpR ((zaq xs).reverse.drop i) ((zaq ys).reverse.drop i)=sgn ((xs.length:Int) - ys.length):=fun c hc hf=>by
   have hno:¬(i<xs.length/\i<ys.length):=fun h=>by rw[hc.2 h]at hf;cases hf
   have e1:((zaq xs).reverse.drop i).length=xs.length - i:=by simp[zbb]
   have e2:((zaq ys).reverse.drop i).length=ys.length - i:=by simp[zbb]
   rw[zjz _ _ (by
    rcases Nat.lt_or_ge i xs.length with h|h
    ·exact .inr (List.length_eq_zero_iff.1 (by omega))
    ·exact .inl (List.length_eq_zero_iff.1 (by omega))),e1,e2]
   congr 1;omega
  by_cases hlx:((i:Int)+1<=xs.length)
  ·try simp (disch:=first|omega|assumption|rfl) only[go_sem,h5,h0,h1,yet hlx,↓hg4]
   apply hK;refine wcz ?_ ?_
   ·intro hly;simp only[ydT]at hly;have hsa:a.isSome=true:=zag (hla (xs.length - 1 - i) (by omega));have hsb:b.isSome=true:=zag (hlb (ys.length - 1 - i) (by omega));repeat refine c_r ?_
    refine zaJ (fun _=>false) [(0,true),(1,true),(2,true),(3,true),(4,true),(5,true),(6,true),(7,true),(8,true),(9,true),(10,true),(11,true),(12,true),(13,true),(14,false),(15,true)] NoS mixed (by kernel_rfl) ?_;intro gd K x hgd hx hxe hK;clear hxe;have hla':=fun j h=>zaa (hE.trans hx) (hla j h);have hlb':=fun j h=>zaa (hE.trans hx) (hlb j h);have e1:((xs.length:Int) - (i+1)).toNat=xs.length - 1 - i:=by omega
    have e2:((ys.length:Int) - (i+1)).toNat=ys.length - 1 - i:=by omega
    simp (disch:=first|omega|assumption) only[go_sem,h5,h0,h1,e1,e2,hla',hlb',List.getElem_map];refine Fn.mono (zeY _ _ _ (LB.get ‹LB xs› _) (LB.get ‹LB ys› _)) ?_;rintro _ x1 ⟨rfl,hx1⟩;refine⟨.inr hx1,?_⟩;refine sg0 ?_;apply hK;have hst:=zhT (a:=(zaq xs).reverse) (b:=(zaq ys).reverse) (i:=i) (by simp[zbb];omega) (by simp[zbb];omega);have g1:(zaq xs).reverse[i]'(by simp[zbb];omega)=zbf (xs[xs.length - 1 - i]'(by omega)):=by
     rw[List.getElem_reverse];simp[zaq]
    have g2:(zaq ys).reverse[i]'(by simp[zbb];omega)=zbf (ys[ys.length - 1 - i]'(by omega)):=by
     rw[List.getElem_reverse];simp[zaq]
    rw[g1,g2]at hst;refine gz0 ?_;refine wc0 ?_ ?_
    ·intro hne;simp only[Bool.not_eq_true',ydF]at hne;refine gz0 ?_;refine rt0 Tryz.ntmps219 ?_;refine⟨by rw[hinv,hst,if_neg hne],(hE.trans hx).trans hx1⟩
    ·intro heq;simp only[Bool.not_eq_false',ydT]at heq;refine rqz ?_;intro gd K hgd hK;refine sgz h5 ?_;refine en hK ?_;refine⟨m - 1,by omega,rfl,i+1,by omega,by omega,?_,?_,?_,(hE.trans hx).trans hx1,?_⟩
     ·simp only[go_sem];push_cast;rfl
     ·simp only[go_sem,h0]
     ·simp only[go_sem,h1]
     ·rw[hinv,hst,if_pos heq]
   ·intro hge;simp only[ydF]at hge;refine rqz ?_;intro gd K hgd hK;refine sgz (az2 h0 h1) ?_;refine Fn.mono (zdG _ _) ?_;rintro _ w2 ⟨rfl,hE2⟩;try simp only[go_sem]
    refine en hK ?_;refine rt0 Tryz.ntmps219 ?_;exact⟨by rw[hinv,hstep false (by simp;omega) rfl],hE.trans hE2⟩
  ·try simp (disch:=first|omega|assumption|rfl) only[go_sem,h5,h0,h1,yef hlx,↓hg4]
   apply hK;refine wcz ?_ ?_
   ·intro h;simp at h
   ·intro _;refine rqz ?_;intro gd K hgd hK;refine sgz (az2 h0 h1) ?_;refine Fn.mono (zdG _ _) ?_;rintro _ w2 ⟨rfl,hE2⟩;try simp only[go_sem]
    refine en hK ?_;refine rt0 Tryz.ntmps219 ?_;exact⟨by rw[hinv,hstep false (by simp;omega) rfl],hE.trans hE2⟩
end Go.Proofs.YtahbdamijngmmaaGreat
namespace Go.Proofs
open Go.Shelf
def Tryz.lays106_ren:Go.Shelf.Ren:=⟨fun|106=>225|213=>271|265=>294|n=>n,fun|9=>9|3=>3|n=>n,fun|n=>n⟩
theorem Tryz.lays106:Go.Proofs.Lays.n106 Tryz.prog Tryz.lays106_ren:={
 mixed:=by kernel_rfl
 f106:=Tryz.func225.trans (congrArg some (by kernel_rfl))
 f213:=Tryz.func271.trans (congrArg some (by kernel_rfl))
 f265:=Tryz.func294.trans (congrArg some (by kernel_rfl))
 t3:=Tryz.underlying3
 a3:=Tryz.isAgg3
 z3:=Tryz.sizeOf3
 v3:=Tryz.zeroValue3
 t9:=Tryz.underlying9
 a9:=Tryz.isAgg9
 z9:=Tryz.sizeOf9
 v9:=Tryz.zeroValue9}
end Go.Proofs
namespace Go.Proofs.YtahbdamijngmmaaGreat
open Go
set_option maxRecDepth 10000
theorem Fn.of_calls{P:Program}{f:FuncId}{args:Array Value}{w:World}{R:Value->World->Prop}(h:Calls P f args w (fun e w'=>∃v,e= .returned v/\R v w')):Fn P f args w R:=callsIn_wide.2 h
theorem zfZ(w:World)(a b:Lab):Fn Tryz.prog 225 #[vs a,vs b] w (fun v w'=>v=vi (cmpL a b)/\w'=w):=
 Fn.of_calls (Calls.mono (Any.strings_Compare Tryz.lays106 ⟨a.toArray⟩ ⟨b.toArray⟩ w) fun _ _ ⟨he,hw⟩=>⟨_,he,rfl,hw⟩)
theorem ziY(w:World)(a b:Lab)(ha:a.length<=9000000000000000000)(hb:b.length<=9000000000000000000):Fn Tryz.prog 176 #[vs a,vs b] w (fun v w'=>v=vi (cmpL (zbf a) (zbf b))/\Ext w w'):=by
 refine enter Tryz.func176 Tryz.ntmps176 rfl rfl ?_;refine gz0 ?_;refine rq ?_;intro gd K hgd hK;try simp only[go_sem]
 refine Fn.mono (zfc _ _ ha) ?_;rintro _ w1 ⟨rfl,hE1⟩;try simp only[go_sem]
 refine Fn.mono (zfc _ _ hb) ?_;rintro _ w2 ⟨rfl,hE2⟩;try simp only[go_sem]
 refine Fn.mono (zfZ _ _ _) ?_;rintro _ w3 ⟨rfl,rfl⟩;try simp only[go_sem]
 refine en hK ?_;refine rt0 Tryz.ntmps176 ?_;exact⟨rfl,hE1.trans hE2⟩
theorem zfm{P:Program}{e:TypeId}{ad:Option Addr}{n c:Nat}{k k':IntKind}(h:n<=c)(hi:(P.info? e).isSome=true):
  slD P (some (.slice e)) (.slice ad n c) .none (some (.int k n)) (some (.int k' n))=some (.slice ad n n):=by
 have e1:slB .none=some 0:=rfl;have e2:∀(k:IntKind) (d:Nat),slH (some (.int k (n:Int))) d=some n:=fun k d=>by simp[slH]
 simp only[slD,e1,e2];simp[h,hi,zaj]
--?? slices.Clip[[]string,string]
theorem zfz(l:List Lab):∀q∈l.map vs,one q=true:=fun q hq=>by
 obtain⟨s,_,rfl⟩:=List.mem_map.1 hq
 rfl
theorem RFold_ok(w:World)(a:Value)(xs:Nm)(ha:Row w a (xs.map vs))(hx:LB xs)(hxl:xs.length<=100000000000):
  Fn Tryz.prog 83 #[a] w (fun v w'=>Own w.heap.size w' 9 v ((zaq xs).map vs)/\Ext w w'):=by
 obtain⟨a,ca,rfl,hca,hla⟩:=ha;simp only[ylm]at*;refine enter Tryz.func83 Tryz.ntmps83 rfl rfl ?_;repeat (first|refine c_r ?_|refine rg0 ?_)
 refine zao (fun m σ ds A=>ds=[]/\∃i:Nat,∃v,i+m=xs.length/\σ 4=vi i/\σ 0= .slice a xs.length ca/\σ 3=v/\Ext w A/\Own w.heap.size A 9 v ((zaq (xs.take i)).map vs)) xs.length ?_ ?_
 ·refine⟨rfl,0,_,by omega,?_,?_,?_,Keep.refl _ _,Own.nil _ _ _⟩<;>simp only[go_sem]<;>rfl
 ·rintro m σ ds A ⟨rfl,i,v,him,h4,h0,h3,hE,hown⟩;repeat refine c_r ?_
  refine rg2 h4 h0 ?_;repeat refine c_r ?_
  refine wc0 ?_ ?_
  ·intro hlt;simp only[ydT]at hlt;have hsa:a.isSome=true:=zag (hla i (by omega));have hla':=fun j h=>zaa hE (hla j h);repeat refine c_r ?_
   refine rq ?_;intro gd K hgd hK;try simp (disch:=first|omega|assumption|rfl) only[go_sem,h4,h0,h3,hla',List.getElem_map]
   refine Fn.mono (zbm _ _ (LB.get hx _)) ?_;rintro _ w1 ⟨rfl,hE1⟩;try simp only[go_sem]
   refine zdk (z:=vs []) rfl rfl rfl rfl rfl ?_;intro w2 hE2 hs2 ho2;try simp only[go_sem]
   refine zcv ((hown.ext hE1).ext hE2) ho2.row rfl rfl rfl rfl rfl rfl ((vq1 h3)) vr0 (zfz [_]) (by simp[zaq];omega) (by decide) (by have:=hE.size;have:=hE1.size;omega) ?_;intro v' w3 ho3 hE3 _ _;try simp only[go_sem]
   refine hK _ _ ?_;clear hK hgd;clear K;try clear gd
   repeat refine c_r ?_
   refine rg1 h4 ?_;repeat refine c_r ?_
   refine⟨m - 1,by omega,rfl,i+1,_,by omega,by simp only[go_sem];push_cast;rfl,vq1 h0,by simp only[go_sem];rfl,hE3 _ ((hE.trans hE1).trans hE2) (ynl _),?_⟩;rw[zcO (by omega),List.map_append];exact ho3
  ·intro hge;simp only[ydF]at hge;repeat refine c_r ?_
   refine rg1 h3 ?_;repeat refine c_r ?_
   refine rt0 Tryz.ntmps83 ?_;rw[List.take_of_length_le (by omega)]at hown;exact⟨hown,hE⟩
def few(n:Nm):Bool:=decide (n.length<=140) && n.all fun l=>decide (l.length<=100)
theorem few_lb{n:Nm}(h:few n=true):LB n:=fun l hl=>by
 simp only[few,Bool.and_eq_true,List.all_eq_true,ydT]at h;have:=h.2 l hl;omega
theorem few_len{n:Nm}(h:few n=true):n.length<=140:=by
 simp only[few,Bool.and_eq_true,ydT]at h;exact h.1
theorem zgB(w:World)(a:Value)(xs:Nm)(ha:Row w a (xs.map vs)):
  Fn Tryz.prog 48 #[a] w (fun v w'=>v= .bool (few xs)/\Ext w w'):=by
 obtain⟨a,ca,rfl,hca,hla⟩:=ha;simp only[ylm]at*;refine enter Tryz.func48 Tryz.ntmps48 rfl rfl ?_;refine gz0 ?_;refine wc0 ?_ ?_
 ·intro h;simp only[ydT]at h;refine gz0 ?_;refine rt0 Tryz.ntmps48 ?_;exact⟨by rw[few,yef (by omega)];rfl,Keep.refl _ _⟩
 ·intro h;simp only[ydF]at h;refine gz0 ?_;refine zao (fun m σ ds A=>ds=[]/\∃i:Nat,i+m=xs.length/\σ 3=vi i/\σ 0= .slice a xs.length ca/\Ext w A/\∀l∈xs.take i,l.length<=100) xs.length ?_ ?_
  ·refine⟨rfl,0,by omega,?_,?_,Keep.refl _ _,by simp⟩<;>simp only[go_sem]<;>rfl
  ·rintro m σ ds A ⟨rfl,i,him,h3,h0,hE,hall⟩;refine gz (az2 h3 h0) ?_;refine wc0 ?_ ?_
   ·intro hlt;simp only[ydT]at hlt;have hsa:a.isSome=true:=zag (hla i (by omega));have hla':=fun j h=>zaa hE (hla j h);refine rqz ?_;intro gd K hgd hK;simp (disch:=first|omega|assumption|rfl) only[go_sem,h3,h0,hla',List.getElem_map];refine hK _ _ ?_;clear hK hgd;clear K gd;refine wcz ?_ ?_
    ·intro hb;simp only[ydT]at hb;refine gz0 ?_;refine rt0 Tryz.ntmps48 ?_;refine⟨?_,hE⟩;have:few xs=false:=by
      rw[←Bool.not_eq_true];intro hf;simp only[few,Bool.and_eq_true,List.all_eq_true,ydT]at hf;have:=hf.2 (xs[i]'(by omega)) (List.getElem_mem _);omega
     rw[this]
    ·intro hb;simp only[ydF]at hb;refine gz h3 ?_;refine⟨m - 1,by omega,rfl,i+1,by omega,by simp only[go_sem];push_cast;rfl,vq1 h0,hE,fun l hl=>?_⟩;rw[zal (by omega)]at hl;rcases List.mem_append.1 hl with hl|hl
     ·exact hall l hl
     ·rw[List.mem_singleton.1 hl];omega
   ·intro hge;simp only[ydF]at hge;refine gz0 ?_;refine rt0 Tryz.ntmps48 ?_;refine⟨?_,hE⟩;rw[List.take_of_length_le (by omega)]at hall;have:few xs=true:=by
     simp only[few,Bool.and_eq_true,List.all_eq_true,ydT];exact⟨by omega,hall⟩
    rw[this]
def NamesAt(w:World)(v:Value)(ns:List Nm):Prop:=∃vals,Row w v vals/\vals.length=ns.length/\∀i (h:i<vals.length) (h':i<ns.length),Row w vals[i] (ns[i].map vs)
theorem zjA:∀a b:Nm,cmpR b a= - cmpR a b
 | [],[]=>rfl
 | [],_::_=>rfl
 |_::_,[]=>rfl
 |a::l,b::m=>by
  simp only[cmpR];rw[ze9 a b];by_cases h:cmpL a b=0
  ·simp[h,zjA l m]
  ·have:¬ -cmpL a b=0:=by omega
   simp[h,this]
theorem zhS:∀{a b:Nm},cmpR a b=0->a=b
 | [],[],_=>rfl
 | [],_::_,h=>by cases h
 |_::_,[],h=>by cases h
 |a::l,b::m,h=>by
  simp only[cmpR]at h
  split at h
  ·rename_i h';rw[zcP h',zhS h]
  ·rename_i h';exact absurd h h'
theorem zgq:∀{a b c:Nm},cmpR a b<0->cmpR b c<0->cmpR a c<0
 | [],[],_,h,_=>by simp[cmpR]at h
 | [],_::_,[],_,h=>by simp[cmpR]at h
 | [],_::_,_::_,_,_=>by simp[cmpR]
 |_::_,[],_,h,_=>by simp[cmpR]at h
 |_::_,_::_,[],_,h=>by simp[cmpR]at h
 |a::l,b::m,c::n,h1,h2=>by
  simp only[cmpR]at*;by_cases e1:cmpL a b=0
  ·rw[if_pos e1]at h1;have:=zcP e1;subst this;by_cases e2:cmpL a c=0
   ·rw[if_pos e2]at h2 ⊢;exact zgq h1 h2
   ·rw[if_neg e2]at h2 ⊢;exact h2
  ·rw[if_neg e1]at h1;have h2':cmpL b c<=0:=by
    by_cases e2:cmpL b c=0
    ·omega
    ·rw[if_neg e2]at h2;omega
   have:=zeh h1 h2';rw[if_neg (by omega)];exact this
theorem zjB(a b:Nm):cmpN b a= - cmpN a b:=zjA _ _
theorem zhU{a b:Nm}(h:cmpN a b=0):a=b:=by
 have:=zhS h;simpa using congrArg List.reverse this
theorem zki{a b c:Nm}(h1:cmpN a b<0)(h2:cmpN b c<0):cmpN a c<0:=zgq h1 h2
theorem NamesAt.ext{w x:World}{v:Value}{L:List Nm}(h:NamesAt w v L)(hE:Ext w x):NamesAt x v L:=by
 obtain⟨vals,h1,h2,h3⟩:=h;exact⟨vals,h1.ext hE,h2,fun i a b=>(h3 i a b).ext hE⟩
theorem Or_ok(w:World)(a:Value)(l:List Int)(ha:Row w a (l.map vi))(hl:l.length<=1000000000000):Fn Tryz.prog 132 #[a] w (fun v w'=>v=vi (orI l)/\w'=w):=by
 obtain⟨a,ca,rfl,hca,hla⟩:=ha;simp only[ylm]at*;refine enter Tryz.func132 Tryz.ntmps132 rfl rfl ?_;refine gz0 ?_;refine zao (fun m σ ds v=>ds=[]/\v=w/\∃i:Nat,i+m=l.length/\σ 8=vi i/\σ 7=vi l.length/\σ 6= .slice a l.length ca/\σ 3=vi 0/\orI l=orI (l.drop i)) l.length ?_ ?_
 ·refine⟨rfl,rfl,0,by omega,?_,?_,?_,?_,by simp⟩
  ·simp only[go_sem];rfl
  ·simp only[go_sem]
  ·simp only[go_sem]
  ·simp only[go_sem]
 ·rintro m σ ds v ⟨rfl,hv,i,him,h8,h7,h6,h3,hinv⟩;rw[hv];refine gz (az2 h8 h7) ?_;refine wc0 ?_ ?_
  ·intro hlt;simp only[ydT]at hlt;have hsa:a.isSome=true:=zag (hla i (by omega));have hd:=orI_drop (l:=l) (i:=i) (by omega);refine rqz ?_;intro gd K hgd hK;simp (disch:=first|omega|assumption|rfl) only[go_sem,h8,h6,hla,List.getElem_map];refine hK _ _ ?_;clear hK hgd;clear K gd;refine gz h3 ?_;refine wc0 ?_ ?_
   ·intro h;simp only[Bool.not_eq_true',ydF]at h;refine gz0 ?_;refine rt0 Tryz.ntmps132 ?_;exact⟨by rw[hinv,hd,if_neg h],rfl⟩
   ·intro h;simp only[Bool.not_eq_false',ydT]at h;refine gz h8 ?_;exact⟨m - 1,by omega,rfl,rfl,i+1,by omega,by simp only[go_sem];push_cast;rfl,vq1 h7,vq1 h6,vq1 h3,by rw[hinv,hd,if_pos h]⟩
  ·intro hge;simp only[ydF]at hge;repeat (first|refine c_r ?_| (refine zb7 (by rfl) ?_;intro gd K hgd hK;simp (disch:=first|omega|assumption|rfl) only[go_sem,h3];refine hK _ _ ?_;clear hK hgd;clear K gd))
   refine rt0 Tryz.ntmps132 ?_;refine⟨?_,rfl⟩;rw[hinv,List.drop_of_length_le (by omega)];rfl
theorem zl7(a b:Nm)(h:a=[]\/b=[]):cmpR a b=cmpI a.length b.length:=by
 rw[zjz a b h];unfold sgn cmpI;by_cases h1:(a.length:Int)<b.length
 ·rw[if_pos (by omega),if_pos h1]
 ·by_cases h2:(b.length:Int)<a.length
  ·rw[if_neg (by omega),if_pos (by omega),if_neg h1,if_pos h2]
  ·rw[if_neg (by omega),if_neg (by omega),if_neg h1,if_neg h2]
theorem zf4(w:World)(a b:Value)(xs ys:Nm)(ha:Row w a (xs.map vs))(hb:Row w b (ys.map vs))(hx:LB xs)(hy:LB ys)(hxl:xs.length<=9000000000000000000)(hyl:ys.length<=9000000000000000000):
  Fn Tryz.prog 133 #[a,b] w (fun v w'=>v=vi (cmpN (zaq xs) (zaq ys))/\Ext w w'):=by
 obtain⟨a,ca,rfl,hca,hla⟩:=ha;obtain⟨b,cb,rfl,hcb,hlb⟩:=hb;simp only[ylm]at*;obtain⟨k,hk⟩:∃k,min xs.length ys.length=k:=⟨_,rfl⟩;have hmin:min (xs.length:Int) (ys.length:Int)=(k:Int):=by omega
 refine enter Tryz.func133 Tryz.ntmps133 rfl rfl ?_;repeat refine c_r ?_
 refine rg0 ?_;repeat refine c_r ?_
 refine rq ?_;intro gd K hgd hK;try simp only[go_sem]
 refine zlh (k:= .i64) (a:=xs.length) (b:=ys.length) vq0 vq0 ?_;rw[hmin];try simp only[go_sem]
 refine hK _ _ ?_;clear hK hgd;clear K;try clear gd
 repeat refine c_r ?_
 refine zao (fun m σ ds v=>ds=[]/\∃i:Nat,i+m=k/\σ 12=vi i/\σ 11=vi k/\σ 0= .slice a xs.length ca/\σ 1= .slice b ys.length cb/\Ext w v/\cmpN (zaq xs) (zaq ys)=cmpR ((zaq xs).reverse.drop i) ((zaq ys).reverse.drop i)) k ?_ ?_
 ·refine⟨rfl,0,by omega,?_,?_,?_,?_,Keep.refl _ _,by simp[cmpN]⟩
  ·simp only[go_sem];rfl
  ·simp only[go_sem]
  ·simp only[go_sem]
  ·simp only[go_sem]
 ·rintro m σ ds v ⟨rfl,i,him,h12,h11,h0,h1,hE,hinv⟩;repeat refine c_r ?_
  refine rq ?_;intro gd K hgd hK;simp (disch:=first|omega|assumption|rfl) only[go_sem,h12,h11];refine hK _ _ ?_;clear hK hgd;clear K gd;repeat refine c_r ?_
  refine wc0 ?_ ?_
  ·intro hlt;simp only[ydT]at hlt;have hsa:a.isSome=true:=zag (hla (xs.length - 1 - i) (by omega));have hsb:b.isSome=true:=zag (hlb (ys.length - 1 - i) (by omega));have e1:((xs.length:Int) - 1 - i).toNat=xs.length - 1 - i:=by omega
   have e2:((ys.length:Int) - 1 - i).toNat=ys.length - 1 - i:=by omega
   repeat refine c_r ?_
   refine rg1 h12 ?_;repeat refine c_r ?_
   refine zaJ (fun _=>false) [(0,true),(1,true),(2,true),(3,true),(4,true),(5,true),(6,true),(7,true),(8,true),(9,true),(10,true),(11,true),(12,true),(13,true),(14,true),(15,true),(16,false),(17,true)] NoS mixed (by kernel_rfl) ?_;intro gd K x hgd hx hxe hK;clear hxe;have hla':=fun j h=>zaa (hE.trans ‹Keep NoS v x›) (hla j h);have hlb':=fun j h=>zaa (hE.trans ‹Keep NoS v x›) (hlb j h);simp (disch:=first|omega|assumption|rfl) only[go_sem,h12,h0,h1,e1,e2,hla',hlb',List.getElem_map];refine Fn.mono (ziY _ _ _ (LB.get ‹LB xs› _) (LB.get ‹LB ys› _)) ?_;rintro _ x1 ⟨rfl,hx1⟩;refine⟨.inr hx1,?_⟩;simp (disch:=first|omega|assumption|rfl) only[go_sem];refine hK _ _ ?_;clear hK hgd;clear K;try clear gd
   have hst:=zhT (a:=(zaq xs).reverse) (b:=(zaq ys).reverse) (i:=i) (by simp[zbb];omega) (by simp[zbb];omega);have g1:(zaq xs).reverse[i]'(by simp[zbb];omega)=zbf (xs[xs.length - 1 - i]'(by omega)):=by
    rw[List.getElem_reverse];simp[zaq]
   have g2:(zaq ys).reverse[i]'(by simp[zbb];omega)=zbf (ys[ys.length - 1 - i]'(by omega)):=by
    rw[List.getElem_reverse];simp[zaq]
   rw[g1,g2]at hst;repeat refine c_r ?_
   refine rg0 ?_;repeat refine c_r ?_
   refine wc0 ?_ ?_
   ·intro hne;simp only[Bool.not_eq_true',ydF]at hne;repeat (first|refine c_r ?_|refine rg0 ?_)
    refine rt0 Tryz.ntmps133 ?_;refine⟨by rw[hinv,hst,if_neg hne],(hE.trans ‹Keep NoS v x›).trans hx1⟩
   ·intro heq;simp only[Bool.not_eq_false',ydT]at heq;repeat refine c_r ?_
    refine rg1 h12 ?_;repeat refine c_r ?_
    exact⟨m - 1,by omega,rfl,i+1,by omega,by simp only[go_sem];push_cast;rfl,by simp only[go_sem,h11],vq1 h0,vq1 h1,(hE.trans ‹Keep NoS v x›).trans hx1,by rw[hinv,hst,if_pos heq]⟩
  ·intro hge;simp only[ydF]at hge;repeat refine c_r ?_
   refine rq ?_;intro gd K hgd hK;try simp (disch:=first|omega|assumption|rfl) only[go_sem,h0,h1]
   refine Fn.mono (N_int.Compare_ok _ _ _) ?_;rintro _ w2 ⟨rfl,rfl⟩;try simp only[go_sem]
   refine hK _ _ ?_;clear hK hgd;clear K;try clear gd
   repeat refine c_r ?_
   refine rt0 Tryz.ntmps133 ?_;refine⟨?_,hE⟩;have l1:((zaq xs).reverse.drop i).length=xs.length - i:=by simp[zbb]
   have l2:((zaq ys).reverse.drop i).length=ys.length - i:=by simp[zbb]
   rw[hinv,zl7 _ _ (by
    rcases Nat.lt_or_ge i xs.length with h|h
    ·exact .inr (List.length_eq_zero_iff.1 (by omega))
    ·exact .inl (List.length_eq_zero_iff.1 (by omega))),l1,l2]
   unfold cmpI;by_cases h1':(xs.length:Int)<ys.length
   ·rw[if_pos h1',if_pos (by omega)]
   ·by_cases h2':(ys.length:Int)<xs.length
    ·rw[if_neg h1',if_pos h2',if_neg (by omega),if_pos (by omega)]
    ·rw[if_neg h1',if_neg h2',if_neg (by omega),if_neg (by omega)]
end Go.Proofs.YtahbdamijngmmaaGreat
namespace Go.Proofs.YtahbdamijngmmaaGreat.C_cn
open Go Go.Proofs.YtahbdamijngmmaaGreat
set_option maxRecDepth 10000
def RowR{α:Type}(Rl:World->α->Value->Prop)(w:World)(v:Value)(xs:List α):Prop:=∃us,Row w v us/\us.length=xs.length/\∀i (h:i<us.length) (h':i<xs.length),Rl w xs[i] us[i]
theorem CompareFunc_ok{α:Type}{Rl:World->α->Value->Prop}(hR:∀w x a v,Ext w x->Rl w a v->Rl x a v){cf:α->α->Int}{U:α->Prop}{g:FuncId}(hcal:zar Tryz.prog g=true){w:World}
  (hcall:∀A x y u v,Ext w A->U x->U y->Rl A x u->Rl A y v->Fn Tryz.prog g #[u,v] A (fun r B=>r=vi (cf x y)/\Ext A B)) {a b:Value} {xs ys:List α} (ha:RowR Rl w a xs) (hb:RowR Rl w b ys) (hUx:∀x∈xs,U x) (hUy:∀y∈ys,U y) (hxl:xs.length<=1000000000000000) (hyl:ys.length<=1000000000000000):
  Fn Tryz.prog 301 #[a,b,.func (.func g) #[] #[]] w (fun v w'=>v=vi (lexC cf xs ys)/\Ext w w'):=by
 obtain⟨us,⟨a,ca,rfl,hca,hla⟩,hul,hu⟩:=ha;obtain⟨vs',⟨b,cb,rfl,hcb,hlb⟩,hvl,hv⟩:=hb;refine enter Tryz.func301 Tryz.ntmps301 rfl rfl ?_;refine gz0 ?_;refine zao (fun m σ ds v=>ds=[]/\∃i:Nat,i+m=us.length/\i<=vs'.length/\σ 13=vi i/\σ 12=vi us.length/\σ 11= .slice a us.length ca/\σ 0= .slice a us.length ca/\σ 1= .slice b vs'.length cb/\σ 2= .func (.func g) #[] #[]/\Ext w v/\lexC cf xs ys=lexC cf (xs.drop i) (ys.drop i)) us.length ?_ ?_
 ·refine⟨rfl,0,by omega,by omega,?_,?_,?_,?_,?_,?_,Keep.refl _ _,by simp⟩
  ·simp only[go_sem];rfl
  ·simp only[go_sem]
  ·simp only[go_sem]
  ·simp only[go_sem]
  ·simp only[go_sem]
  ·simp only[go_sem]
 ·rintro m σ ds v ⟨rfl,i,him,hiv,h13,h12,h11,h0,h1,h2,hE,hinv⟩;refine gz (az2 h13 h12) ?_;refine wc0 ?_ ?_
  ·intro hlt;simp only[ydT]at hlt;have hsa:a.isSome=true:=zag (hla i (by omega));have hla':=fun j h=>zaa hE (hla j h);have hlb':=fun j h=>zaa hE (hlb j h);refine rqz ?_;intro gd K hgd hK;simp (disch:=first|omega|assumption|rfl) only[go_sem,h13,h11,hla'];refine hK _ _ ?_;clear hK hgd;clear K gd;refine gz h1 ?_;refine wc0 ?_ ?_
   ·intro hge;simp only[ydT]at hge;refine gz0 ?_;refine rt0 Tryz.ntmps301 ?_;refine⟨?_,hE⟩;have e:ys.drop i=[]:=List.drop_of_length_le (by omega);rw[hinv,zcX (.inr e),e];have l1:(xs.drop i).length=xs.length - i:=by simp
    unfold cmpI;rw[l1,List.length_nil,if_neg (by omega),if_pos (by omega)]
   ·intro hlt2;simp only[ydF]at hlt2;have hsb:b.isSome=true:=zag (hlb i (by omega));have hst:=zcM (cf:=cf) (a:=xs) (b:=ys) (i:=i) (by omega) (by omega);refine gz (az2 h1 hlb') ?_;refine rq ?_;intro gd K hgd hK;refine sgz h2 ?_;refine zcC hcal (Fn.mono (hcall v xs[i] ys[i] _ _ hE (hUx _ (List.getElem_mem _)) (hUy _ (List.getElem_mem _)) (hR _ _ _ _ hE (hu i (by omega) (by omega))) (hR _ _ _ _ hE (hv i (by omega) (by omega)))) ?_);rintro _ w1 ⟨rfl,hE1⟩;try simp only[go_sem]
    apply hK;refine gz0 ?_;refine wc0 ?_ ?_
    ·intro hne;simp only[Bool.not_eq_true',ydF]at hne;refine gz0 ?_;refine rt0 Tryz.ntmps301 ?_;exact⟨by rw[hinv,hst,if_neg hne],hE.trans hE1⟩
    ·intro heq;simp only[Bool.not_eq_false',ydT]at heq;refine gz h13 ?_;exact⟨m - 1,by omega,rfl,i+1,by omega,by omega,by simp only[go_sem];push_cast;rfl,vq1 h12,by simp only[go_sem,h11],vq1 h0,vq1 h1,vq1 h2,hE.trans hE1,by rw[hinv,hst,if_pos heq]⟩
  ·intro hge;simp only[ydF]at hge;have e:xs.drop i=[]:=List.drop_of_length_le (by omega);have l2:(ys.drop i).length=ys.length - i:=by simp
   have hval:lexC cf xs ys=cmpI 0 (ys.length - i:Nat):=by rw[hinv,zcX (.inl e),e,l2];rfl
   refine gz (az2 h0 h1) ?_;refine wc0 ?_ ?_
   ·intro h;simp only[ydT]at h;refine gz0 ?_;refine rt0 Tryz.ntmps301 ?_;exact⟨by rw[hval,cmpI,if_pos (by omega)],hE⟩
   ·intro h;simp only[ydF]at h;refine gz0 ?_;refine rt0 Tryz.ntmps301 ?_;exact⟨by rw[hval,cmpI,if_neg (by omega),if_neg (by omega)],hE⟩
end Go.Proofs.YtahbdamijngmmaaGreat.C_cn
namespace Go.Proofs.YtahbdamijngmmaaGreat.C_cu
open Go Go.Proofs.YtahbdamijngmmaaGreat
set_option maxRecDepth 10000
def RowR{α:Type}(Rl:World->α->Value->Prop)(w:World)(v:Value)(xs:List α):Prop:=∃us,Row w v us/\us.length=xs.length/\∀i (h:i<us.length) (h':i<xs.length),Rl w xs[i] us[i]
theorem CompareFunc_ok{α:Type}{Rl:World->α->Value->Prop}(hR:∀w x a v,Ext w x->Rl w a v->Rl x a v){cf:α->α->Int}{U:α->Prop}{g:FuncId}(hcal:zar Tryz.prog g=true){w:World}
  (hcall:∀A x y u v,Ext w A->U x->U y->Rl A x u->Rl A y v->Fn Tryz.prog g #[u,v] A (fun r B=>r=vi (cf x y)/\Ext A B)) {a b:Value} {xs ys:List α} (ha:RowR Rl w a xs) (hb:RowR Rl w b ys) (hUx:∀x∈xs,U x) (hUy:∀y∈ys,U y) (hxl:xs.length<=1000000000000000) (hyl:ys.length<=1000000000000000):
  Fn Tryz.prog 302 #[a,b,.func (.func g) #[] #[]] w (fun v w'=>v=vi (lexC cf xs ys)/\Ext w w'):=by
 obtain⟨us,⟨a,ca,rfl,hca,hla⟩,hul,hu⟩:=ha;obtain⟨vs',⟨b,cb,rfl,hcb,hlb⟩,hvl,hv⟩:=hb;refine enter Tryz.func302 Tryz.ntmps302 rfl rfl ?_;refine gz0 ?_;refine zao (fun m σ ds v=>ds=[]/\∃i:Nat,i+m=us.length/\i<=vs'.length/\σ 13=vi i/\σ 12=vi us.length/\σ 11= .slice a us.length ca/\σ 0= .slice a us.length ca/\σ 1= .slice b vs'.length cb/\σ 2= .func (.func g) #[] #[]/\Ext w v/\lexC cf xs ys=lexC cf (xs.drop i) (ys.drop i)) us.length ?_ ?_
 ·refine⟨rfl,0,by omega,by omega,?_,?_,?_,?_,?_,?_,Keep.refl _ _,by simp⟩
  ·simp only[go_sem];rfl
  ·simp only[go_sem]
  ·simp only[go_sem]
  ·simp only[go_sem]
  ·simp only[go_sem]
  ·simp only[go_sem]
 ·rintro m σ ds v ⟨rfl,i,him,hiv,h13,h12,h11,h0,h1,h2,hE,hinv⟩;refine gz (az2 h13 h12) ?_;refine wc0 ?_ ?_
  ·intro hlt;simp only[ydT]at hlt;have hsa:a.isSome=true:=zag (hla i (by omega));have hla':=fun j h=>zaa hE (hla j h);have hlb':=fun j h=>zaa hE (hlb j h);refine rqz ?_;intro gd K hgd hK;simp (disch:=first|omega|assumption|rfl) only[go_sem,h13,h11,hla'];refine hK _ _ ?_;clear hK hgd;clear K gd;refine gz h1 ?_;refine wc0 ?_ ?_
   ·intro hge;simp only[ydT]at hge;refine gz0 ?_;refine rt0 Tryz.ntmps302 ?_;refine⟨?_,hE⟩;have e:ys.drop i=[]:=List.drop_of_length_le (by omega);rw[hinv,zcX (.inr e),e];have l1:(xs.drop i).length=xs.length - i:=by simp
    unfold cmpI;rw[l1,List.length_nil,if_neg (by omega),if_pos (by omega)]
   ·intro hlt2;simp only[ydF]at hlt2;have hsb:b.isSome=true:=zag (hlb i (by omega));have hst:=zcM (cf:=cf) (a:=xs) (b:=ys) (i:=i) (by omega) (by omega);refine gz (az2 h1 hlb') ?_;refine rq ?_;intro gd K hgd hK;refine sgz h2 ?_;refine zcC hcal (Fn.mono (hcall v xs[i] ys[i] _ _ hE (hUx _ (List.getElem_mem _)) (hUy _ (List.getElem_mem _)) (hR _ _ _ _ hE (hu i (by omega) (by omega))) (hR _ _ _ _ hE (hv i (by omega) (by omega)))) ?_);rintro _ w1 ⟨rfl,hE1⟩;try simp only[go_sem]
    apply hK;refine gz0 ?_;refine wc0 ?_ ?_
    ·intro hne;simp only[Bool.not_eq_true',ydF]at hne;refine gz0 ?_;refine rt0 Tryz.ntmps302 ?_;exact⟨by rw[hinv,hst,if_neg hne],hE.trans hE1⟩
    ·intro heq;simp only[Bool.not_eq_false',ydT]at heq;refine gz h13 ?_;exact⟨m - 1,by omega,rfl,i+1,by omega,by omega,by simp only[go_sem];push_cast;rfl,vq1 h12,by simp only[go_sem,h11],vq1 h0,vq1 h1,vq1 h2,hE.trans hE1,by rw[hinv,hst,if_pos heq]⟩
  ·intro hge;simp only[ydF]at hge;have e:xs.drop i=[]:=List.drop_of_length_le (by omega);have l2:(ys.drop i).length=ys.length - i:=by simp
   have hval:lexC cf xs ys=cmpI 0 (ys.length - i:Nat):=by rw[hinv,zcX (.inl e),e,l2];rfl
   refine gz (az2 h0 h1) ?_;refine wc0 ?_ ?_
   ·intro h;simp only[ydT]at h;refine gz0 ?_;refine rt0 Tryz.ntmps302 ?_;exact⟨by rw[hval,cmpI,if_pos (by omega)],hE⟩
   ·intro h;simp only[ydF]at h;refine gz0 ?_;refine rt0 Tryz.ntmps302 ?_;exact⟨by rw[hval,cmpI,if_neg (by omega),if_neg (by omega)],hE⟩
end Go.Proofs.YtahbdamijngmmaaGreat.C_cu
namespace Go.Proofs.YtahbdamijngmmaaGreat.C_ct
open Go Go.Proofs.YtahbdamijngmmaaGreat
set_option maxRecDepth 10000
def RowR{α:Type}(Rl:World->α->Value->Prop)(w:World)(v:Value)(xs:List α):Prop:=∃us,Row w v us/\us.length=xs.length/\∀i (h:i<us.length) (h':i<xs.length),Rl w xs[i] us[i]
theorem CompareFunc_ok{α:Type}{Rl:World->α->Value->Prop}(hR:∀w x a v,Ext w x->Rl w a v->Rl x a v){cf:α->α->Int}{U:α->Prop}{g:FuncId}(hcal:zar Tryz.prog g=true){w:World}
  (hcall:∀A x y u v,Ext w A->U x->U y->Rl A x u->Rl A y v->Fn Tryz.prog g #[u,v] A (fun r B=>r=vi (cf x y)/\Ext A B)) {a b:Value} {xs ys:List α} (ha:RowR Rl w a xs) (hb:RowR Rl w b ys) (hUx:∀x∈xs,U x) (hUy:∀y∈ys,U y) (hxl:xs.length<=1000000000000000) (hyl:ys.length<=1000000000000000):
  Fn Tryz.prog 304 #[a,b,.func (.func g) #[] #[]] w (fun v w'=>v=vi (lexC cf xs ys)/\Ext w w'):=by
 obtain⟨us,⟨a,ca,rfl,hca,hla⟩,hul,hu⟩:=ha;obtain⟨vs',⟨b,cb,rfl,hcb,hlb⟩,hvl,hv⟩:=hb;refine enter Tryz.func304 Tryz.ntmps304 rfl rfl ?_;refine gz0 ?_;refine zao (fun m σ ds v=>ds=[]/\∃i:Nat,i+m=us.length/\i<=vs'.length/\σ 13=vi i/\σ 12=vi us.length/\σ 11= .slice a us.length ca/\σ 0= .slice a us.length ca/\σ 1= .slice b vs'.length cb/\σ 2= .func (.func g) #[] #[]/\Ext w v/\lexC cf xs ys=lexC cf (xs.drop i) (ys.drop i)) us.length ?_ ?_
 ·refine⟨rfl,0,by omega,by omega,?_,?_,?_,?_,?_,?_,Keep.refl _ _,by simp⟩
  ·simp only[go_sem];rfl
  ·simp only[go_sem]
  ·simp only[go_sem]
  ·simp only[go_sem]
  ·simp only[go_sem]
  ·simp only[go_sem]
 ·rintro m σ ds v ⟨rfl,i,him,hiv,h13,h12,h11,h0,h1,h2,hE,hinv⟩;refine gz (az2 h13 h12) ?_;refine wc0 ?_ ?_
  ·intro hlt;simp only[ydT]at hlt;have hsa:a.isSome=true:=zag (hla i (by omega));have hla':=fun j h=>zaa hE (hla j h);have hlb':=fun j h=>zaa hE (hlb j h);refine rqz ?_;intro gd K hgd hK;simp (disch:=first|omega|assumption|rfl) only[go_sem,h13,h11,hla'];refine hK _ _ ?_;clear hK hgd;clear K gd;refine gz h1 ?_;refine wc0 ?_ ?_
   ·intro hge;simp only[ydT]at hge;refine gz0 ?_;refine rt0 Tryz.ntmps304 ?_;refine⟨?_,hE⟩;have e:ys.drop i=[]:=List.drop_of_length_le (by omega);rw[hinv,zcX (.inr e),e];have l1:(xs.drop i).length=xs.length - i:=by simp
    unfold cmpI;rw[l1,List.length_nil,if_neg (by omega),if_pos (by omega)]
   ·intro hlt2;simp only[ydF]at hlt2;have hsb:b.isSome=true:=zag (hlb i (by omega));have hst:=zcM (cf:=cf) (a:=xs) (b:=ys) (i:=i) (by omega) (by omega);refine gz (az2 h1 hlb') ?_;refine rq ?_;intro gd K hgd hK;refine sgz h2 ?_;refine zcC hcal (Fn.mono (hcall v xs[i] ys[i] _ _ hE (hUx _ (List.getElem_mem _)) (hUy _ (List.getElem_mem _)) (hR _ _ _ _ hE (hu i (by omega) (by omega))) (hR _ _ _ _ hE (hv i (by omega) (by omega)))) ?_);rintro _ w1 ⟨rfl,hE1⟩;try simp only[go_sem]
    apply hK;refine gz0 ?_;refine wc0 ?_ ?_
    ·intro hne;simp only[Bool.not_eq_true',ydF]at hne;refine gz0 ?_;refine rt0 Tryz.ntmps304 ?_;exact⟨by rw[hinv,hst,if_neg hne],hE.trans hE1⟩
    ·intro heq;simp only[Bool.not_eq_false',ydT]at heq;refine gz h13 ?_;exact⟨m - 1,by omega,rfl,i+1,by omega,by omega,by simp only[go_sem];push_cast;rfl,vq1 h12,by simp only[go_sem,h11],vq1 h0,vq1 h1,vq1 h2,hE.trans hE1,by rw[hinv,hst,if_pos heq]⟩
  ·intro hge;simp only[ydF]at hge;have e:xs.drop i=[]:=List.drop_of_length_le (by omega);have l2:(ys.drop i).length=ys.length - i:=by simp
   have hval:lexC cf xs ys=cmpI 0 (ys.length - i:Nat):=by rw[hinv,zcX (.inl e),e,l2];rfl
   refine gz (az2 h0 h1) ?_;refine wc0 ?_ ?_
   ·intro h;simp only[ydT]at h;refine gz0 ?_;refine rt0 Tryz.ntmps304 ?_;exact⟨by rw[hval,cmpI,if_pos (by omega)],hE⟩
   ·intro h;simp only[ydF]at h;refine gz0 ?_;refine rt0 Tryz.ntmps304 ?_;exact⟨by rw[hval,cmpI,if_neg (by omega),if_neg (by omega)],hE⟩
end Go.Proofs.YtahbdamijngmmaaGreat.C_ct
namespace Go.Proofs.YtahbdamijngmmaaGreat.N_uint32
open Go Go.Proofs.YtahbdamijngmmaaGreat
set_option maxRecDepth 10000
theorem isNaN_ok(w:World)(a:Int):Fn Tryz.prog 303 #[.int .u32 a] w (fun v w'=>v= .bool false/\w'=w):=by
 refine enter Tryz.func303 Tryz.ntmps303 rfl rfl ?_;repeat (first|refine c_r ?_| (refine zb7 (by rfl) ?_;intro gd K hgd hK;simp (disch:=first|omega|assumption|rfl) only[go_sem,decide_true];refine hK _ _ ?_;clear hK hgd;clear K gd))
 refine rt0 Tryz.ntmps303 ?_;exact⟨rfl,rfl⟩
theorem Compare_ok(w:World)(a b:Int):Fn Tryz.prog 289 #[.int .u32 a,.int .u32 b] w (fun v w'=>v=vi (cmpI a b)/\w'=w):=by
 refine enter Tryz.func289 Tryz.ntmps289 rfl rfl ?_;refine gz0 ?_;refine rq ?_;intro gd K hgd hK;try simp only[go_sem]
 refine Fn.mono (isNaN_ok _ _) ?_;rintro _ _ ⟨rfl,rfl⟩;try simp only[go_sem]
 apply hK;refine rqz ?_;intro gd K hgd hK;try simp only[go_sem]
 refine Fn.mono (isNaN_ok _ _) ?_;rintro _ _ ⟨rfl,rfl⟩;try simp only[go_sem]
 apply hK;refine gz0 ?_;refine wc0 ?_ ?_
 ·intro h;cases h
 intro _;refine gz0 ?_;refine wc0 ?_ ?_
 ·intro h;cases h
 intro _;refine gz0 ?_;refine wc0 ?_ ?_
 ·intro h;simp only[ydT]at h;refine gz0 ?_;refine rt0 Tryz.ntmps289 ?_;exact⟨by rw[cmpI,if_pos h],rfl⟩
 intro h;simp only[ydF]at h;refine gz0 ?_;refine wc0 ?_ ?_
 ·intro h2;simp only[ydT]at h2;refine gz0 ?_;refine rt0 Tryz.ntmps289 ?_;exact⟨by rw[cmpI,if_neg h,if_pos h2],rfl⟩
 intro h2;simp only[ydF]at h2;refine gz0 ?_;refine rt0 Tryz.ntmps289 ?_;exact⟨by rw[cmpI,if_neg h,if_neg h2],rfl⟩
end Go.Proofs.YtahbdamijngmmaaGreat.N_uint32
namespace Go.Proofs.YtahbdamijngmmaaGreat
open Go
set_option maxRecDepth 10000
theorem zed{P:Program}{w:World}:∀(l:List UInt8) (a:Addr) (acc:ByteArray),(∀j (h:j<l.length),w.cell? (a.add j)=some (zaf l[j]))->(Extern.Bytes.loadBytes a l.length acc).run P w= .ok ⟨acc.data++l.toArray⟩ w
 | [],a,acc,_=>by simp[Extern.Bytes.loadBytes,Sem.run]
 |c::l,a,acc,h=>by
  have h0:=h 0 (by simp);have ha0:a.add 0=a:=by simp[Addr.add]
  rw[ha0]at h0;have ih:=zed (P:=P) l (a.add 1) (acc.push c) (fun j hj=>by
   have:=h (j+1) (by simp;omega);rw[zdo,Nat.add_comm 1 j];simpa using this)
  have e:(load a).run P w= .ok (zaf c) w:=by simp[load,Sem.run,h0]
  simp only[List.length_cons,Extern.Bytes.loadBytes,Sem.run_bind,e,Result.andThen_ok];show(Extern.Bytes.loadBytes (a.add 1) l.length (acc.push (((c.toNat:Nat):Int).toNat.toUInt8))).run P w=_;have e2:((c.toNat:Nat):Int).toNat.toUInt8=c:=by simp
  rw[e2,ih];simp[ByteArray.push]
theorem zfS{P:Program}{w:World}{v:Value}{l:List UInt8}(h:Row w v (l.map zaf)):(Extern.Bytes.bytesOf v).run P w= .ok ⟨l.toArray⟩ w:=by
 obtain⟨a,c,rfl,_,hl⟩:=h;simp only[ylm]at hl ⊢;cases a with
 |none=>
  cases l with
  |nil=>rfl
  |cons c l=>have:=hl 0 (by simp);simp[zad,adr]at this
 |some a=>
  have:=zed (P:=P) (w:=w) l a .empty (fun j hj=>by
   have:=hl j hj;simpa [zad,adr] using this)
  simpa [Extern.Bytes.bytesOf] using this
theorem zi2(w:World)(a b:Value)(xs ys:List UInt8)(ha:Row w a (xs.map zaf))(hb:Row w b (ys.map zaf)):Fn Tryz.prog 291 #[a,b] w (fun v w'=>v=vi (cmpL xs ys)/\w'=w):=by
 have h1:=zfS (P:=Tryz.prog) ha;have h2:=zfS (P:=Tryz.prog) hb;refine enter Tryz.func291 Tryz.ntmps291 rfl rfl ?_;refine gz0 ?_;refine rq ?_;intro gd K hgd hK;try simp only[go_sem]
 refine⟨vi (cmpL xs ys),w,?_,?_⟩
 ·rw[run_callFunc_extern Tryz.func305 (by kernel_rfl) (by kernel_rfl) (by kernel_rfl) (e:=Extern.BytealgCompare.compare) (by kernel_rfl)];have:(Extern.BytealgCompare.compare #[a,b]).run Tryz.prog w= .ok (vi (cmpL xs ys)) w:=by
   show(do pure (goInt (Extern.BytealgCompare.cmp (←Extern.Bytes.bytesOf a) (←Extern.Bytes.bytesOf b))):Sem Value).run Tryz.prog w=_;simp only[Sem.run_bind,h1,h2,Result.andThen_ok,Sem.run_pure];rw[Lib.cmp_eq]
   rfl
  rw[this];rfl
 try simp only[go_sem]
 refine en hK ?_;refine rt0 Tryz.ntmps291 ?_;exact⟨rfl,rfl⟩
abbrev v32(n:Int):Value:= .int .u32 n
structure DatL where
 ty:Int
 names:List Nm
 nums:List Int
 texts:List Lab
 raw:List UInt8
structure RecL where
 owner:Nm
 ttl:Int
 dat:DatL
def zce(a b:Nm):Int:=cmpN (zaq a) (zaq b)
def cmpD(a b:DatL):Int:=orI [cmpI a.ty b.ty,lexC zce a.names b.names,lexC cmpI a.nums b.nums,lexC cmpL a.texts b.texts,cmpL a.raw b.raw]
def zaB(a b:RecL):Int:=orI [zce a.owner b.owner,cmpI a.dat.ty b.dat.ty,cmpD a.dat b.dat]
structure DatAt(w:World)(cs:List Value)(d:DatL):Prop where
 ex:∃nm nu tx rw,cs=[vi d.ty,nm,nu,tx,rw]/\NamesAt w nm d.names/\Row w nu (d.nums.map v32)/\Row w tx (d.texts.map vs)/\Row w rw (d.raw.map zaf)
structure RecAt(w:World)(cs:List Value)(r:RecL):Prop where
 ex:∃ow ds,cs=ow::v32 r.ttl::ds/\Row w ow (r.owner.map vs)/\DatAt w ds r.dat
theorem DatAt.ext{w x:World}{cs:List Value}{d:DatL}(h:DatAt w cs d)(hE:Ext w x):DatAt x cs d:=by
 obtain⟨nm,nu,tx,rw,e,h1,h2,h3,h4⟩:=h.ex;exact⟨nm,nu,tx,rw,e,h1.ext hE,h2.ext hE,h3.ext hE,h4.ext hE⟩
theorem RecAt.ext{w x:World}{cs:List Value}{r:RecL}(h:RecAt w cs r)(hE:Ext w x):RecAt x cs r:=by
 obtain⟨ow,ds,e,h1,h2⟩:=h.ex;exact⟨ow,ds,e,h1.ext hE,h2.ext hE⟩
structure DatOk(d:DatL):Prop where
 names:∀n∈d.names,LB n/\n.length<=1000000000000000
 nn:d.names.length<=1000000000000000
 nu:d.nums.length<=1000000000000000
 nt:d.texts.length<=1000000000000000
 nv:∀n∈d.nums,0<=n/\n<=4294967295
 nr:d.raw.length<=1000000000000000
structure zbr(r:RecL):Prop where
 lb:LB r.owner
 len:r.owner.length<=1000000000000000
 dat:DatOk r.dat
theorem zab{w:World}{b i:Nat}{cur:Array Value}{e:TypeId}{fr:Nat×Nat}{v:Value}(h:w.heap[b]? =some (.cells cur e fr))(hv:cur[i]? =some v):zad w (some ⟨b,i,.none⟩)=some v:=by
 show w.cell? _=_;rw[zbN h];exact hv
theorem rowN_ok(w:World)(a b:Value)(xs ys:List Nm)(ha:NamesAt w a xs)(hb:NamesAt w b ys)(hx:∀n∈xs,LB n/\n.length<=1000000000000000)(hy:∀n∈ys,LB n/\n.length<=1000000000000000)(hxl:xs.length<=1000000000000000)(hyl:ys.length<=1000000000000000):
  Fn Tryz.prog 287 #[a,b,.func (.func 133) #[] #[]] w (fun v w'=>v=vi (lexC zce xs ys)/\Ext w w'):=by
 refine enter Tryz.func287 Tryz.ntmps287 rfl rfl ?_;refine gz0 ?_;refine rq ?_;intro gd K hgd hK;try simp only[go_sem]
 refine Fn.mono (C_cn.CompareFunc_ok (Rl:=fun w (n:Nm) v=>Row w v (n.map vs)) (U:=fun n=>LB n/\n.length<=1000000000000000) (cf:=zce) (fun w x a v hE h=>h.ext hE) rfl (fun A x y u v hE hx hy hu hv=>zf4 A u v x y hu hv hx.1 hy.1 (by have:=hx.2;omega) (by have:=hy.2;omega)) (xs:=xs) (ys:=ys) ha hb hx hy hxl hyl) ?_;rintro _ w1 ⟨rfl,hE⟩;try simp only[go_sem]
 refine en hK ?_;refine rt0 Tryz.ntmps287 ?_;exact⟨rfl,hE⟩
theorem zjJ{α:Type}{f:α->Value}{w:World}{v:Value}{xs:List α}(h:Row w v (xs.map f)):C_cu.RowR (fun _ a u=>u=f a) w v xs:=⟨_,h,by simp,fun i h1 h2=>by simp⟩
theorem rowU_ok(w:World)(a b:Value)(xs ys:List Int)(ha:Row w a (xs.map v32))(hb:Row w b (ys.map v32))(hxl:xs.length<=1000000000000000)(hyl:ys.length<=1000000000000000):
  Fn Tryz.prog 288 #[a,b,.func (.func 289) #[] #[]] w (fun v w'=>v=vi (lexC cmpI xs ys)/\Ext w w'):=by
 refine enter Tryz.func288 Tryz.ntmps288 rfl rfl ?_;refine gz0 ?_;refine rq ?_;intro gd K hgd hK;try simp only[go_sem]
 refine Fn.mono (C_cu.CompareFunc_ok (Rl:=fun _ (n:Int) v=>v=v32 n) (U:=fun _=>True) (cf:=cmpI) (fun w x a v hE h=>h) rfl (fun A x y u v hE hx hy hu hv=>by subst hu hv;exact Fn.mono (N_uint32.Compare_ok A x y) (fun _ _ ⟨h1,h2⟩=>⟨h1,h2▸Keep.refl _ _⟩)) (xs:=xs) (ys:=ys) (zjJ ha) (zjJ hb) (fun _ _=>trivial) (fun _ _=>trivial) hxl hyl) ?_;rintro _ w1 ⟨rfl,hE⟩;try simp only[go_sem]
 refine en hK ?_;refine rt0 Tryz.ntmps288 ?_;exact⟨rfl,hE⟩
theorem rowT_ok(w:World)(a b:Value)(xs ys:List Lab)(ha:Row w a (xs.map vs))(hb:Row w b (ys.map vs))(hxl:xs.length<=1000000000000000)(hyl:ys.length<=1000000000000000):
  Fn Tryz.prog 290 #[a,b,.func (.func 225) #[] #[]] w (fun v w'=>v=vi (lexC cmpL xs ys)/\Ext w w'):=by
 refine enter Tryz.func290 Tryz.ntmps290 rfl rfl ?_;refine gz0 ?_;refine rq ?_;intro gd K hgd hK;try simp only[go_sem]
 refine Fn.mono (C_ct.CompareFunc_ok (Rl:=fun _ (n:Lab) v=>v=vs n) (U:=fun _=>True) (cf:=cmpL) (fun w x a v hE h=>h) rfl (fun A x y u v hE hx hy hu hv=>by subst hu hv;exact Fn.mono (zfZ A x y) (fun _ _ ⟨h1,h2⟩=>⟨h1,h2▸Keep.refl _ _⟩)) (xs:=xs) (ys:=ys) ⟨_,ha,by simp,fun i h1 h2=>by simp⟩ ⟨_,hb,by simp,fun i h1 h2=>by simp⟩ (fun _ _=>trivial) (fun _ _=>trivial) hxl hyl) ?_;rintro _ w1 ⟨rfl,hE⟩;try simp only[go_sem]
 refine en hK ?_;refine rt0 Tryz.ntmps290 ?_;exact⟨rfl,hE⟩
theorem zi1(w:World)(ca cb:List Value)(a b:DatL)(ha:DatAt w ca a)(hb:DatAt w cb b)(hoa:DatOk a)(hob:DatOk b):
  Fn Tryz.prog 263 #[.agg ca.toArray,.agg cb.toArray] w (fun v w'=>v=vi (cmpD a b)/\Ext w w'):=by
 obtain⟨nm,nu,tx,rw',rfl,a1,a2,a3,a4⟩:=ha.ex;obtain⟨nm2,nu2,tx2,rw2,rfl,b1,b2,b3,b4⟩:=hb.ex;refine enter Tryz.func263 Tryz.ntmps263 rfl rfl ?_;refine gz0 ?_;have k1:=zau w (.cells #[vi a.ty,nm,nu,tx,rw'] 197 (0,0));have kE:=(Ext.alloc w (.cells #[vi a.ty,nm,nu,tx,rw'] 197 (0,0))).trans (Ext.alloc _ (.cells #[vi b.ty,nm2,nu2,tx2,rw2] 197 (0,0)));have k2:=zau (w.alloc (.cells #[vi a.ty,nm,nu,tx,rw'] 197 (0,0))) (.cells #[vi b.ty,nm2,nu2,tx2,rw2] 197 (0,0));have k1':=(RowKit.Below.heap_alloc _ (.cells #[vi b.ty,nm2,nu2,tx2,rw2] 197 (0,0)) _ (by simp)).trans k1;rw[zai]at k2 ⊢;clear k1;revert k1' kE k2;generalize (w.alloc (.cells #[vi a.ty,nm,nu,tx,rw'] 197 (0,0))).alloc (.cells #[vi b.ty,nm2,nu2,tx2,rw2] 197 (0,0))=w1;intro kE k2 k1;refine zaJ (fun _=>false) [(0,true),(1,true),(2,true),(3,true),(5,true),(6,true),(7,true),(8,true),(10,true),(11,true),(12,true),(13,true),(15,true),(16,true),(17,true),(18,true),(20,true),(21,true),(22,true),(23,true),(4,false),(9,false),(14,false),(19,false),(24,false),(25,false),(26,false),(27,true)] NoS mixed (by kernel_rfl) ?_;intro gd K x hgd hx hxe hK;clear hxe;have hE1:=kE.trans hx;have K1:=(hx.block _ (Array.getElem?_eq_some_iff.1 k1).1 (fun h=>h)).trans k1;have K2:=(hx.block _ (Array.getElem?_eq_some_iff.1 k2).1 (fun h=>h)).trans k2;have p0:zad x (some ⟨w.heap.size,0,.none⟩)=some (vi a.ty):=zab K1 rfl;have p1:zad x (some ⟨w.heap.size,1,.none⟩)=some (nm):=zab K1 rfl
 have p2:zad x (some ⟨w.heap.size,2,.none⟩)=some (nu):=zab K1 rfl;have p3:zad x (some ⟨w.heap.size,3,.none⟩)=some (tx):=zab K1 rfl;have p4:zad x (some ⟨w.heap.size,4,.none⟩)=some (rw'):=zab K1 rfl;have q0:zad x (some ⟨w.heap.size+1,0,.none⟩)=some (vi b.ty):=zab K2 rfl;have q1:zad x (some ⟨w.heap.size+1,1,.none⟩)=some (nm2):=zab K2 rfl;have q2:zad x (some ⟨w.heap.size+1,2,.none⟩)=some (nu2):=zab K2 rfl;have q3:zad x (some ⟨w.heap.size+1,3,.none⟩)=some (tx2):=zab K2 rfl;have q4:zad x (some ⟨w.heap.size+1,4,.none⟩)=some (rw2):=zab K2 rfl;refine sgz (az2 (az7 p0 p1 p2 p3 p4 q0 q1) (az3 q2 q3 q4)) ?_;refine Fn.mono (N_int.Compare_ok x _ _) ?_;rintro _ x0 ⟨rfl,h0⟩;replace h0:=h0.symm;subst h0;refine⟨.inr (Keep.refl _ _),?_⟩;refine sg0 ?_;refine Fn.mono (rowN_ok x _ _ _ _ (a1.ext hE1) (b1.ext hE1) hoa.names hob.names hoa.nn hob.nn) ?_;rintro _ x1 ⟨rfl,h1⟩;refine⟨.inr h1,?_⟩;refine sg0 ?_;refine Fn.mono (rowU_ok x1 _ _ _ _ (a2.ext (hE1.trans h1)) (b2.ext (hE1.trans h1)) hoa.nu hob.nu) ?_;rintro _ x2 ⟨rfl,h2⟩;refine⟨.inr h2,?_⟩;refine sg0 ?_;refine Fn.mono (rowT_ok x2 _ _ _ _ (a3.ext ((hE1.trans h1).trans h2)) (b3.ext ((hE1.trans h1).trans h2)) hoa.nt hob.nt) ?_;rintro _ x3 ⟨rfl,h3⟩;refine⟨.inr h3,?_⟩;have hE3:=((hE1.trans h1).trans h2).trans h3;refine sg0 ?_;refine Fn.mono (zi2 x3 _ _ _ _ (a4.ext hE3) (b4.ext hE3)) ?_;rintro _ x0 ⟨rfl,h0⟩;replace h0:=h0.symm;subst h0;refine⟨.inr (Keep.refl _ _),?_⟩;refine sg0 ?_
 refine zbx (z:=vi 0) (l:=[vi (cmpI a.ty b.ty),vi (lexC zce a.names b.names),vi (lexC cmpI a.nums b.nums),vi (lexC cmpL a.texts b.texts),vi (cmpL a.raw b.raw)]) rfl rfl rfl rfl rfl rfl (fun v hv=>by simp at hv;rcases hv with rfl|rfl|rfl|rfl|rfl<;>rfl) (by simp) ?_;intro x4 h4 hs4 ho4;refine⟨.inr h4,?_⟩;refine sg0 ?_;refine Fn.mono (Or_ok x4 _ [cmpI a.ty b.ty,lexC zce a.names b.names,lexC cmpI a.nums b.nums,lexC cmpL a.texts b.texts,cmpL a.raw b.raw] ho4.row (by simp)) ?_;rintro _ x0 ⟨rfl,h0⟩;replace h0:=h0.symm;subst h0;refine⟨.inr (Keep.refl _ _),?_⟩;refine sg0 ?_;refine en hK ?_;refine rt0 Tryz.ntmps263 ?_;exact⟨rfl,hE3.trans h4⟩
theorem zel(w:World)(ca cb:List Value)(a b:RecL)(ha:RecAt w ca a)(hb:RecAt w cb b)(hoa:zbr a)(hob:zbr b):
  Fn Tryz.prog 215 #[.agg ca.toArray,.agg cb.toArray] w (fun v w'=>v=vi (zaB a b)/\Ext w w'):=by
 obtain⟨ow,ds,rfl,a1,a2⟩:=ha.ex;obtain⟨ow2,ds2,rfl,b1,b2⟩:=hb.ex;have a2':=a2;have b2':=b2;obtain⟨nm,nu,tx,rw',rfl,_⟩:=a2.ex;obtain⟨nm2,nu2,tx2,rw2,rfl,_⟩:=b2.ex;refine enter Tryz.func215 Tryz.ntmps215 rfl rfl ?_;refine gz0 ?_;have k1:=zau w (.cells #[ow,v32 a.ttl,vi a.dat.ty,nm,nu,tx,rw'] 201 (0,0));have kE:=(Ext.alloc w (.cells #[ow,v32 a.ttl,vi a.dat.ty,nm,nu,tx,rw'] 201 (0,0))).trans (Ext.alloc _ (.cells #[ow2,v32 b.ttl,vi b.dat.ty,nm2,nu2,tx2,rw2] 201 (0,0)));have k2:=zau (w.alloc (.cells #[ow,v32 a.ttl,vi a.dat.ty,nm,nu,tx,rw'] 201 (0,0))) (.cells #[ow2,v32 b.ttl,vi b.dat.ty,nm2,nu2,tx2,rw2] 201 (0,0));have k1':=(RowKit.Below.heap_alloc _ (.cells #[ow2,v32 b.ttl,vi b.dat.ty,nm2,nu2,tx2,rw2] 201 (0,0)) _ (by simp)).trans k1;rw[zai]at k2 ⊢;clear k1;revert k1' kE k2;generalize (w.alloc (.cells #[ow,v32 a.ttl,vi a.dat.ty,nm,nu,tx,rw'] 201 (0,0))).alloc (.cells #[ow2,v32 b.ttl,vi b.dat.ty,nm2,nu2,tx2,rw2] 201 (0,0))=w1;intro kE k2 k1;refine zaJ (fun _=>false) [(0,true),(1,true),(2,true),(3,true),(5,true),(6,true),(7,true),(8,true),(9,true),(10,true),(12,true),(13,true),(14,true),(15,true),(4,false),(11,false),(16,false),(17,false),(18,false),(19,true)] NoS mixed (by kernel_rfl) ?_;intro gd K x hgd hx hxe hK;clear hxe;have hE1:=kE.trans hx;have K1:=(hx.block _ (Array.getElem?_eq_some_iff.1 k1).1 (fun h=>h)).trans k1;have K2:=(hx.block _ (Array.getElem?_eq_some_iff.1 k2).1 (fun h=>h)).trans k2
 have p0:zad x (some ⟨w.heap.size,0,.none⟩)=some ow:=zab K1 rfl;have p2:zad x (some ⟨w.heap.size,2,.none⟩)=some (vi a.dat.ty):=zab K1 rfl;have p5:zan x (some ⟨w.heap.size,2,.none⟩) 5=some [vi a.dat.ty,nm,nu,tx,rw']:=zaM K1 (ynl 7);have q0:zad x (some ⟨w.heap.size+1,0,.none⟩)=some ow2:=zab K2 rfl;have q2:zad x (some ⟨w.heap.size+1,2,.none⟩)=some (vi b.dat.ty):=zab K2 rfl;have q5:zan x (some ⟨w.heap.size+1,2,.none⟩) 5=some [vi b.dat.ty,nm2,nu2,tx2,rw2]:=zaM K2 (ynl 7);refine sgz (az7 p0 p2 p5 q0 q2 q5 Nat.add_zero) ?_;refine Fn.mono (zf4 x _ _ _ _ (a1.ext hE1) (b1.ext hE1) hoa.lb hob.lb (by have:=hoa.len;omega) (by have:=hob.len;omega)) ?_;rintro _ x1 ⟨rfl,h1⟩;refine⟨.inr h1,?_⟩;refine sg0 ?_;refine Fn.mono (N_int.Compare_ok x1 _ _) ?_;rintro _ x0 ⟨rfl,h0⟩;replace h0:=h0.symm;subst h0;refine⟨.inr (Keep.refl _ _),?_⟩;refine sg0 ?_;refine Fn.mono (zi1 x1 _ _ a.dat b.dat (a2'.ext (hE1.trans h1)) (b2'.ext (hE1.trans h1)) hoa.dat hob.dat) ?_;rintro _ x2 ⟨rfl,h2⟩;refine⟨.inr h2,?_⟩;refine sg0 ?_;refine zbx (z:=vi 0) (l:=[vi (cmpN (zaq a.owner) (zaq b.owner)),vi (cmpI a.dat.ty b.dat.ty),vi (cmpD a.dat b.dat)]) rfl rfl rfl rfl rfl rfl (fun v hv=>by simp at hv;rcases hv with rfl|rfl|rfl<;>rfl) (by simp) ?_;intro x4 h4 hs4 ho4;refine⟨.inr h4,?_⟩;refine sg0 ?_;refine Fn.mono (Or_ok x4 _ [cmpN (zaq a.owner) (zaq b.owner),cmpI a.dat.ty b.dat.ty,cmpD a.dat b.dat] ho4.row (by simp)) ?_;rintro _ x0 ⟨rfl,h0⟩
 replace h0:=h0.symm;subst h0;refine⟨.inr (Keep.refl _ _),?_⟩;refine sg0 ?_;refine en hK ?_;refine rt0 Tryz.ntmps215 ?_;exact⟨rfl,((hE1.trans h1).trans h2).trans h4⟩
def minT(a b:RecL):RecL:={a with ttl:=min a.ttl b.ttl}
theorem ziX(w:World)(ca cb:List Value)(a b:RecL)(ha:RecAt w ca a)(hb:RecAt w cb b):
  Fn Tryz.prog 216 #[.agg ca.toArray,.agg cb.toArray] w (fun v w'=>v= .agg (ca.set 1 (v32 (min a.ttl b.ttl))).toArray/\Ext w w'):=by
 obtain⟨ow,ds,rfl,a1,a2⟩:=ha.ex;obtain⟨ow2,ds2,rfl,b1,b2⟩:=hb.ex;have a2':=a2;obtain⟨nm,nu,tx,rw',rfl,n1,n2,n3,n4⟩:=a2.ex;obtain⟨nm2,nu2,tx2,rw2,rfl,_⟩:=b2.ex;refine enter Tryz.func216 Tryz.ntmps216 rfl rfl ?_;refine gz0 ?_;have hal:=zdV w (.cells #[ow,v32 a.ttl,vi a.dat.ty,nm,nu,tx,rw'] 201 (0,0)) (.cells #[ow2,v32 b.ttl,vi b.dat.ty,nm2,nu2,tx2,rw2] 201 (0,0)) (.cells #[.slice .none 0 0,v32 0,vi 0,.slice .none 0 0,.slice .none 0 0,.slice .none 0 0,.slice .none 0 0] 201 (0,0));rw[show (w.alloc (.cells #[ow,v32 a.ttl,vi a.dat.ty,nm,nu,tx,rw'] 201 (0,0))).heap.size=w.heap.size+1 from zai _ _,show((w.alloc (.cells #[ow,v32 a.ttl,vi a.dat.ty,nm,nu,tx,rw'] 201 (0,0))).alloc (.cells #[ow2,v32 b.ttl,vi b.dat.ty,nm2,nu2,tx2,rw2] 201 (0,0))).heap.size=w.heap.size+2 from(zdn w _ _).2.1];revert hal;generalize ((w.alloc (.cells #[ow,v32 a.ttl,vi a.dat.ty,nm,nu,tx,rw'] 201 (0,0))).alloc (.cells #[ow2,v32 b.ttl,vi b.dat.ty,nm2,nu2,tx2,rw2] 201 (0,0))).alloc (.cells #[.slice .none 0 0,v32 0,vi 0,.slice .none 0 0,.slice .none 0 0,.slice .none 0 0,.slice .none 0 0] 201 (0,0))=w1;rintro⟨hE,hs,hA,hB,hC⟩;have p1:zad w1 (some ⟨w.heap.size,1,.none⟩)=some (v32 a.ttl):=zab hA rfl;have q1:zad w1 (some ⟨w.heap.size+1,1,.none⟩)=some (v32 b.ttl):=zab hB rfl;refine rq ?_;intro gd K hgd hK;refine sgz (az3 p1 q1 Nat.add_zero) ?_;refine zlh (by rfl) (by rfl) ?_;try simp only[go_sem]
 refine zda rfl rfl rfl hA (by simp) (by simp) ?_;intro w2 hs2 hb2 hk2;try simp only[go_sem]
 refine en hK ?_;have hE2:Ext w w2:=Keep.to_ext hE rfl (fun i hi=>by omega) hk2;have r7:zan w2 (some ⟨w.heap.size,0,.none⟩) 7=some [ow,v32 (min a.ttl b.ttl),vi a.dat.ty,nm,nu,tx,rw']:=zaM hb2 (ynl 7);have hC2:=(hk2.block _ (Array.getElem?_eq_some_iff.1 hC).1 (by omega)).trans hC;refine rq ?_;intro gd K hgd hK;refine sgz r7 ?_;have hSD:SD 7 w2 (w.heap.size+2) 201 1 [[.slice .none 0 0,v32 0,vi 0,.slice .none 0 0,.slice .none 0 0,.slice .none 0 0,.slice .none 0 0]]:=
  ⟨⟨_,[],hC2,rfl,rfl⟩,fun x h=>(by rw[List.mem_singleton.1 h];rfl),fun x h v hv=>(by rw[List.mem_singleton.1 h]at hv;simp at hv;rcases hv with rfl|rfl|rfl|rfl<;>rfl)⟩
 have hone:∀q∈ [ow,v32 (min a.ttl b.ttl),vi a.dat.ty,nm,nu,tx,rw'],one q=true:=by
  obtain⟨o1,o2,rfl,_⟩:=a1;obtain⟨_,⟨o3,o4,rfl,_⟩,_⟩:=n1;obtain⟨o5,o6,rfl,_⟩:=n2;obtain⟨o7,o8,rfl,_⟩:=n3;obtain⟨o9,o10,rfl,_⟩:=n4;intro q hq;simp at hq;rcases hq with rfl|rfl|rfl|rfl|rfl|rfl|rfl<;>rfl
 refine SD.set (P:=Tryz.prog) (t:=201) hSD (j:=0) (by simp) (x:=[ow,v32 (min a.ttl b.ttl),vi a.dat.ty,nm,nu,tx,rw']) rfl hone rfl rfl ?_;intro w3 hs3 hL3 hk3;try simp only[go_sem]
 refine en hK ?_;have hE3:Ext w w3:=Keep.to_ext hE2 rfl (fun i hi=>by omega) hk3;have r9:=hL3.get (j:=0) (by simp);refine ret_cell (by simp) rfl Tryz.ntmps216 vq0 rfl rfl r9 ?_;exact⟨rfl,hE3⟩
theorem RecAt.minT{w:World}{ca:List Value}{a b:RecL}(h:RecAt w ca a):RecAt w (ca.set 1 (v32 (min a.ttl b.ttl))) (minT a b):=by
 obtain⟨ow,ds,rfl,h1,h2⟩:=h.ex;exact⟨ow,ds,rfl,h1,h2⟩
section
variable {α : Type}
theorem zkU(A B:List α)(x y:α):(A++x::B).set A.length y=A++y::B:=by
 rw[List.set_append_right _ _ (ynl _),Nat.sub_self,List.set_cons_zero]
theorem zcA(A B:List α)(x:α):(A++x::B)[A.length]? =some x:=by simp
theorem ze0(A M B:List α)(x y:α){i j:Nat}(hi:i=A.length)(hj:j=A.length+1+M.length):((A++x::M++y::B).set i y).set j x=A++y::M++x::B:=by
 subst hi hj;have e1:(A++x::M++y::B).set A.length y=A++y::M++y::B:=by
  have:=zkU A (M++y::B) x y;simpa using this
 rw[e1];have:=zkU (A++y::M) B y x
 rwa [show (A++y::M).length=A.length+1+M.length from by simp;omega]at this
def zcc(A X M Y B:List α)(i:Nat):List α:=A++(Y.take i++X.drop i)++M++(X.take i++Y.drop i)++B
theorem ziq{A X M Y B:List α}{i:Nat}(hX:i<X.length)(hY:i<Y.length):
  ((zcc A X M Y B i).set (A.length+i) Y[i]).set (A.length+X.length+M.length+i) X[i]=zcc A X M Y B (i+1)/\
  (zcc A X M Y B i)[A.length+i]? =some X[i]/\(zcc A X M Y B i)[A.length+X.length+M.length+i]? =some Y[i]:=by
 have e0:zcc A X M Y B i=(A++Y.take i)++X[i]::(X.drop (i+1)++M++X.take i)++Y[i]::(Y.drop (i+1)++B):=by
  unfold zcc;rw[List.drop_eq_getElem_cons hX,List.drop_eq_getElem_cons hY];simp only[yla,List.cons_append]
 have l1:(A++Y.take i).length=A.length+i:=by simp;omega
 have l2:(X.drop (i+1)++M++X.take i).length=X.length - (i+1)+M.length+i:=by simp;omega
 refine⟨?_,?_,?_⟩
 ·rw[e0,ze0 (A++Y.take i) _ _ X[i] Y[i] (by omega) (by omega)];unfold zcc;rw[zal hX,zal hY];simp only[yla,List.cons_append,List.nil_append]
 ·rw[e0,←l1,yla];have:=zcA (A++Y.take i) (X.drop (i+1)++M++X.take i++Y[i]::(Y.drop (i+1)++B)) X[i];simpa using this
 ·rw[e0];have:=zcA (A++Y.take i++X[i]::(X.drop (i+1)++M++X.take i)) (Y.drop (i+1)++B) Y[i];rw[show (A++Y.take i++X[i]::(X.drop (i+1)++M++X.take i)).length=A.length+X.length+M.length+i from by rw[List.length_append,List.length_cons,l1,l2];omega]at this;exact this
theorem zjR{A X M Y B:List α}{n:Nat}(hX:X.length=n)(hY:Y.length=n):zcc A X M Y B n=A++Y++M++X++B:=by
 unfold zcc;rw[List.take_of_length_le (by omega),List.take_of_length_le (by omega),List.drop_of_length_le (by omega),List.drop_of_length_le (by omega)];simp
theorem zhm(A X M Y B:List α):zcc A X M Y B 0=A++X++M++Y++B:=by simp[zcc]
theorem zjQ{A X M Y B:List α}{i:Nat}(hi:i<=X.length)(h:X.length=Y.length):(zcc A X M Y B i).length=(A++X++M++Y++B).length:=by
 simp[zcc];omega
end
structure zie{α:Type}(cf:α->α->Int)(lt older:α->α->Prop):Prop where
 trans:∀{a b c},lt a b->lt b c->lt a c
 less:∀{x y},older x y->cf y x<0->lt y x
 more:∀{x y},older x y->¬cf y x<0->lt x y
section
variable {α : Type} {lt : α -> α -> Prop}
theorem zjc{l:List α}(h:l.Pairwise lt){i j:Nat}{x y:α}(hx:l[i]? =some x)(hy:l[j]? =some y)(hij:i<j):lt x y:=by
 obtain⟨h1,rfl⟩:=List.getElem?_eq_some_iff.1 hx;obtain⟨h2,rfl⟩:=List.getElem?_eq_some_iff.1 hy;exact List.pairwise_iff_getElem.1 h i j h1 h2 hij
structure Cut(lt:α->α->Prop)(x:α)(Y:List α)(s e:Nat):Prop where
 lo:∀i y,i<s->Y[i]? =some y->lt y x
 hi:∀i y,e<=i->Y[i]? =some y->lt x y
theorem Cut.start(x:α)(Y:List α):Cut lt x Y 0 Y.length:=
 ⟨fun i y h=>absurd h (Nat.not_lt_zero _),fun i y h hy=>by rw[List.getElem?_eq_none h]at hy;cases hy⟩
theorem Cut.up{x:α}{Y:List α}{s e h:Nat}{y:α}(ht:∀{a b c},lt a b->lt b c->lt a c)(hY:Y.Pairwise lt)(hc:Cut lt x Y s e)(hy:Y[h]? =some y)(hl:lt y x):Cut lt x Y (h+1) e:=
 ⟨fun i z hi hz=>by
  by_cases hih:i=h
  ·subst hih;rw[hy]at hz;cases hz;exact hl
  ·exact ht (zjc hY hz hy (by omega)) hl,hc.hi⟩
theorem Cut.down{x:α}{Y:List α}{s e h:Nat}{y:α}(ht:∀{a b c},lt a b->lt b c->lt a c)(hY:Y.Pairwise lt)(hc:Cut lt x Y s e)(hy:Y[h]? =some y)(hl:lt x y):Cut lt x Y s h:=
 ⟨hc.lo,fun i z hi hz=>by
  by_cases hih:i=h
  ·subst hih;rw[hy]at hz;cases hz;exact hl
  ·exact ht hl (zjc hY hy hz (by omega))⟩
theorem Cut.sorted{x:α}{Y:List α}{s:Nat}(ht:∀{a b c},lt a b->lt b c->lt a c)(hY:Y.Pairwise lt)(hc:Cut lt x Y s s):(Y.take s++x::Y.drop s).Pairwise lt:=by
 rw[List.pairwise_append];have h1:∀y∈Y.take s,lt y x:=fun y hy=>by
  obtain⟨i,hi,rfl⟩:=List.getElem_of_mem hy;have hi':=hi;rw[List.length_take]at hi';refine hc.lo i _ (by omega) ?_;rw[List.getElem_take,List.getElem?_eq_getElem]
 have h2:∀y∈Y.drop s,lt x y:=fun y hy=>by
  obtain⟨i,hi,rfl⟩:=List.getElem_of_mem hy;have hi':=hi;rw[List.length_drop]at hi';refine hc.hi (s+i) _ (by omega) ?_;rw[List.getElem_drop,List.getElem?_eq_getElem]
 refine⟨hY.sublist (List.take_sublist _ _),List.pairwise_cons.2 ⟨h2,hY.sublist (List.drop_sublist _ _)⟩,fun y hy z hz=>?_⟩;rcases List.mem_cons.1 hz with rfl|hz
 ·exact h1 y hy
 ·exact ht (h1 y hy) (h2 z hz)
theorem cross{X Y:List α}{s t:Nat}(ht:∀{a b c},lt a b->lt b c->lt a c)(hX:X.Pairwise lt)(hY:Y.Pairwise lt)
  (h:s=0\/t=Y.length\/∃x y,X[s - 1]? =some x/\Y[t]? =some y/\lt x y):∀x∈X.take s,∀y∈Y.drop t,lt x y:=by
 intro x hx y hy;obtain⟨i,hi,rfl⟩:=List.getElem_of_mem hx;obtain⟨j,hj,rfl⟩:=List.getElem_of_mem hy;rw[List.length_take]at hi;rw[List.length_drop]at hj;rcases h with h|h| ⟨u,v,hu,hv,huv⟩
 ·omega
 ·omega
 ·rw[List.getElem_take,List.getElem_drop];have gx:X[i]? =some X[i]:=List.getElem?_eq_getElem (by omega);have gy:Y[t+j]? =some Y[t+j]:=List.getElem?_eq_getElem (by omega);have h1:lt X[i] v:=by
   by_cases hi1:i=s - 1
   ·subst hi1;rw[hu]at gx;cases gx;exact huv
   ·exact ht (zjc hX gx hu (by omega)) huv
  rcases Nat.eq_zero_or_pos j with hj0|hj0
  ·have gv:Y[t+j]? =some v:=by rw[hj0];exact hv
   rw[gy]at gv;rw[Option.some.inj gv];exact h1
  ·exact ht h1 (zjc hY hv gy (by omega))
theorem zit{X1 X2 Y1 Y2 Z1 Z2:List α}(hX:(X1++X2).Pairwise lt)(hY:(Y1++Y2).Pairwise lt)(c1:∀x∈X1,∀y∈Y2,lt x y)(c2:∀y∈Y1,∀x∈X2,lt y x)
  (p1:Z1.Perm (X1++Y1)) (p2:Z2.Perm (X2++Y2)) (s1:Z1.Pairwise lt) (s2:Z2.Pairwise lt):(Z1++Z2).Pairwise lt/\(Z1++Z2).Perm ((X1++X2)++(Y1++Y2)):=by
 rw[List.pairwise_append]at hX hY;constructor
 ·rw[List.pairwise_append];refine⟨s1,s2,fun a ha b hb=>?_⟩;rcases List.mem_append.1 (p1.mem_iff.1 ha) with ha|ha
  ·rcases List.mem_append.1 (p2.mem_iff.1 hb) with hb|hb
   ·exact hX.2.2 a ha b hb
   ·exact c1 a ha b hb
  ·rcases List.mem_append.1 (p2.mem_iff.1 hb) with hb|hb
   ·exact c2 a ha b hb
   ·exact hY.2.2 a ha b hb
 ·refine(p1.append p2).trans ?_;rw[yla,yla];refine List.Perm.append_left X1 ?_;rw[←yla,←yla];exact List.Perm.append_right Y2 List.perm_append_comm
end
end Go.Proofs.YtahbdamijngmmaaGreat
