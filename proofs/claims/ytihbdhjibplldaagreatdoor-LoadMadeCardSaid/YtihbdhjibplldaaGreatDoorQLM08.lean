/-
  Texts of a proof, joined: NF, NG, NI, NH, NJ, QD, JV, JW, QE, W3, W4, W5, W6, NL, NM, LG, LH, LI.
  Conditions: none.
-/
import Derived.Lib.SplitLaws
import Derived.Test.YtihbdhjibplldaaGreatDoorQLM07
import Derived.Test.YtihbdhjibplldaaGreatDoorQLM05
import Derived.Test.YtihbdhjibplldaaGreatDoorQLM03
import Derived.Test.YtihbdhjibplldaaGreatDoorQLM06
import Derived.Test.YtihbdhjibplldaaGreatDoorQLM02
set_option linter.unusedVariables false
set_option linter.unusedSimpArgs false
set_option linter.defProp false
set_option linter.unnecessarySimpa false
set_option maxHeartbeats 8000000
namespace Go.Proofs.YtihbdhjibplldaaGreatDoor
open Go
set_option maxRecDepth 10000
theorem ix_at(c:UInt8)(r:Lab):∀p:Lab,c∉p→Lib.index (p++c::r) [c]=(p.length:Int)
 | [],_=>by
  show Lib.index (c::r) [c]=0
  rw[Lib.index];simp[List.isPrefixOf]
 |b::p,h=>by
  have hb:¬c=b:=fun e=>h (by rw[e];exact List.mem_cons_self ..)
  have ih:=ix_at c r p fun e=>h (List.mem_cons_of_mem _ e)
  show Lib.index (b::(p++c::r)) [c]=_
  rw[Lib.index,ih]
  have hp:([c]:List UInt8).isPrefixOf (b::(p++c::r))=false:=by simp[List.isPrefixOf,hb]
  have hn:¬((p.length:Int)== -1)=true:=fun e=>by have:=beq_iff_eq.1 e;omega
  rw[hp,if_neg (by decide),if_neg hn,List.length_cons]
  omega
structure SplC(c:UInt8)(s:Lab)(ps:List Lab):Prop where
 sp:Lib.splitB ⟨#[c]⟩ 0 (Lib.countB ⟨s.toArray⟩ ⟨#[c]⟩) ⟨s.toArray⟩=ps.map fun l=>⟨l.toArray⟩
 ct:Lib.countB ⟨s.toArray⟩ ⟨#[c]⟩+1=ps.length
theorem ex_front(p r:Lab):(⟨(p++r).toArray⟩:ByteArray).extract 0 (p.length+0)=⟨p.toArray⟩:=by
 apply ByteArray.ext
 rw[ByteArray.data_extract]
 simp
theorem ex_back(p:Lab)(c:UInt8)(r:Lab):(⟨(p++c::r).toArray⟩:ByteArray).extract (p.length+(⟨#[c]⟩:ByteArray).size) (⟨(p++c::r).toArray⟩:ByteArray).size=⟨r.toArray⟩:=by
 have e1:(⟨#[c]⟩:ByteArray).size=1:=rfl
 have e2:(⟨(p++c::r).toArray⟩:ByteArray).size=p.length+1+r.length:=by
  show(p++c::r).toArray.size=_
  simp;omega
 rw[e1,e2]
 apply ByteArray.ext
 rw[ByteArray.data_extract]
 apply Array.toList_inj.1
 simp
theorem zcO(sep p q:Lab)(r:List Lab):zaU sep (p::q::r)=p++(sep++zaU sep (q::r)):=by
 simp[zaU]
theorem zjf{sep x:Lab}:zaU sep [x]=x:=by simp[zaU]
theorem zd2(c:UInt8):∀(r:List Lab) (p:Lab),(∀x∈p::r,c∉x)→SplC c (zaU [c] (p::r)) (p::r)
 | [],p,h=>by
  have h0:c∉p:=h p (List.mem_cons_self ..)
  have hc:Lib.countB ⟨p.toArray⟩ ⟨#[c]⟩=0:=by
   show Lib.count p [c]=0
   rw[Lib.count_one]
   exact List.count_eq_zero.2 h0
  rw[zjf]
  exact⟨by rw[hc];rfl,by rw[hc];rfl⟩
 |q::r,p,h=>by
  have ih:=zd2 c r q fun x hx=>h x (List.mem_cons_of_mem _ hx)
  have h0:c∉p:=h p (List.mem_cons_self ..)
  rw[zcO]
  obtain⟨u,hu⟩:∃u,zaU [c] (q::r)=u:=⟨_,rfl⟩
  rw[hu]at ih ⊢
  have hc:Lib.countB ⟨(p++c::u).toArray⟩ ⟨#[c]⟩=Lib.countB ⟨u.toArray⟩ ⟨#[c]⟩+1:=by
   show Lib.count (p++c::u) [c]=Lib.count u [c]+1
   rw[Lib.count_one,Lib.count_one,List.count_append,List.count_eq_zero.2 h0,List.count_cons_self,Nat.zero_add]
  have hi:Lib.indexB ⟨(p++c::u).toArray⟩ ⟨#[c]⟩=(p.length:Int):=ix_at c u p h0
  show SplC c (p++c::u) _
  refine⟨?_,by rw[hc,ih.ct];rfl⟩
  rw[hc,Lib.splitB_hit _ _ _ _ _ hi,ex_back,ih.sp,ex_front]
  rfl
theorem zgf{p:UInt8→Bool}:∀l:Lab,(∀c∈l,p c=true)→l.dropWhile p=[]
 | [],_=>rfl
 |c::l,h=>by rw[List.dropWhile_cons_of_pos (h c (List.mem_cons_self ..))];exact zgf l fun x hx=>h x (List.mem_cons_of_mem _ hx)
theorem zg3{l cs:Lab}(h:∀c∈l,c∈cs):Lib.trimS l cs=[]:=by
 have h1:Lib.trimRightS l cs=[]:=by
  unfold Lib.trimRightS
  rw[zgf _ fun c hc=>List.contains_iff_mem.2 (h c (List.mem_reverse.1 hc))]
  rfl
 unfold Lib.trimS
 rw[h1]
 rfl
theorem zcz:∀k,k<16→hexV (hexD k)=some k∧hexD k∈digs16∧hexD k≠58∧hexD k≠92∧hexD k≠34∧hexD k≠32:=by decide
theorem zfk:∀(k n:Nat),n≤k→∀c∈hexU n,∃j,j<16∧c=hexD j
 |0,n,h,c,hc=>by
  rw[zcj (by omega)]at hc
  exact⟨n,by omega,List.mem_singleton.1 hc⟩
 |k+1,n,h,c,hc=>by
  by_cases h1:n<16
  ·rw[zcj h1]at hc
   exact⟨n,h1,List.mem_singleton.1 hc⟩
  ·rw[zea h1]at hc
   rcases List.mem_append.1 hc with h2|h2
   ·exact zfk k (n / 16) (by omega) c h2
   ·exact⟨n % 16,Nat.mod_lt _ (by decide),List.mem_singleton.1 h2⟩
theorem zcP(l:Lab){k:Nat}(h:k<16):zaW (l++ [hexD k])=16*zaW l+k:=by
 unfold zaW
 rw[List.foldl_append]
 simp[(zcz k h).1]
theorem zhn:∀(k n:Nat),n≤k→zaW (hexU n)=n
 |0,n,h=>by
  rw[zcj (by omega)]
  exact(zcP [] (k:=n) (by omega)).trans (by show 16*0+n=n;omega)
 |k+1,n,h=>by
  by_cases h1:n<16
  ·rw[zcj h1]
   exact(zcP [] (k:=n) (by omega)).trans (by show 16*0+n=n;omega)
  ·rw[zea h1,zcP _ (Nat.mod_lt _ (by decide)),zhn k (n / 16) (by omega)]
   omega
theorem hexU_ne(n:Nat):hexU n≠ []:=by
 by_cases h1:n<16
 ·rw[zcj h1];simp
 ·rw[zea h1];simp
theorem b_shr8{P:Program}{t:TypeId}{n:Nat}:binV P .shr t (.int .u64 (n:Int)) (.int .u64 8)=some (.int .u64 ((n / 256:Nat):Int)):=by
 show some (Value.int .u64 (Int.fdiv (n:Int) (2 ^ (min (Int.toNat 8) 64))))=_
 have:(2:Int) ^ (min (Int.toNat 8) 64)=((256:Nat):Int):=by decide
 rw[this,Int.fdiv_eq_ediv_of_nonneg _ (by omega)];rfl
theorem zg2{n:Nat}:IntKind.u8.wrap (n:Int)=((n % 256:Nat):Int):=by
 show(n:Int) % 256=_
 omega
theorem zjW{w:World}(hW:WX w){c:UInt8}{s:Lab}{ps:List Lab}{n:Nat}(hs:s.length<4000000000)(h:SplC c s ps)(hn:ps.length=n):
  Fn Tryz.prog 170 #[vs s,vs [c]] w (fun v w'=>v= .slice (some ⟨w.heap.size,0,Option.none⟩) n n∧w'.heap[w.heap.size]? =some (.cells (ps.map vs).toArray 9 (0,0))∧Ext w w'):=by
 obtain⟨m,hm⟩:=hW.ml
 refine Fn.of_calls ((Any.strings_Split Tryz.lays146 (by kernel_rfl) ⟨s.toArray⟩ ⟨#[c]⟩ m w (show s.toArray.size<_ by simp;omega) hm (Nat.le_refl 1)).mono ?_)
 rintro _ w' ⟨he,rfl⟩
 subst hn
 rw[h.sp,h.ct,List.map_map]at*
 refine⟨_,he,rfl,?_,Ext.alloc w _⟩
 rw[World.alloc_heap_new]
 rfl
def zf0(p:Lab):List UInt8:=[UInt8.ofNat (zaW p / 256),UInt8.ofNat (zaW p % 256)]
theorem zfZ:∀l:List Lab,(l.flatMap zf0).length=2*l.length
 | []=>rfl
 |p::l=>by rw[List.flatMap_cons,List.length_append,zfZ l,List.length_cons,show(zf0 p).length=2 from rfl];omega
theorem zjj:∀l:Lab,zaW l<16 ^ l.length:=fun l=>by
 have:∀(l:Lab) (n k:Nat),n<16 ^ k→l.foldl (fun n c=>16*n+(hexV c).getD 0) n<16 ^ (k+l.length):=fun l=>by
  induction l with
  |nil=>intro n k h;exact h
  |cons c l ih=>
   intro n k h
   have hc:(hexV c).getD 0<16:=by
    cases hv:hexV c with
    |none=>decide
    |some x=>exact zfj hv
   have:=ih (16*n+(hexV c).getD 0) (k+1) (by rw[Nat.pow_succ];omega)
   rw[List.foldl_cons,List.length_cons,show k+(l.length+1)=k+1+l.length by omega]
   exact this
 have:=this l 0 0 (by decide)
 rwa [Nat.zero_add]at this
theorem long_ok{W0 w:World}{b:Nat}{t:Lab}{ws:List (Lab×Bool)}{ov:Value}{ps:List Lab}(hW:WX W0)(h:Rdr W0 w b ((t,false)::ws) ov 0)(hl:ws.length≤1000000)(ht:t.length≤1000000)(hsp:SplC 58 t ps)(h8:ps.length=8)(hps:∀p∈ps,p≠ []∧p.length≤4∧∀c∈p,c∈digs16∧(hexV c).isSome=true):
  Fn Tryz.prog 189 #[.pointer (some ⟨b,0,Option.none⟩)] w (fun v w'=>Own w.heap.size w' 5 v ((ps.flatMap zf0).map zao)∧Rdr W0 w' b ws ov 0∧Keep (fun i=>i=b) w w'):=by
 have hbl:=h.lt
 refine enter Tryz.func189 Tryz.ntmps189 rfl rfl ?_
 refine go trivial ?_
 refine rc trivial (zcL h hl) ?_
 rintro _ w1 ⟨rfl,hR1,hk1⟩
 simp only[if_neg (show¬false=true by decide)]at hR1
 refine rd trivial (zjW (n:=8) (hW.ext hR1.ext) (by omega) hsp h8) ?_
 rintro _ w2 ⟨rfl,hB2,hE2⟩
 have hs1:=hk1.size
 have hs2:=hE2.size
 have hP:w1.heap.size<w2.heap.size:=(Array.getElem?_eq_some_iff.1 hB2).1
 obtain⟨P,hPe⟩:∃P,w1.heap.size=P:=⟨_,rfl⟩
 rw[hPe]at hB2 hP ⊢
 have hk2:Keep (fun i=>i=b) w w2:=hk1.trans (hE2.mono fun _ _ h=>h.elim)
 have d8:decide (((8:Nat):Int)=8)=true:=rfl
 have hR2:=hR1.extx hE2
 refine rgo (an2 d8 Bool.not_true) ?_
 refine zbq 8 (fun i σ v=>(σ 0= .pointer (some ⟨b,0,Option.none⟩)∧σ 17= .slice (some ⟨P,0,Option.none⟩) 8 8∧σ 18=vi (8:Nat)∧σ 19=vi i)∧Ext w2 v∧∃sv,σ 4=sv∧Own w2.heap.size v 5 sv (((ps.take i).flatMap zf0).map zao)) ?_ ?_ ?_
 ·exact⟨⟨vr0,vr0,vr0,vr0⟩,Keep.refl _ _,_,vr0,Own.nil _ _ _⟩
 ·rintro i σ v hi ⟨r1,r2,r3,r4⟩ ⟨⟨s0,s17,s18,s19⟩,hE,sv,s4,hown⟩
  obtain⟨p,hp⟩:∃p,ps[i]'(by omega)=p:=⟨_,rfl⟩
  have hpm:p∈ps:=hp▸List.getElem_mem _
  obtain⟨hp0,hp4,hpc⟩:=hps p hpm
  have hsv:=hE.size
  have hBv:=Ext.at hE hB2
  have g:zad v (some ⟨P,i,Option.none⟩)=some (vs p):=za1 (j:=i) hBv (by rw[List.getElem?_map,List.getElem?_eq_getElem (by omega),hp];rfl)
  have d1:decide (p=[])=false:=decide_eq_false hp0
  have d2:decide ((4:Int)<(p.length:Int))=false:=decide_eq_false (by omega)
  have hvl:zaW p<65536:=by
   have h1:=zjj p
   have h2:16 ^ p.length≤16 ^ 4:=Nat.pow_le_pow_right (by decide) hp4
   omega
  refine go (an9 s0 s17 s18 s19 s4 r1 g r2 (an3 r3 (Nat.mul_one i) (Nat.zero_add i))) ?_
  refine rcg [(2,25),(7,30)] (an6 s0 s4 d1 d2 r2 trivial) (zeD v p (by omega)) ?_
  rintro _ v1 ⟨rfl,hE1⟩
  rw[decide_eq_true (zg3 fun c hc=>(hpc c hc).1)]
  refine reg [(2,25),(7,30)] (an6 s0 s4 d1 d2 Bool.not_true r2) ?_
  refine go (an2 s0 s4) ?_
  refine rc (an2 s0 s4) (PuH_ok v1 (bt:=16) (mx:=65535) (.inr ⟨rfl,rfl⟩) hp0 (by omega) (fun c hc=>(hpc c hc).2) (by omega)) ?_
  rintro _ v2 ⟨rfl,hE2'⟩
  obtain⟨x,hx⟩:∃x,zaW p=x:=⟨_,rfl⟩
  rw[hx]at hvl ⊢
  have f1:=b_shr8 (P:=Tryz.prog) (t:=71) (n:=x)
  have f2:IntKind.u8.wrap ((x / 256:Nat):Int)=((x / 256:Nat):Int):=by rw[zg2];omega
  have f3:IntKind.u8.wrap (x:Int)=((x % 256:Nat):Int):=zg2
  have hsE:=hE1.size
  have hsE2:=hE2'.size
  refine rgo (an2 s0 s4) ?_
  refine rq ?_;intro gd K hgd hK
  try simp (disch:=first|omega|assumption|rfl) only[go_sem,s4,f1,f2,f3]
  refine zjJ (z:= .int .u8 0) rfl rfl rfl rfl rfl rfl ?_
  intro y1 hy1 hys1 hyo
  try simp (disch:=first|omega|assumption|rfl) only[go_sem,s4]
  refine za2 (e:=5) (((hown.ext hE1).ext hE2').ext hy1) hyo.row rfl rfl rfl rfl rfl rfl ((vr1 s4)) (vr0) (fun q hq=>by simp only[List.mem_cons,List.not_mem_nil,or_false]at hq;rcases hq with rfl|rfl<;>rfl) (by rw[List.length_map,zfZ,List.length_take];simp;omega) (by decide) (by omega) ?_
  intro sv' y2 hown2 hX2 hK2 hb2'
  try simp only[go_sem]
  refine hK _ _ ?_;clear hK hgd;clear K;try clear gd
  refine go (an5 s0 s17 s18 s19 r4) ?_
  refine⟨rfl,⟨(vq1 s0),(vq1 s17),(vq1 s18),(vq1 r4)⟩,hX2 w2 (((hE.trans hE1).trans hE2').trans hy1) (Nat.le_refl _),sv',vr0,?_⟩
  rw[zal (by omega),hp,List.flatMap_append,List.map_append]
  have e2:(([p]:List Lab).flatMap zf0).map zao=[.int .u8 ((x / 256:Nat):Int),.int .u8 ((x % 256:Nat):Int)]:=by
   show [zao (UInt8.ofNat (zaW p / 256)),zao (UInt8.ofNat (zaW p % 256))]=_
   rw[hx,zb9 (by omega),zb9 (by omega)]
  rw[e2]
  exact hown2
 ·rintro σ v r ⟨⟨s0,s17,s18,s19⟩,hE,sv,s4,hown⟩
  rw[List.take_of_length_le (by omega)]at hown
  refine go (an6 s0 s17 s18 s19 s4 r) ?_
  refine zaf (.inr rfl) Tryz.ntmps189 rfl (zac ((vr1 s4)) zae) ?_
  exact⟨hown.mono (by omega),hR2.extx hE,hk2.trans (hE.mono fun _ _ h=>h.elim)⟩
theorem zcX{c:UInt8}(h1:c≠92)(h2:c≠34)(h3:c≠32)(s w:Lab)(q:Bool):wF false (c::s) w q=wF false s (w++ [c]) q:=by
 rw[wF,if_neg (fun h=>h1 h.1),if_neg h2]
 cases q
 ·rw[if_neg (by decide),if_neg h3]
 ·rw[if_pos rfl]
theorem zeW(d:UInt8)(s w:Lab)(q:Bool):wF false (92::d::s) w q=wF false s (w++ [92,d]) q:=by
 rw[wF,if_pos ⟨rfl,by simp⟩,wF,List.append_assoc]
 rfl
theorem zii:∀(l s w:Lab) (q:Bool),(∀c∈l,c≠92∧c≠34∧c≠32)→wF false (l++s) w q=wF false s (w++l) q
 | [],s,w,q,_=>by rw[List.nil_append,List.append_nil]
 |c::l,s,w,q,h=>by
  obtain⟨h1,h2,h3⟩:=h c (List.mem_cons_self ..)
  rw[List.cons_append,zcX h1 h2 h3,zii l s _ q fun x hx=>h x (List.mem_cons_of_mem _ hx),List.append_assoc]
  rfl
theorem zdf{c:UInt8}(h:digB c=true):c≠92∧c≠34∧c≠32∧c≠46∧c≠58:=by
 refine⟨?_,?_,?_,?_,?_⟩<;>(rintro rfl;revert h;decide)
theorem wF_esc(c:UInt8)(s w:Lab)(q:Bool):wF false (escB c++s) w q=wF false s (w++escB c) q:=by
 have h2:=zef (k:=c.toNat / 10 % 10) (by omega)
 have h3:=zef (k:=c.toNat % 10) (by omega)
 unfold escB
 show wF false (92::_::_::_::s) w q=_
 rw[zeW,zcX (zdf h2).1 (zdf h2).2.1 (zdf h2).2.2.1,zcX (zdf h3).1 (zdf h3).2.1 (zdf h3).2.2.1,List.append_assoc,List.append_assoc]
 rfl
theorem wF_lab(c:UInt8)(s w:Lab)(q:Bool):wF false (labB c++s) w q=wF false s (w++labB c) q:=by
 unfold labB
 by_cases h1:c.toNat≤32∨127≤c.toNat
 ·rw[if_pos h1];exact wF_esc c s w q
 ·rw[if_neg h1]
  by_cases h2:marksL.contains c=true
  ·rw[if_pos h2];exact zeW c s w q
  ·rw[if_neg h2]
   have m1:c≠92:=fun e=>h2 (by rw[e];decide)
   have m2:c≠34:=fun e=>h2 (by rw[e];decide)
   have m3:c≠32:=fun e=>h1 (.inl (by rw[e];decide))
   exact zcX m1 m2 m3 s w q
theorem zih:∀(l s w:Lab) (q:Bool),wF false (zas l++s) w q=wF false s (w++zas l) q
 | [],s,w,q=>by unfold zas;simp
 |c::l,s,w,q=>by
  have e:zas (c::l)=labB c++zas l:=by unfold zas;rw[List.flatMap_cons]
  rw[e,List.append_assoc,wF_lab,zih l,List.append_assoc]
theorem zin:∀(n:Nm) (s w:Lab) (q:Bool),wF false ((n.flatMap fun l=>zas l++ [46])++s) w q=wF false s (w++n.flatMap fun l=>zas l++ [46]) q
 | [],s,w,q=>by simp
 |l::n,s,w,q=>by
  rw[List.flatMap_cons,List.append_assoc,List.append_assoc,zih]
  show wF false (46::((n.flatMap fun l=>zas l++ [46])++s)) (w++zas l) q=_
  rw[zcX (by decide) (by decide) (by decide),zin n]
  simp
def Tok(p:Lab):Prop:=p≠ []∧∀s w:Lab,wF false (p++s) w false=wF false s (w++p) false
theorem zg5(n:Nm):Tok (za7 n):=by
 unfold za7
 by_cases h:n=[]
 ·rw[if_pos h]
  exact⟨by simp,fun s w=>zii [46] s w false (by decide)⟩
 ·rw[if_neg h]
  refine⟨?_,fun s w=>zin n s w false⟩
  cases n with
  |nil=>exact absurd rfl h
  |cons l n=>simp
theorem zdW{p:Lab}(h0:p≠ [])(h:∀c∈p,c≠92∧c≠34∧c≠32):Tok p:=⟨h0,fun s w=>zii p s w false h⟩
theorem zeX(n:Nat):Tok (Lib.decDigits n):=zdW (zhx n) fun c hc=>by
 have:=zdf (zbC n c hc)
 exact⟨this.1,this.2.1,this.2.2.1⟩
theorem zdh{p:Lab}(h:Tok p):wF false p [] false=[(p,false)]:=by
 have:=h.2 [] []
 rw[List.append_nil,List.nil_append]at this
 rw[this,wF,if_neg h.1]
theorem zdU{p:Lab}(h:Tok p)(s:Lab):wF false (p++([32]++s)) [] false=(p,false)::wF false s [] false:=by
 rw[h.2,List.nil_append]
 show wF false (32::s) p false=_
 rw[wF,if_neg (fun e=>absurd e.1 (by decide)),if_neg (by decide),if_neg (by decide),if_pos rfl,if_neg h.1]
theorem zim:∀ps:List Lab,(∀p∈ps,Tok p)→wF false (zaU [32] ps) [] false=ps.map fun p=>(p,false)
 | [],_=>rfl
 | [p],h=>by rw[zc9];exact zdh (h p (List.mem_cons_self ..))
 |p::q::r,h=>by
  rw[zcO,zdU (h p (List.mem_cons_self ..)),zim (q::r) fun x hx=>h x (List.mem_cons_of_mem _ hx)]
  rfl
theorem wF_quoB(c:UInt8)(s w:Lab):wF false (quoB c++s) w true=wF false s (w++quoB c) true:=by
 unfold quoB
 split
 ·exact wF_esc c s w true
 ·rename_i h1
  split
  ·exact zeW c s w true
  ·rename_i h2
   show wF false (c::s) w true=_
   rw[wF,if_neg (fun h=>h2 (.inr h.1)),if_neg (fun h=>h2 (.inl h)),if_pos rfl]
theorem zil:∀(l s w:Lab),wF false (quoL l++s) w true=wF false s (w++quoL l) true
 | [],s,w=>by unfold quoL;simp
 |c::l,s,w=>by
  have e:quoL (c::l)=quoB c++quoL l:=by unfold quoL;rw[List.flatMap_cons]
  rw[e,List.append_assoc,wF_quoB,zil l,List.append_assoc]
theorem zik(t s:Lab):wF false (quoT t++s) [] false=(quoL t,true)::wF false s [] false:=by
 unfold quoT
 show wF false (34::(quoL t++ [34]++s)) [] false=_
 rw[wF,if_neg (fun e=>absurd e.1 (by decide)),if_pos rfl,if_neg (by decide),List.append_assoc,zil,List.nil_append]
 show wF false (34::s) (quoL t) true=_
 rw[wF,if_neg (fun e=>absurd e.1 (by decide)),if_pos rfl,if_pos rfl]
theorem zij:∀ts:List Lab,wF false (zaU [32] (ts.map quoT)) [] false=ts.map fun t=>(quoL t,true)
 | []=>rfl
 | [t]=>by
  rw[List.map_singleton,zc9]
  have:=zik t []
  rw[List.append_nil]at this
  rw[this,wF]
  rfl
 |t::u::r=>by
  rw[List.map_cons,List.map_cons,zcO,zik]
  show(quoL t,true)::wF false (32::zaU [32] (quoT u::r.map quoT)) [] false=_
  have ih:=zij (u::r)
  rw[List.map_cons]at ih
  rw[wF,if_neg (fun e=>absurd e.1 (by decide)),if_neg (by decide),if_neg (by decide),if_pos rfl,if_pos rfl,ih]
  rfl
theorem un_quoB(c:UInt8)(r acc:Lab):unD [] 0 (quoB c++r) acc=unD [] 0 r (acc++ [c]):=by
 unfold quoB
 split
 ·have he:=zjs c r
  have e:escB c++r=92::((escB c).tail++r):=rfl
  rw[e,unD,if_pos rfl,he]
  simp only[if_true]
  have e2:(escB c).tail++r=UInt8.ofNat (48+c.toNat / 100)::UInt8.ofNat (48+c.toNat / 10 % 10)::UInt8.ofNat (48+c.toNat % 10)::r:=rfl
  rw[e2,unD,unD,unD]
 ·split
  ·rename_i h2
   have hd:digB c=false:=by rcases h2 with rfl|rfl<;>decide
   show unD [] 0 (92::(c::r)) acc=_
   rw[unD,if_pos rfl,zgc hd]
   simp only[if_true]
   rw[unD]
  ·rename_i h2
   show unD [] 0 (c::r) acc=_
   rw[unD,if_neg (fun h=>h2 (.inr h)),if_neg (by simp)]
theorem zir:∀(l acc:Lab),unD [] 0 (quoL l) acc=(acc++l,0)
 | [],acc=>by unfold quoL unD;simp
 |c::l,acc=>by
  have e:quoL (c::l)=quoB c++quoL l:=by unfold quoL;rw[List.flatMap_cons]
  rw[e,un_quoB,zir l]
  simp
theorem zc7{n o:Nm}(h:zaX n=0):zaI (za7 n) o=(n,0):=by
 have h1:=(zeg h).1
 unfold za7
 by_cases hn:n=[]
 ·rw[if_pos hn,hn];rfl
 ·rw[if_neg hn]
  have hh:¬(n.flatMap fun l=>zas l++ [46])=[64]∧¬(n.flatMap fun l=>zas l++ [46])=[46]∧¬(n.flatMap fun l=>zas l++ [46])=[]:=by
   cases n with
   |nil=>exact absurd rfl hn
   |cons l n=>
    have:=zit (errL_ne (h1 l (List.mem_cons_self ..))) ([46]++n.flatMap fun l=>zas l++ [46])
    rw[List.flatMap_cons,List.append_assoc]
    exact this
  have hp:zbl (n.flatMap fun l=>zas l++ [46])=(n,true,0):=by
   unfold zbl
   rw[zg6,if_neg (fun e=>by cases e),zeG n [] true h1 (fun e=>absurd e hn),List.nil_append]
  unfold zaI
  rw[if_neg hh.1,if_neg hh.2.1,if_neg hh.2.2,hp]
  simp[h]
theorem own28_ok{W0 w:World}{b:Nat}{t:Lab}{ov:Value}{ps:List Lab}(hW:WX W0)(h:Rdr W0 w b [(t,false)] ov 0)(ht:t.length≤1000000)(hsp:SplC 58 t ps)(h8:ps.length=8)(hps:∀p∈ps,p≠ []∧p.length≤4∧∀c∈p,c∈digs16∧(hexV c).isSome=true):
  Fn Tryz.prog 160 #[.pointer (some ⟨b,0,Option.none⟩),vi 28] w (fun v w'=>(∃rv,v= .agg #[vi 28,.slice Option.none 0 0,.slice Option.none 0 0,.slice Option.none 0 0,rv]∧Own w.heap.size w' 5 rv ((ps.flatMap zf0).map zao))∧Rdr W0 w' b [] ov 0∧Keep (fun i=>i=b) w w'):=by
 have hbl:=h.lt
 have hlow:=h.low
 refine enter Tryz.func160 Tryz.ntmps160 rfl rfl ?_
 refine go trivial ?_
 refine zam ?_
 intro w1 hE1 hs1 hA
 refine rq ?_;intro gd K hgd hK
 try simp only[go_sem]
 refine⟨by kernel_rfl,?_⟩
 rw[show bdV Tryz.prog 34 [(0,vi 28)]=some (.agg #[vi 28,.slice Option.none 0 0,.slice Option.none 0 0,.slice Option.none 0 0,.slice Option.none 0 0]) from by kernel_rfl]
 try simp only[go_sem]
 refine zbj (P:=Tryz.prog) (l:=[vi 28,.slice Option.none 0 0,.slice Option.none 0 0,.slice Option.none 0 0,.slice Option.none 0 0]) rfl (zcH _ _ _ _ _ rfl rfl rfl rfl) rfl rfl ?_
 intro w2 hE2 hs2 hB2
 try simp only[go_sem]
 refine hK _ _ ?_;clear hK hgd;clear K;try clear gd
 rw[hs1]at hB2
 simp only[hs1]
 have hR2:=(h.extx hE1).extx hE2
 refine go trivial ?_
 refine rc trivial (zd8 hR2 28) ?_
 rintro _ w3 ⟨rfl,hE3⟩
 rw[show zfe 28 ([(t,false)]:List (Lab×Bool)).length=true from rfl]
 have d1:decide ((28:Int)=1)=false:=rfl
 have d2:decide ((28:Int)=28)=true:=rfl
 refine rgo (an2 d1 d2) ?_
 have hR3:=hR2.extx hE3
 have hs3:=hE3.size
 refine rq ?_;intro gd K hgd hK
 try simp only[go_sem]
 refine Fn.mono (long_ok hW hR3 (by simp) ht hsp h8 hps) ?_
 rintro rv w4 ⟨hown,hR4,hk4⟩
 obtain⟨ra,rc',hrv⟩:=hown.slice
 have hs4:=hk4.size
 have hB4:=(hk4.block (w.heap.size+1) (by omega) (by omega)).trans (Ext.at hE3 hB2)
 try simp (disch:=first|omega|assumption|rfl) only[go_sem,Nat.zero_add]
 refine zcG (P:=Tryz.prog) (t:=32) (j:=4) (u:=rv) hB4 (by simp) (by rw[hrv];rfl) rfl rfl ?_
 intro w5 hs5 hB5 hk5
 try simp only[go_sem]
 refine hK _ _ ?_;clear hK hgd;clear K;try clear gd
 simp only[List.set_cons_zero,List.set_cons_succ]at hB5
 have q5:=zai (n:=5) hB5 rfl
 refine go trivial ?_
 refine rq ?_;intro gd K hgd hK
 try simp (disch:=first|omega|assumption|rfl) only[go_sem,q5]
 have hA5:w5.heap[w.heap.size]? =_:=(hk5.block _ (by omega) (by omega)).trans ((hk4.block _ (by omega) (by omega)).trans (Ext.at (hE2.trans hE3) hA))
 refine zaK (P:=Tryz.prog) (t:=34) (l:=[vi 28,.slice Option.none 0 0,.slice Option.none 0 0,.slice Option.none 0 0,rv]) hA5 rfl (zcH _ _ _ _ _ rfl rfl rfl (by rw[hrv];rfl)) rfl rfl ?_
 intro w6 hs6 hB6 hk6
 try simp only[go_sem]
 refine hK _ _ ?_;clear hK hgd;clear K;try clear gd
 refine go trivial ?_
 refine zaf (.inr rfl) Tryz.ntmps160 rfl (zaL (x:=⟨w.heap.size,0,Option.none⟩) (k:=5) (vr0) rfl rfl (zai hB6 rfl) zae) ?_
 have hE13:=(hE1.trans hE2).trans hE3
 refine⟨⟨rv,rfl,((hown.keep hk5 fun i hi hs=>by have:=(hown.ge hi).1;omega).keep hk6 fun i hi hs=>by have:=(hown.ge hi).1;omega).mono (by omega)⟩,(hR4.keep hk5 fun i hi=>by omega).keep hk6 fun i hi=>by omega,?_⟩
 exact((((hE13.mono fun _ _ h=>h.elim):Keep (fun i=>i=b) w w3).trans hk4).own hk5 fun i hi h=>by omega).own hk6 fun i hi h=>by omega
theorem ziO{W0 w:World}{tx:Nm→Lab}{b:Nat}{ov:Value}{o:Nm}{T:Int}{ns:List Nm}{us:List Int}(hW:WX W0)(hT:T=2∨T=5∨T=12∨T=39∨T=6)(hsh:zaC T=((ns.length:Int),(us.length:Int),0,0))(hnl:ns.length≤10)(hul:us.length≤10)(h:Rdr W0 w b (ns.map (fun n=>(tx n,false))++us.map fun m=>(numT m,false)) ov 0)(ho:Row W0 ov (o.map vs))(hoT:NmT o)
  (hN:∀n∈ns,zaI (tx n) o=(n,0)∧(tx n).length≤500000000∧True) (hNu:∀m∈us,(decP 4294967295 (numT m)=(m.toNat,0)∧(m.toNat:Int)=m)∧(numT m).length≤1000000):
  Fn Tryz.prog 160 #[.pointer (some ⟨b,0,Option.none⟩),vi T] w (fun v w'=>(∃nmv nuv,v= .agg #[vi T,nmv,nuv,.slice Option.none 0 0,.slice Option.none 0 0]∧Own w.heap.size w' 29 nuv (us.map v32)∧Hz (fun i=>i<w.heap.size) w' (fun X=>NamesAt X nmv ns))∧Rdr W0 w' b [] ov 0∧Keep (fun i=>i=b) w w'):=by
 have hbl:=h.lt
 have hlow:=h.low
 refine enter Tryz.func160 Tryz.ntmps160 rfl rfl ?_
 refine go trivial ?_
 refine zam ?_
 intro w1 hE1 hs1 hA
 refine rq ?_;intro gd K hgd hK
 try simp only[go_sem]
 refine⟨by kernel_rfl,?_⟩
 rw[show bdV Tryz.prog 34 [(0,vi T)]=some (.agg #[vi T,.slice Option.none 0 0,.slice Option.none 0 0,.slice Option.none 0 0,.slice Option.none 0 0]) from by kernel_rfl]
 try simp only[go_sem]
 refine zbj (P:=Tryz.prog) (l:=[vi T,.slice Option.none 0 0,.slice Option.none 0 0,.slice Option.none 0 0,.slice Option.none 0 0]) rfl (zcH _ _ _ _ _ rfl rfl rfl rfl) rfl rfl ?_
 intro w2 hE2 hs2 hB2
 try simp only[go_sem]
 refine hK _ _ ?_;clear hK hgd;clear K;try clear gd
 rw[hs1]at hB2
 simp only[hs1]
 have hR2:=(h.extx hE1).extx hE2
 have hwl:(ns.map (fun n=>(tx n,false))++us.map fun m=>(numT m,false)).length=ns.length+us.length:=by simp
 refine go trivial ?_
 refine rc trivial (zd8 hR2 T) ?_
 rintro _ w3 ⟨rfl,hE3⟩
 have hmany:zfe T (ns.map (fun n=>(tx n,false))++us.map fun m=>(numT m,false)).length=true:=by
  unfold zfe
  rw[hwl,hsh]
  simp
 rw[hmany]
 have hR3:=hR2.extx hE3
 have hs3:=hE3.size
 have hB3:=Ext.at hE3 hB2
 obtain⟨P,hP⟩:∃P,w.heap.size+1=P:=⟨_,rfl⟩
 rw[hP]at hB3 ⊢
 have d1:decide (T=1)=false:=decide_eq_false (by omega)
 have d28:decide (T=28)=false:=decide_eq_false (by omega)
 have d16:decide (T=16)=false:=decide_eq_false (by omega)
 have d15:decide (T=15)=false:=decide_eq_false (by omega)
 refine rgo (an4 d1 d28 d16 d15) ?_
 refine rq ?_;intro gd K hgd hK
 try simp (disch:=first|omega|assumption|rfl) only[go_sem,Nat.zero_add]
 refine Fn.mono (ziY w3 T) ?_
 rintro _ wo ⟨rfl,hEo⟩
 rw[hsh]
 unfold zeE
 simp only
 try simp only[go_sem]
 refine ze7 (cs:=#[vi ns.length,vi us.length,vi 0,vi 0]) rfl rfl rfl rfl (vr0) rfl ?_
 try simp only[go_sem]
 refine hK _ _ ?_;clear hK hgd;clear K;try clear gd
 replace hR3:=hR3.extx hEo
 have hB3':=Ext.at hEo hB3
 refine go trivial ?_
 refine zbq ns.length (fun i σ v=>(σ 0= .pointer (some ⟨b,0,Option.none⟩)∧σ 1=vi T∧σ 4= .pointer (some ⟨w.heap.size,0,Option.none⟩)∧σ 5= .pointer (some ⟨P,0,Option.none⟩)∧σ 18=vi ns.length∧σ 19=vi i)∧Rdr W0 v b ((ns.drop i).map (fun n=>(tx n,false))++us.map fun m=>(numT m,false)) ov 0∧Keep (fun i=>i=b∨i=P) w3 v∧∃nv nvals,v.heap[P]? =some (.cells [vi T,nv,.slice Option.none 0 0,.slice Option.none 0 0,.slice Option.none 0 0].toArray 34 (0,0))∧Own w3.heap.size v 24 nv nvals∧nvals.length=i∧∀j (h:j<nvals.length) (h':j<ns.length),Hz (fun i=>i<w3.heap.size∨some i=nv.ownBlock) v (fun X=>Row X nvals[j] (ns[j].map vs))) ?_ ?_ ?_
 ·exact⟨⟨vr0,vr0,vr0,vr0,vr0,vr0⟩,hR3,hEo.mono fun _ _ h=>h.elim,_,[],hB3',Own.nil _ _ _,rfl,fun j h=>absurd h (by simp)⟩
 ·rintro i σ v hi ⟨r1,r2,r3,r4⟩ ⟨⟨s0,s1,s4,s5,s18,s19⟩,hR,hk,nv,nvals,hB,hown,hnl,hnr⟩
  obtain⟨n,hn⟩:∃n,ns[i]=n:=⟨_,rfl⟩
  rw[List.drop_eq_getElem_cons hi,hn,List.map_cons,List.cons_append]at hR
  have hnm:=hN n (hn▸List.getElem_mem hi)
  have qf:zad v (some ⟨P,1,Option.none⟩)=some nv:=za1 (j:=1) hB rfl
  have hvs:=hk.size
  have hPv:P<v.heap.size:=(Array.getElem?_eq_some_iff.1 hB).1
  refine go (an4 s0 s18 s19 r1) ?_
  refine zaS (fun i=>i==7) [(0,true),(1,true),(2,true),(3,false),(4,false),(5,false),(6,true),(7,false)] ((fun i=>i=b∨w3.heap.size≤i)) mixed (by kernel_rfl) ?_;intro gd K x hgd hx hxe hK;have hx0:=zaP hxe;clear hxe
  have qx:=zab hx0 qf
  have hsx:=hx0.size
  simp (disch:=first|omega|assumption|rfl) only[go_sem,s0,s5,qx,Nat.zero_add]
  refine⟨fun a ha hb'=>by cases ha;dsimp only at hb';omega,?_⟩
  refine Fn.mono (zi5 (hR.extx hx0) (by simp;omega) hnm.2.1 ho hoT) ?_
  rw[hnm.1]
  rintro fv y1 ⟨hrow,hbk,hR1,hk1⟩
  rw[show za6 (if false=true then za6 0 2 else 0) ((n,0):Nm×Int).2=0 from rfl]at hR1
  refine⟨.inr (hk1.mono fun i _ h=> .inl h),?_⟩
  obtain⟨fva,fvc,hfve,_⟩:=id hrow
  simp (disch:=first|omega|assumption|rfl) only[go_sem]
  refine za5 (z:= .slice Option.none 0 0) (v:=fv) rfl rfl rfl rfl (by rw[hfve];rfl) ?_
  intro y2 hy2 hys2 hyo
  refine⟨.inr hy2.keep,?_⟩
  simp (disch:=first|omega|assumption|rfl) only[go_sem]
  have hsy1:=hk1.size
  have hsy2:=hy2.size
  have hownY:=((hown.ext hx0).keep hk1 fun j hj hs=>by have:=(hown.ge hj).1;omega).ext hy2
  refine za2 (e:=24) hownY hyo.row rfl rfl rfl rfl rfl rfl (vr0) (vr0) (fun q hq=>by rw[List.mem_singleton.1 hq];rw[hfve];rfl) (by rw[List.length_singleton];omega) (by decide) (by omega) ?_
  intro nv' y3 hown3 hX3 hK3 hb3
  refine⟨.inr (hK3.mono fun j _ hj=> .inr (hownY.ge hj).1),?_⟩
  simp (disch:=first|omega|assumption|rfl) only[go_sem,s5,Nat.zero_add]
  have hsK:=hK3.size
  obtain⟨a7,c7,hnv7⟩:=hown3.slice
  have hBP3:y3.heap[P]? =_:=(hK3.block P (by omega) (fun h=>by have:=(hownY.ge h).1;omega)).trans ((hy2.block P (by omega) (fun h=>h)).trans ((hk1.block P (by omega) (by omega)).trans (Ext.at hx0 hB)))
  refine zcG (P:=Tryz.prog) (t:=30) (j:=1) (u:=nv') hBP3 (by simp) (by rw[hnv7];rfl) rfl rfl ?_
  intro z hzs hBz hkz
  refine⟨.inl rfl,?_⟩
  simp (disch:=first|omega|assumption|rfl) only[go_sem]
  refine hK _ _ ?_;clear hK hgd;clear K;try clear gd
  simp only[List.set_cons_zero,List.set_cons_succ]at hBz
  have hob:∀i,i<y2.heap.size→(i<w3.heap.size∨some i=nv'.ownBlock)→(i<w3.heap.size∨some i=nv.ownBlock):=fun i hi h=>by
   rcases h with h|h
   ·exact .inl h
   ·rcases hb3 i h with h|h
    ·exact .inr h
    ·omega
  have mv:∀{P':World→Prop},Hz (fun i=>i<w3.heap.size∨some i=nv.ownBlock) v P'→Hz (fun i=>i<w3.heap.size∨some i=nv'.ownBlock) z P':=fun h=>
   ((((h.ext hx0).app hk1 (fun i _ hi=> .inl (by omega)) (fun i _ hi=>hi)).ext hy2).app hK3 (fun i _ hi=> .inr hi) hob).app hkz (fun i _ hi=> .inl (by omega)) (fun i _ hi=>hi)
  have hkf:Keep (fun i=>i=b∨i=P) w3 z:=((((hk.trans (hx0.mono fun _ _ h=>h.elim)).trans (hk1.mono fun _ _ h=> .inl h)).trans (hy2.mono fun _ _ h=>h.elim)).own hK3 fun j hj h=>by have:=(hownY.ge h).1;omega).trans (hkz.mono fun _ _ h=> .inr h)
  have hRz:Rdr W0 z b _ ov 0:=((hR1.extx hy2).keep hK3 fun j hj=>by have:=(hownY.ge hj).1;omega).keep hkz fun j hj=>by omega
  have hoz:=hown3.keep hkz fun j hj hs=>by have:=(hown3.ge hj).1;omega
  refine go (an9 s0 s1 s4 s5 s18 s19 r4 trivial trivial) ?_
  refine⟨rfl,⟨(vq1 s0),(vq1 s1),(vq1 s4),(vq1 s5),(vq1 s18),(vq1 r4)⟩,hRz,hkf,nv',nvals++ [fv],hBz,hoz,by simp;omega,fun j h h'=>?_⟩
  by_cases hj:j<nvals.length
  ·rw[List.getElem_append_left hj]
   exact mv (hnr j hj h')
  ·have hjk:j=i:=by simp at h;omega
   subst hjk
   rw[List.getElem_append_right (by omega)]
   simp only[hnl,Nat.sub_self,List.getElem_cons_zero,hn]
   have hrz:Row z fv (n.map vs):=by
    refine Row.blocks (w:=y3) (Row.blocks (w:=y2) (hrow.ext hy2) fun a n' c hv=>?_) fun a n' c hv=>?_
    ·have h2:=hbk a n' c hv
     exact hK3.block _ (by omega) (fun hh=>by have:=(hown.ge hh).2;omega)
    ·have h2:=hbk a n' c hv
     exact hkz.block _ (by omega) (by omega)
   refine row_hz hrz fun a n' c hv=>?_
   have h2:=hbk a n' c hv
   refine⟨by omega,?_⟩
   rintro(h3|h3)
   ·omega
   ·rcases hb3 _ h3 with h3|h3
    ·have:=(hown.ge h3).2;omega
    ·omega
 rintro σ v r ⟨⟨s0,s1,s4,s5,s18,s19⟩,hR,hk,nmv,nvals,hB,hown,hnl2,hnr⟩
 have hNz:Hz (fun i=>i<w3.heap.size∨some i=(Value.slice Option.none 0 0).ownBlock) v (fun X=>NamesAt X nmv ns):=fun X hX=>by
  refine⟨nvals,(hown.keep hX fun i hi hs=>?_).row,hnl2,fun j h h'=>hnr j h h' X (hX.mono fun i _ hi=>?_)⟩
  ·have:=(hown.ge hi).1
   rcases hs with hs|hs
   ·omega
   ·cases hs
  ·rcases hi with hi|hi
   ·exact .inl hi
   ·cases hi
 rw[List.drop_length,List.map_nil,List.nil_append]at hR
 refine go (an6 s0 s1 s4 s5 s18 (an2 s19 r)) ?_
 refine rq ?_;intro gd K hgd hK
 try simp (disch:=first|omega|assumption|rfl) only[go_sem,s1]
 refine Fn.mono (ziY v T) ?_
 rintro _ vo ⟨rfl,hEo⟩
 rw[hsh]
 unfold zeE
 simp only
 try simp only[go_sem]
 refine ze7 (cs:=#[vi ns.length,vi us.length,vi 0,vi 0]) rfl rfl rfl rfl (vr0) rfl ?_
 try simp only[go_sem]
 refine hK _ _ ?_;clear hK hgd;clear K;try clear gd
 replace hNz:=hNz.ext hEo
 refine go (an4 s0 s1 s4 s5) ?_
 refine zbq us.length (fun i σ v=>(σ 0= .pointer (some ⟨b,0,Option.none⟩)∧σ 1=vi T∧σ 4= .pointer (some ⟨w.heap.size,0,Option.none⟩)∧σ 5= .pointer (some ⟨P,0,Option.none⟩)∧σ 31=vi us.length∧σ 32=vi i)∧Rdr W0 v b ((us.drop i).map fun m=>(numT m,false)) ov 0∧Keep (fun i=>i=b∨i=P) w3 v∧∃nv nvals,v.heap[P]? =some (.cells [vi T,nmv,nv,.slice Option.none 0 0,.slice Option.none 0 0].toArray 34 (0,0))∧Own w3.heap.size v 29 nv nvals∧nvals.length=i∧nvals=(us.take i).map v32∧Hz (fun i=>i<w3.heap.size∨some i=nv.ownBlock) v (fun X=>NamesAt X nmv ns)) ?_ ?_ ?_
 ·exact⟨⟨(vr1 s0),(vr1 s1),(vr1 s4),(vr1 s5),vr0,vr0⟩,hR.extx hEo,hk.trans (hEo.mono fun _ _ h=>h.elim),_,[],Ext.at hEo hB,Own.nil _ _ _,rfl,rfl,hNz⟩
 clear s0 s1 s4 s5 s18 s19 r hR hk hB
 ·rintro i σ v hi ⟨r1,r2,r3,r4⟩ ⟨⟨s0,s1,s4,s5,s18,s19⟩,hR,hk,nv,nvals,hB,hown,hnl,hnr,hNz⟩
  obtain⟨n,hn⟩:∃n,us[i]=n:=⟨_,rfl⟩
  rw[List.drop_eq_getElem_cons hi,hn,List.map_cons]at hR
  have hnm:=hNu n (hn▸List.getElem_mem hi)
  have qf:zad v (some ⟨P,2,Option.none⟩)=some nv:=za1 (j:=2) hB rfl
  have hvs:=hk.size
  have hPv:P<v.heap.size:=(Array.getElem?_eq_some_iff.1 hB).1
  refine go (an4 s0 s18 s19 r1) ?_
  refine zaS (fun i=>i==7) [(0,true),(1,true),(2,true),(3,false),(4,false),(5,false),(6,true),(7,false)] ((fun i=>i=b∨w3.heap.size≤i)) mixed (by kernel_rfl) ?_;intro gd K x hgd hx hxe hK;have hx0:=zaP hxe;clear hxe
  have qx:=zab hx0 qf
  have hsx:=hx0.size
  simp (disch:=first|omega|assumption|rfl) only[go_sem,s0,s5,qx,Nat.zero_add]
  refine⟨fun a ha hb'=>by cases ha;dsimp only at hb';omega,?_⟩
  refine Fn.mono (num_ok hW (hR.extx hx0) (by simp;omega) (by have:=hnm.2;omega) 4294967295 (by decide)) ?_
  rw[hnm.1.1]
  rintro fv y1 ⟨hfv,hR1,hk1⟩
  rw[show za6 (if false=true then za6 0 2 else 0) ((n.toNat,0):Nat×Int).2=0 from rfl]at hR1
  rw[show (((n.toNat,0):Nat×Int).1:Int)=n from hnm.1.2]at hfv
  subst hfv
  refine⟨.inr (hk1.mono fun i _ h=> .inl h),?_⟩
  simp (disch:=first|omega|assumption|rfl) only[go_sem]
  refine za5 (z:=v32 0) rfl rfl rfl rfl rfl ?_
  intro y2 hy2 hys2 hyo
  refine⟨.inr hy2.keep,?_⟩
  simp (disch:=first|omega|assumption|rfl) only[go_sem]
  have hsy1:=hk1.size
  have hsy2:=hy2.size
  have hownY:=((hown.ext hx0).keep hk1 fun j hj hs=>by have:=(hown.ge hj).1;omega).ext hy2
  refine za2 (e:=29) hownY hyo.row rfl rfl rfl rfl rfl rfl (vr0) (vr0) (fun q hq=>by rw[List.mem_singleton.1 hq];rfl) (by rw[List.length_singleton];omega) (by decide) (by omega) ?_
  intro nv' y3 hown3 hX3 hK3 hb3
  refine⟨.inr (hK3.mono fun j _ hj=> .inr (hownY.ge hj).1),?_⟩
  simp (disch:=first|omega|assumption|rfl) only[go_sem,s5,Nat.zero_add]
  have hsK:=hK3.size
  obtain⟨a7,c7,hnv7⟩:=hown3.slice
  have hBP3:y3.heap[P]? =_:=(hK3.block P (by omega) (fun h=>by have:=(hownY.ge h).1;omega)).trans ((hy2.block P (by omega) (fun h=>h)).trans ((hk1.block P (by omega) (by omega)).trans (Ext.at hx0 hB)))
  refine zcG (P:=Tryz.prog) (t:=31) (j:=2) (u:=nv') hBP3 (by simp) (by rw[hnv7];rfl) rfl rfl ?_
  intro z hzs hBz hkz
  refine⟨.inl rfl,?_⟩
  simp (disch:=first|omega|assumption|rfl) only[go_sem]
  refine hK _ _ ?_;clear hK hgd;clear K;try clear gd
  simp only[List.set_cons_zero,List.set_cons_succ]at hBz
  have hob:∀i,i<y2.heap.size→(i<w3.heap.size∨some i=nv'.ownBlock)→(i<w3.heap.size∨some i=nv.ownBlock):=fun i hi h=>by
   rcases h with h|h
   ·exact .inl h
   ·rcases hb3 i h with h|h
    ·exact .inr h
    ·omega
  have mv:∀{P':World→Prop},Hz (fun i=>i<w3.heap.size∨some i=nv.ownBlock) v P'→Hz (fun i=>i<w3.heap.size∨some i=nv'.ownBlock) z P':=fun h=>
   ((((h.ext hx0).app hk1 (fun i _ hi=> .inl (by omega)) (fun i _ hi=>hi)).ext hy2).app hK3 (fun i _ hi=> .inr hi) hob).app hkz (fun i _ hi=> .inl (by omega)) (fun i _ hi=>hi)
  have hkf:Keep (fun i=>i=b∨i=P) w3 z:=((((hk.trans (hx0.mono fun _ _ h=>h.elim)).trans (hk1.mono fun _ _ h=> .inl h)).trans (hy2.mono fun _ _ h=>h.elim)).own hK3 fun j hj h=>by have:=(hownY.ge h).1;omega).trans (hkz.mono fun _ _ h=> .inr h)
  have hRz:Rdr W0 z b _ ov 0:=((hR1.extx hy2).keep hK3 fun j hj=>by have:=(hownY.ge hj).1;omega).keep hkz fun j hj=>by omega
  have hoz:=hown3.keep hkz fun j hj hs=>by have:=(hown3.ge hj).1;omega
  refine go (an9 s0 s1 s4 s5 s18 s19 r4 trivial trivial) ?_
  exact⟨rfl,⟨(vq1 s0),(vq1 s1),(vq1 s4),(vq1 s5),(vq1 s18),(vq1 r4)⟩,hRz,hkf,nv',nvals++ [v32 n],hBz,hoz,by simp;omega,by rw[hnr,zal hi,hn,List.map_append];rfl,mv hNz⟩
 clear hNz hB hR hk s0 s1 s4 s5 s18 s19 r
 rintro σ z r ⟨⟨s0,s1,s4,s5,s18,s19⟩,hR,hk,nuv,uvals,hB,hownU,hul2,hur,hNz⟩
 rw[List.drop_length,List.map_nil]at hR
 rw[List.take_length]at hur
 subst hur
 obtain⟨una,unc,hnuv⟩:=hownU.slice
 obtain⟨_,hnmr,_,_⟩:=hNz.now
 have q5:=zai (n:=5) hB rfl
 have hks:=hk.size
 refine go (an6 s0 s4 s5 s18 s19 r) ?_
 refine rq ?_;intro gd K hgd hK
 try simp (disch:=first|omega|assumption|rfl) only[go_sem,s4,s5,q5]
 have hA5:z.heap[w.heap.size]? =_:=(hk.block _ (by omega) (by omega)).trans (Ext.at (hE2.trans hE3) hA)
 refine zaK (P:=Tryz.prog) (t:=34) (l:=[vi T,nmv,nuv,.slice Option.none 0 0,.slice Option.none 0 0]) hA5 rfl (zcH _ _ _ _ _ hnmr.isOne (by rw[hnuv];rfl) rfl rfl) rfl rfl ?_
 intro w6 hs6 hB6 hk6
 try simp only[go_sem]
 refine hK _ _ ?_;clear hK hgd;clear K;try clear gd
 refine go trivial ?_
 refine zaf (.inr rfl) Tryz.ntmps160 rfl (zaL (x:=⟨w.heap.size,0,Option.none⟩) (k:=5) ((vr1 s4)) rfl rfl (zai hB6 rfl) zae) ?_
 have hE13:=(hE1.trans hE2).trans hE3
 refine⟨⟨nmv,nuv,rfl,(hownU.keep hk6 fun i hi hs=>by have:=(hownU.ge hi).1;omega).mono (by omega),hNz.app hk6 (fun i _ hi=> .inl (by omega)) (fun i _ hi=> .inl (by omega))⟩,hR.keep hk6 fun i hi=>by omega,?_⟩
 exact(((hE13.mono fun _ _ h=>h.elim):Keep (fun i=>i=b) w w3).own hk fun i hi h=>by omega).own hk6 fun i hi h=>by omega
theorem zbZ{d:DatL}(h:zbx d=0):(1≤d.ty∧d.ty≤65535)∧zcI d=true∧(∀n∈d.names,zaX n=0)∧(d.ty=15→d.nums.headD 0≤65535)∧d.raw.length≤1024∧∀t∈d.texts,t.length≤255:=by
 unfold zbx at h
 split at h
 ·cases h
 ·rename_i h1
  split at h
  ·cases h
  ·rename_i h2
   split at h
   ·rename_i n hn
    have:=List.find?_some hn
    simp[h]at this
   ·rename_i hn
    rw[List.find?_eq_none]at hn
    split at h
    ·cases h
    ·rename_i h3
     split at h
     ·cases h
     ·rename_i h4
      refine⟨by omega,by simpa using h2,fun n hm=>by simpa using hn n hm,fun h=>by omega,by omega,fun t ht=>?_⟩
      have h5:¬zey d.texts=true:=fun e=>h4 (.inr e)
      unfold zey at h5
      rw[List.any_eq_true]at h5
      by_cases h6:t.length≤255
      ·exact h6
      ·exact absurd ⟨t,ht,decide_eq_true (by omega)⟩ h5
theorem zf4{c:UInt8}{ps:List Lab}{Q:UInt8→Prop}(hc:Q c)(h:∀p∈ps,∀x∈p,Q x):∀x∈zaU [c] ps,Q x:=fun x hx=>by
 cases ps with
 |nil=>cases hx
 |cons p r=>
  rcases List.mem_append.1 (show x∈p++r.flatMap fun y=>[c]++y from hx) with h1|h1
  ·exact h p (List.mem_cons_self ..) x h1
  ·obtain⟨y,hy,hxy⟩:=List.mem_flatMap.1 h1
   rcases List.mem_append.1 hxy with h2|h2
   ·rw[List.mem_singleton.1 h2];exact hc
   ·exact h y (List.mem_cons_of_mem _ hy) x h2
theorem zhk{c:UInt8}{ps:List Lab}(h0:ps≠ [])(h:∀p∈ps,p≠ []):zaU [c] ps≠ []:=by
 cases ps with
 |nil=>exact absurd rfl h0
 |cons p r=>
  intro e
  have:=List.append_eq_nil_iff.1 (show p++r.flatMap (fun y=>[c]++y)=[] from e)
  exact h p (List.mem_cons_self ..) this.1
theorem zfc{p:Lab}{q:Bool}{r:List (Lab×Bool)}(h:q=true∨p≠ [92,35]):zbH ((p,q)::r)=false:=by
 show decide ((p,q)=(([92,35]:Lab),false))=false
 refine decide_eq_false fun e=>?_
 have e1:=congrArg Prod.fst e
 have e2:=congrArg Prod.snd e
 rcases h with h|h
 ·rw[h]at e2;cases e2
 ·exact h e1
theorem zfd{p:Lab}{r:List (Lab×Bool)}(h:∀c∈p,c≠92):zbH ((p,false)::r)=false:=zfc (.inr fun e=>h 92 (by rw[e];simp) rfl)
theorem text_few{n:Nm}(h:zaX n=0):(za7 n).length≤2000:=by
 have h1:=(zeg h).2
 have h2:=zdZ n
 have h3:∀n:Nm,(n.map fun l=>1+l.length).sum=(n.map List.length).sum+n.length:=fun n=>by
  induction n with
  |nil=>rfl
  |cons l n ih=>simp only[List.map_cons,List.sum_cons,List.length_cons,ih];omega
 have h4:=h3 n
 unfold lenN at h1
 unfold za7
 split
 ·decide
 ·omega
theorem SplC.p{s:Lab}{ps:List Lab}(h:SplC 46 s ps):SplP s ps:=⟨h.sp,h.ct⟩
theorem octP_dec(c:UInt8):octP (Lib.decDigits c.toNat)=zao c:=by
 have hc:=c.toNat_lt
 unfold octP
 rw[zbP (by omega)]
 simp
theorem zge:∀l:List UInt8,zgM 0 (l.map fun c=>Lib.decDigits c.toNat)=0
 | []=>rfl
 |c::l=>by
  have hc:=c.toNat_lt
  have ih:=zge l
  unfold zgM at*
  rw[List.map_cons,List.foldl_cons,zbP (by omega)]
  exact ih
theorem zeK{α β:Type}{f g:α→List β}:∀{l:List α},(∀x∈l,f x=g x)→l.flatMap f=l.flatMap g
 | [],_=>rfl
 |x::l,h=>by rw[List.flatMap_cons,List.flatMap_cons,h x (List.mem_cons_self ..),zeK fun y hy=>h y (List.mem_cons_of_mem _ hy)]
theorem ziL(raw:List UInt8)(h:raw.length=16):(List.range 8).flatMap (fun i=>[raw.getD (2*i) 0,raw.getD (2*i+1) 0])=raw:=by
 iterate 16 (rcases raw with _| ⟨a,raw⟩;· exact absurd h (by simp))
 rcases raw with _| ⟨a,raw⟩
 ·rfl
 ·exact absurd h (by simp)
section
variable {w : World} {wv : Value} {oa : Option Addr} {on oc : Nat} {o : Nm} {d : DatL}
theorem back1(hW:WX w)(hc:zbx d=0)(ht:d.ty=1)(hr:Rows 2 WdC w wv (wF false (zbp hexU d) [] false)):Fn Tryz.prog 134 #[vi d.ty,wv,.slice oa on oc] w (fun v w'=>Ext w w'∧∃cs:List Value,v= .tuple #[.agg cs.toArray,vi 0]∧GD d w.heap.size cs w'):=by
 obtain⟨⟨t1,t2⟩,hf,hnm,_,_,_⟩:=zbZ hc
 obtain⟨h1,h2,h3,h4⟩:=zbm hf (a:=0) (c:=0) (r:=4) (by rw[ht];rfl)
 have h4:=h4 (by decide)
 have e1:=za8 h1
 have e2:=za8 h2
 obtain⟨ps,hps⟩:∃ps,(d.raw.map fun c=>Lib.decDigits c.toNat)=ps:=⟨_,rfl⟩
 have hp4:ps.length=4:=by rw[←hps,List.length_map];omega
 have hpd:∀p∈ps,p≠ []∧p.length≤20∧∀c∈p,digB c=true:=fun p hp=>by
  rw[←hps]at hp
  obtain⟨c,_,rfl⟩:=List.mem_map.1 hp
  have hcl:=c.toNat_lt
  exact⟨zhx _,by have:=zaQ 19 c.toNat (by omega);omega,zbC _⟩
 have hch:∀c∈zaU [46] ps,c≠92∧c≠34∧c≠32:=zf4 (by decide) fun p hp c hc=>by
  have:=zdf ((hpd p hp).2.2 c hc)
  exact⟨this.1,this.2.1,this.2.2.1⟩
 have hne:zaU [46] ps≠ []:=zhk (fun e=>by rw[e]at hp4;cases hp4) fun p hp=>(hpd p hp).1
 have hlen:(zaU [46] ps).length≤1000:=by
  have:=zfg [46] ps
  have h2:=zbG (m:=20) (l:=ps) fun p hp=>(hpd p hp).2.1
  simp at this;omega
 rw[tx_one hf ht,hps,zdh (zdW hne hch)]at hr
 have hsp:SplC 46 (zaU [46] ps) ps:=by
  cases ps with
  |nil=>cases hp4
  |cons p r=>exact zd2 46 r p fun x hx e=>absurd ((hpd x hx).2.2 46 e) (by decide)
 rw[ht]
 refine PkG (by decide) (by decide) hr fun b w1 h=>?_
 rw[if_neg (by rw[zfd fun c hc=>(hch c hc).1];decide)]
 refine Fn.mono (ziP hW h (by omega) hsp.p (by omega) fun p hp=>by have:=(hpd p hp).2.1;omega) ?_
 rintro _ w' ⟨⟨rv,rfl,hown⟩,hR,hk⟩
 rw[if_pos hp4,if_neg (by decide),←hps,zge]at hR
 have hrow:ps.map octP=d.raw.map zao:=by
  rw[←hps,List.map_map]
  exact List.map_congr_left fun c _=>octP_dec c
 rw[hrow]at hown
 exact⟨⟨_,rfl,fun X hX=>⟨_,_,_,_,by rw[ht],by rw[e1];exact zbW X,by rw[e2];exact zbz X,by rw[h3];exact zbz X,zdz hown X hX⟩⟩,hR,hk⟩
theorem back28(hW:WX w)(hc:zbx d=0)(ht:d.ty=28)(hr:Rows 2 WdC w wv (wF false (zbp hexU d) [] false)):Fn Tryz.prog 134 #[vi d.ty,wv,.slice oa on oc] w (fun v w'=>Ext w w'∧∃cs:List Value,v= .tuple #[.agg cs.toArray,vi 0]∧GD d w.heap.size cs w'):=by
 obtain⟨⟨t1,t2⟩,hf,hnm,_,_,_⟩:=zbZ hc
 obtain⟨h1,h2,h3,_⟩:=zbm hf (a:=0) (c:=0) (r:=16) (by rw[ht];rfl)
 have e1:=za8 h1
 have e2:=za8 h2
 obtain⟨h16,htx⟩:=tx_28 hf ht
 obtain⟨ps,hps⟩:∃ps,(List.range 8).map (ziM d.raw)=ps:=⟨_,rfl⟩
 have hp8:ps.length=8:=by rw[←hps];rfl
 have hpd:∀p∈ps,p≠ []∧p.length≤4∧∀c∈p,∃j,j<16∧c=hexD j:=fun p hp=>by
  rw[←hps]at hp
  obtain⟨i,_,rfl⟩:=List.mem_map.1 hp
  unfold ziM
  have g1:=(d.raw.getD (2*i) 0).toNat_lt
  have g2:=(d.raw.getD (2*i+1) 0).toNat_lt
  exact⟨hexU_ne _,zdc 3 _ (by omega),zfk _ _ (Nat.le_refl _)⟩
 have hpc:∀p∈ps,∀c∈p,c≠92∧c≠34∧c≠32∧c≠58∧c∈digs16∧(hexV c).isSome=true:=fun p hp c hc=>by
  obtain⟨j,hj,rfl⟩:=(hpd p hp).2.2 c hc
  obtain⟨a1,a2,a3,a4,a5,a6⟩:=zcz j hj
  exact⟨a4,a5,a6,a3,a2,by rw[a1];rfl⟩
 have hch:∀c∈zaU [58] ps,c≠92∧c≠34∧c≠32:=zf4 (by decide) fun p hp c hc=>by
  have:=hpc p hp c hc
  exact⟨this.1,this.2.1,this.2.2.1⟩
 have hne:zaU [58] ps≠ []:=zhk (fun e=>by rw[e]at hp8;cases hp8) fun p hp=>(hpd p hp).1
 have hlen:(zaU [58] ps).length≤1000:=by
  have:=zfg [58] ps
  have h2:=zbG (m:=4) (l:=ps) fun p hp=>(hpd p hp).2.1
  simp at this;omega
 rw[htx,hps,zdh (zdW hne hch)]at hr
 have hsp:SplC 58 (zaU [58] ps) ps:=by
  cases ps with
  |nil=>cases hp8
  |cons p r=>exact zd2 58 r p fun x hx e=>(hpc x hx 58 e).2.2.2.1 rfl
 rw[ht]
 refine PkG (by decide) (by decide) hr fun b w1 h=>?_
 rw[if_neg (by rw[zfd fun c hc=>(hch c hc).1];decide)]
 refine Fn.mono (own28_ok hW h (by omega) hsp hp8 fun p hp=>⟨(hpd p hp).1,(hpd p hp).2.1,fun c hc=>(hpc p hp c hc).2.2.2.2⟩) ?_
 rintro _ w' ⟨⟨rv,rfl,hown⟩,hR,hk⟩
 have hrow:ps.flatMap zf0=d.raw:=by
  rw[←ziL d.raw h16,←hps,List.flatMap_map]
  refine zeK fun i _=>?_
  have g1:=(d.raw.getD (2*i) 0).toNat_lt
  have g2:=(d.raw.getD (2*i+1) 0).toNat_lt
  unfold zf0 ziM
  rw[zhn _ _ (Nat.le_refl _)]
  rw[show ((d.raw.getD (2*i) 0).toNat*256+(d.raw.getD (2*i+1) 0).toNat) / 256=(d.raw.getD (2*i) 0).toNat by omega,show((d.raw.getD (2*i) 0).toNat*256+(d.raw.getD (2*i+1) 0).toNat) % 256=(d.raw.getD (2*i+1) 0).toNat by omega]
  simp
 rw[hrow]at hown
 exact⟨⟨_,rfl,fun X hX=>⟨_,_,_,_,by rw[ht],by rw[e1];exact zbW X,by rw[e2];exact zbz X,by rw[h3];exact zbz X,zdz hown X hX⟩⟩,hR,hk⟩
theorem back16(hc:zbx d=0)(ht:d.ty=16)(hr:Rows 2 WdC w wv (wF false (zbp hexU d) [] false)):Fn Tryz.prog 134 #[vi d.ty,wv,.slice oa on oc] w (fun v w'=>Ext w w'∧∃cs:List Value,v= .tuple #[.agg cs.toArray,vi 0]∧GD d w.heap.size cs w'):=by
 obtain⟨⟨t1,t2⟩,hf,hnm,_,_,htl⟩:=zbZ hc
 obtain⟨h1,h2,h3,h4⟩:=zdq hf
 unfold txD at h3
 unfold rwD at h4
 rw[ht]at h1 h2 h3 h4
 have e1:=za8 h1
 have e2:=za8 h2
 have e4:=za8 (show(d.raw.length:Int)=0 from h4)
 rw[if_pos (by decide)]at h3
 rw[tx_16 hf ht,zij]at hr
 rw[ht]
 refine PkG (by decide) (by decide) hr fun b w1 h=>?_
 have hne:d.texts≠ []:=fun e=>by rw[e,List.length_nil]at h3;omega
 have hmk:zbH (d.texts.map fun t=>(quoL t,true))=false:=by
  cases hx:d.texts with
  |nil=>exact absurd hx hne
  |cons t r=>exact zfc (.inl rfl)
 rw[if_neg (by rw[hmk];decide)]
 refine Fn.mono (own16_ok h (by rw[List.length_map];omega) (by rw[List.length_map];omega) fun x hx=>?_) ?_
 ·obtain⟨t,htm,rfl⟩:=List.mem_map.1 hx
  have:=htl t htm
  have h5:=zdO t
  show(quoL t).length≤_
  omega
 rintro _ w' ⟨⟨tv,rfl,hown⟩,hR,hk⟩
 have hun:∀t,unD [] 0 (quoL t) []=(t,0):=fun t=>by rw[zir,List.nil_append]
 have herr:zgd 0 (d.texts.map fun t=>(quoL t,true))=0:=by
  have:∀l:List Lab,(∀t∈l,t.length≤255)→zgd 0 (l.map fun t=>(quoL t,true))=0:=fun l=>by
   induction l with
   |nil=>intro _;rfl
   |cons t l ih=>
    intro h
    have h6:errT (quoL t)=0:=by
     unfold errT
     rw[hun]
     have:=h t (List.mem_cons_self ..)
     show(if (0:Int)=0∧255<t.length then(3:Int) else 0)=0
     rw[if_neg (by omega)]
    have ih':=ih fun x hx=>h x (List.mem_cons_of_mem _ hx)
    unfold zgd at*
    rw[List.map_cons,List.foldl_cons,h6]
    exact ih'
  exact this _ htl
 rw[herr]at hR
 have hrow:((d.texts.map fun t=>(quoL t,true)).map fun x=>untT x.1)=d.texts:=by
  rw[List.map_map]
  have:∀t∈d.texts,((fun x:Lab×Bool=>untT x.1)∘fun t=>(quoL t,true)) t=t:=fun t _=>by
   show(unD [] 0 (quoL t) []).1=t
   rw[hun]
  rw[List.map_congr_left this,List.map_id']
 rw[hrow]at hown
 exact⟨⟨_,rfl,fun X hX=>⟨_,_,_,_,by rw[ht],by rw[e1];exact zbW X,by rw[e2];exact zbz X,zdz hown X hX,by rw[e4];exact zbz X⟩⟩,hR,hk⟩
theorem back15(hW:WX w)(ho:Row w (.slice oa on oc) (o.map vs))(hoT:NmT o)(hc:zbx d=0)(hT:DatT d)(ht:d.ty=15)(hr:Rows 2 WdC w wv (wF false (zbp hexU d) [] false)):Fn Tryz.prog 134 #[vi d.ty,wv,.slice oa on oc] w (fun v w'=>Ext w w'∧∃cs:List Value,v= .tuple #[.agg cs.toArray,vi 0]∧GD d w.heap.size cs w'):=by
 obtain⟨_,hf,hnm,hmx,_,_⟩:=zbZ hc
 obtain⟨m,n,hm,hn,htx⟩:=tx_15 hf ht
 obtain⟨h1,h2,h3,h4⟩:=zbm hf (a:=1) (c:=1) (r:=0) (by rw[ht];rfl)
 have e4:=za8 (h4 (by decide))
 have hm2:m≤65535:=by have:=hmx ht;rw[hm]at this;exact this
 have hm1:=hT.s.nv m (by rw[hm];simp)
 have hn0:=hnm n (by rw[hn];simp)
 have hnS:=hT.s.names n (by rw[hn];simp)
 have hx:=text_few hn0
 have hnl:=ze9 hm1.2
 obtain⟨k,rfl⟩:∃k:Nat,m=(k:Int):=⟨m.toNat,by omega⟩
 have hdk:decP 65535 (numT (k:Int))=(k,0):=zbP (by omega)
 have hd:∀c∈numT (k:Int),c≠92:=fun c hc=>(zdf (zbC k c hc)).1
 rw[htx,List.append_assoc,zdU (show Tok (numT (k:Int)) from zeX k),zdh (zg5 n)]at hr
 rw[ht]
 refine PkG (by decide) (by decide) hr fun b w1 h=>?_
 rw[if_neg (by rw[zfd hd];decide)]
 refine Fn.mono (own15_ok (e1:=0) (e2:=0) hW h (by have:(numT (k:Int)).length≤20:=hnl;omega) (by omega) ho hoT (by rw[hdk];rfl) (by rw[zc7 hn0];rfl)) ?_
 rintro _ w' ⟨⟨nmv,nuv,nv,rfl,a1,a2,a3,a4⟩,hR,hk⟩
 rw[show (zaI (za7 n) o).1=n from by rw[zc7 hn0]]at a3
 rw[hdk]at a1
 refine⟨⟨_,rfl,fun X hX=>⟨_,_,_,_,by rw[ht],?_,by rw[hm];exact zdz a1 X hX,by rw[h3];exact zbz X,by rw[e4];exact zbz X⟩⟩,hR,hk⟩
 rw[hn]
 exact ziW (zdz a2 X hX) (a3.blocks fun a n c hv=>hX.block _ (a4 a n c hv).2 (by have:=(a4 a n c hv).1;omega))
theorem backN(hW:WX w)(ho:Row w (.slice oa on oc) (o.map vs))(hoT:NmT o)(hc:zbx d=0)(hT:DatT d)(ht:d.ty=2∨d.ty=5∨d.ty=12∨d.ty=39∨d.ty=6)(hr:Rows 2 WdC w wv (wF false (zbp hexU d) [] false)):Fn Tryz.prog 134 #[vi d.ty,wv,.slice oa on oc] w (fun v w'=>Ext w w'∧∃cs:List Value,v= .tuple #[.agg cs.toArray,vi 0]∧GD d w.heap.size cs w'):=by
 obtain⟨⟨t1,t2⟩,hf,hnm,_,_,_⟩:=zbZ hc
 obtain⟨a,c,hsh,hac⟩:∃a c:Int,zaC d.ty=(a,c,0,0)∧1≤a∧a≤5∧0≤c∧c≤5:=by
  rcases ht with h|h|h|h|h<;>rw[h]
  ·exact⟨1,0,rfl,by decide⟩
  ·exact⟨1,0,rfl,by decide⟩
  ·exact⟨1,0,rfl,by decide⟩
  ·exact⟨1,0,rfl,by decide⟩
  ·exact⟨2,5,rfl,by decide⟩
 obtain⟨h1,h2,h3,h4⟩:=zbm hf hsh
 have e4:=za8 (h4 (by decide))
 have htk:∀p∈d.names.map za7++d.nums.map numT,Tok p:=fun p hp=>by
  rcases List.mem_append.1 hp with h|h
  ·obtain⟨n,_,rfl⟩:=List.mem_map.1 h
   exact zg5 n
  ·obtain⟨m,_,rfl⟩:=List.mem_map.1 h
   exact zeX m.toNat
 rw[tx_names hf ht,zim _ htk,List.map_append,List.map_map,List.map_map]at hr
 refine PkG t1 t2 hr fun b w1 h=>?_
 have hmk:zbH (d.names.map ((fun p=>(p,false))∘za7)++d.nums.map ((fun p=>(p,false))∘numT))=false:=by
  cases hx:d.names with
  |nil=>rw[hx]at h1;simp at h1;omega
  |cons n r=>
   refine zfc (.inr fun e=>?_)
   have h5:(za7 n).getLast? =some 46:=by
    unfold za7
    split
    ·rfl
    ·rename_i hn
     have:∀n:Nm,n≠ []→(n.flatMap fun l=>zas l++ [46]).getLast? =some 46:=fun n=>by
      induction n with
      |nil=>intro h;exact absurd rfl h
      |cons l n ih=>
       intro _
       rw[List.flatMap_cons]
       cases n with
       |nil=>simp
       |cons m n=>rw[List.getLast?_append,ih (by simp)];rfl
     exact this n hn
   have e2:za7 n=[92,35]:=e
   rw[e2]at h5
   cases h5
 rw[if_neg (by rw[hmk];decide)]
 refine Fn.mono (ziO (tx:=za7) hW (by omega) (by rw[hsh,←h1,←h2]) (by omega) (by omega) h ho hoT (fun n hn=>?_) (fun m hm=>?_)) ?_
 ·have:=hT.s.names n hn
  exact⟨zc7 (hnm n hn),by have:=zdY this.1 this.2;omega,trivial⟩
 ·have:=hT.s.nv m hm
  exact⟨⟨zbP (by omega),by omega⟩,by have:=ze9 this.2;omega⟩
 rintro _ w' ⟨⟨nmv,nuv,rfl,a1,a2⟩,hR,hk⟩
 refine⟨⟨_,rfl,fun X hX=>⟨_,_,_,_,rfl,a2 X hX,zdz a1 X hX,by rw[h3];exact zbz X,by rw[e4];exact zbz X⟩⟩,hR,hk⟩
theorem backA(hW:WX w)(hc:zbx d=0)(ht:¬(d.ty=1∨d.ty=28∨d.ty=16∨d.ty=15∨d.ty=2∨d.ty=5∨d.ty=12∨d.ty=39∨d.ty=6))(hr:Rows 2 WdC w wv (wF false (zbp hexU d) [] false)):Fn Tryz.prog 134 #[vi d.ty,wv,.slice oa on oc] w (fun v w'=>Ext w w'∧∃cs:List Value,v= .tuple #[.agg cs.toArray,vi 0]∧GD d w.heap.size cs w'):=by
 obtain⟨⟨t1,t2⟩,hf,hnm,_,hrl,_⟩:=zbZ hc
 have hsh:zaC d.ty=(0,0,0, -1):=by
  unfold zaC
  rw[if_neg (by omega),if_neg (by omega),if_neg (by omega),if_neg (by omega),if_neg (by omega),if_neg (by omega)]
 obtain⟨h1,h2,h3,_⟩:=zbm hf hsh
 have e1:=za8 h1
 have e2:=za8 h2
 have hd:d=rawD d.ty d.raw:=by
  cases d
  simp only at e1 e2 h3
  rw[e1,e2,h3]
  rfl
 obtain⟨rest,hrest⟩:∃r,(if 0<d.raw.length then [(hexT d.raw,false)] else [])=r:=⟨_,rfl⟩
 have hmt:Tok [92,35]:=⟨by simp,fun s w=>zeW 35 s w false⟩
 have hhx:∀c∈hexT d.raw,c≠92∧c≠34∧c≠32∧c∈digs16:=fun c hc=>by
  obtain⟨x,_,hx⟩:=List.mem_flatMap.1 hc
  have hxl:=x.toNat_lt
  simp only[hexB,List.mem_cons,List.not_mem_nil,or_false]at hx
  rcases hx with rfl|rfl
  ·have:=zcz (x.toNat / 16) (by omega);exact⟨this.2.2.2.1,this.2.2.2.2.1,this.2.2.2.2.2,this.2.1⟩
  ·have:=zcz (x.toNat % 16) (by omega);exact⟨this.2.2.2.1,this.2.2.2.2.1,this.2.2.2.2.2,this.2.1⟩
 have htk:wF false (zbp hexU d) [] false=([92,35],false)::(Lib.decDigits d.raw.length,false)::rest:=by
  rw[tx_any hf ht,←hrest]
  by_cases h0:0<d.raw.length
  ·rw[if_pos h0,if_pos h0]
   have e:([92,35,32]++Lib.decDigits d.raw.length++ [32])++hexT d.raw=[92,35]++([32]++(Lib.decDigits d.raw.length++([32]++hexT d.raw))):=by simp
   have hne:hexT d.raw≠ []:=fun e=>by have:=zcy d.raw;rw[e]at this;simp at this;omega
   rw[e,zdU hmt,zdU (zeX _),zdh (zdW hne fun c hc=>⟨(hhx c hc).1,(hhx c hc).2.1,(hhx c hc).2.2.1⟩)]
  ·rw[if_neg h0,if_neg h0]
   have hr0:d.raw=[]:=List.length_eq_zero_iff.1 (by omega)
   have e:([92,35,32]++Lib.decDigits d.raw.length++ [])++hexT d.raw=[92,35]++([32]++Lib.decDigits d.raw.length):=by rw[hr0];simp[hexT]
   rw[e,zdU hmt,zdh (zeX _)]
 rw[htk]at hr
 have hcat:catW rest=hexT d.raw:=by
  rw[←hrest]
  by_cases h0:0<d.raw.length
  ·rw[if_pos h0];simp[catW]
  ·rw[if_neg h0,List.length_eq_zero_iff.1 (show d.raw.length=0 by omega)];rfl
 have hdl:=zaQ 19 d.raw.length (by omega)
 refine PkG t1 t2 hr fun b w1 h=>?_
 rw[if_pos (show zbH _=true from rfl)]
 have hrs:∀x∈rest,x=(hexT d.raw,false):=fun x hx=>by
  rw[←hrest]at hx
  split at hx
  ·exact List.mem_singleton.1 hx
  ·cases hx
 have hrl2:rest.length≤1:=by rw[←hrest];split<;>simp
 have hpr:Pairs (catW rest) d.raw:=by
  rw[hcat]
  refine⟨zcy _,fun i hi k1 k2=>?_⟩
  have:∀(l:List UInt8) (i:Nat) (h:i<l.length),(hexT l)[2*i]? =some (hexD (l[i].toNat / 16))∧(hexT l)[2*i+1]? =some (hexD (l[i].toNat % 16)):=fun l=>by
   induction l with
   |nil=>intro i h;simp at h
   |cons c l ih=>
    intro i h
    have e:hexT (c::l)=hexD (c.toNat / 16)::hexD (c.toNat % 16)::hexT l:=rfl
    cases i with
    |zero=>rw[e];exact⟨rfl,rfl⟩
    |succ j=>
     have:=ih j (by simpa using h)
     rw[e,show 2*(j+1)=2*j+1+1 by omega]
     simpa using this
  obtain⟨g1,g2⟩:=this d.raw i hi
  have hcl:=d.raw[i].toNat_lt
  rw[List.getElem?_eq_getElem k1]at g1
  rw[List.getElem?_eq_getElem k2]at g2
  rw[Option.some.inj g1,Option.some.inj g2]
  exact⟨_,_,(zcz _ (by omega)).1,(zcz _ (by omega)).1,by omega⟩
 refine Fn.mono (any_ok (n:=d.raw.length) hW h d.ty (by rw[hsh];decide) (by omega) (by omega) (zbP (by omega)) hrl (fun x hx=>?_) (by rw[hcat];exact zg3 fun c hc=>(hhx c hc).2.2.2) (by rw[hcat];exact zcy _) hpr) ?_
 ·rw[hrs x hx]
  have:=zcy d.raw
  exact⟨rfl,by show(hexT d.raw).length≤_;omega⟩
 rintro _ w' ⟨⟨rv,rfl,hown⟩,hR,hk⟩
 rw[←hd,hc]at hR
 exact⟨⟨_,rfl,fun X hX=>⟨_,_,_,_,rfl,by rw[e1];exact zbW X,by rw[e2];exact zbz X,by rw[h3];exact zbz X,zdz hown X hX⟩⟩,hR,hk⟩
theorem back_ok(hW:WX w)(ho:Row w (.slice oa on oc) (o.map vs))(hoT:NmT o)(hc:zbx d=0)(hT:DatT d)(hr:Rows 2 WdC w wv (wF false (zbp hexU d) [] false)):Fn Tryz.prog 134 #[vi d.ty,wv,.slice oa on oc] w (fun v w'=>Ext w w'∧∃cs:List Value,v= .tuple #[.agg cs.toArray,vi 0]∧GD d w.heap.size cs w'):=by
 by_cases h1:d.ty=1
 ·exact back1 hW hc h1 hr
 by_cases h28:d.ty=28
 ·exact back28 hW hc h28 hr
 by_cases h16:d.ty=16
 ·exact back16 hc h16 hr
 by_cases h15:d.ty=15
 ·exact back15 hW ho hoT hc hT h15 hr
 by_cases hn:d.ty=2∨d.ty=5∨d.ty=12∨d.ty=39∨d.ty=6
 ·exact backN hW ho hoT hc hT hn hr
 ·exact backA hW hc (by omega) hr
end
def prnB(c:UInt8):Bool:=decide (32≤c.toNat) && decide (c.toNat<127)
def Prn(s:Lab):Prop:=∀c∈s,prnB c=true
theorem Prn.app{s t:Lab}(h:Prn s)(k:Prn t):Prn (s++t):=fun c hc=>(List.mem_append.1 hc).elim (h c) (k c)
def zjQ:Lab→Bool
 | []=>true
 |92::_::r=>zjQ r
 |c::r=>!stopsL.contains c && c !=92 && zjQ r
theorem zhB:∀(k:Nat) (p:Lab),p.length≤k→zjQ p=true→zdK p
 |_,[],_,_=> .nil
 |0,_::_,h,_=>by simp at h
 |k+1,c::r,hl,h=>by
  by_cases hc:c=92
  ·subst hc
   cases r with
   |nil=>exact absurd h (by decide)
   |cons d r=>exact .pair d r (zhB k r (by simp at hl;omega) h)
  ·have h2:(!stopsL.contains c && c !=92 && zjQ r)=true:=by
    unfold zjQ at h
    split at h
    ·rename_i e;cases e
    ·rename_i e;injection e with e;exact absurd e hc
    ·rename_i e;injection e with e1 e2;rw[e1,e2];exact h
   simp only[Bool.and_eq_true,Bool.not_eq_true',bne_iff_ne]at h2
   refine .one c r (fun hm=>?_) hc (zhB k r (by simp at hl;omega) h2.2)
   have:=List.contains_iff_mem.2 hm
   rw[h2.1.1]at this;cases this
structure TkB(p:Lab):Prop where
 t:Tok p
 b:zdK p
 p:Prn p
def plnB(c:UInt8):Bool:=prnB c && !stopsL.contains c && c !=92
theorem zdi{p:Lab}(h0:p≠ [])(h:∀c∈p,plnB c=true):TkB p:=by
 have key:∀c,plnB c=true→prnB c=true∧(c∉stopsL)∧c≠92:=fun c h=>by
  unfold plnB at h
  simp only[Bool.and_eq_true,Bool.not_eq_true',bne_iff_ne]at h
  exact⟨h.1.1,fun hm=>(by have:=List.contains_iff_mem.2 hm;rw[h.1.2]at this;cases this),h.2⟩
 refine⟨zdW h0 fun c hc=>?_,?_,fun c hc=>(key c (h c hc)).1⟩
 ·obtain⟨_,h1,h2⟩:=key c (h c hc)
  exact⟨h2,(fun e=>h1 (by rw[e];decide)),fun e=>h1 (by rw[e];decide)⟩
 ·have:∀q:Lab,(∀c∈q,plnB c=true)→zdK q:=fun q=>by
   induction q with
   |nil=>intro _;exact .nil
   |cons c q ih=>intro h;exact .one c q (key c (h c (List.mem_cons_self ..))).2.1 (key c (h c (List.mem_cons_self ..))).2.2 (ih fun x hx=>h x (List.mem_cons_of_mem _ hx))
  exact this p h
theorem zgR{c:UInt8}(h:digB c=true):plnB c=true:=zdv (P:=fun c=>digB c=true→plnB c=true) (by decide+kernel) c h
theorem zis{p:Lab}(h:TkB p):Toks p [(p,false)]:=by
 have:=Toks.word p [] [] h.t.1 h.b (.inl rfl) .nil
 rwa [List.append_nil]at this
theorem zcZ{p s:Lab}{ws:List (Lab×Bool)}(h:TkB p)(hs:Toks s ws):Toks (p++([32]++s)) ((p,false)::ws):=Toks.word p (32::s) ws h.t.1 h.b (.inr ⟨32,s,rfl,by decide⟩) (.blank 32 s ws (.inl rfl) hs)
def ixB(q:Nat→Bool)(n:Nat):Int:=match (List.range n).find? q with
 |some k=>(k:Int)
 |Option.none=> -1
theorem zjg{q:Nat→Bool}{n i:Nat}(hi:i<n)(hq:q i=true)(hl:∀j,j<i→q j=false):ixB q n=(i:Int):=by
 have:(List.range n).find? q=some i:=by
  rw[List.find?_range_eq_some]
  exact⟨hq,List.mem_range.2 hi,fun j hj=>by rw[hl j hj];rfl⟩
 unfold ixB
 rw[this]
theorem zhl{q:Nat→Bool}{n:Nat}(hl:∀j,j<n→q j=false):ixB q n= -1:=by
 have:(List.range n).find? q=Option.none:=by
  rw[List.find?_eq_none]
  intro x hx
  rw[hl x (List.mem_range.1 hx)];decide
 unfold ixB
 rw[this]
theorem IxFil_ok{w:World}{a:Option Addr}{n c:Nat}{N:FuncId}{cap:Value}{q:Nat→Bool}(hN:zah Tryz.prog N=true)(hn:n≤1000000000)(hg:∀i,i<n→∃cs:List Value,zaq w (adr a (i*2)) 2=some cs∧∀v,Ext w v→Fn Tryz.prog N #[.agg cs.toArray,cap] v (fun u v'=>u= .bool (q i)∧Ext v v')):
  Fn Tryz.prog 39 #[.slice a n c,.func (.func N) #[] #[cap]] w (fun u w'=>u=vi (ixB q n)∧Ext w w'):=by
 refine enter Tryz.func39 Tryz.ntmps39 rfl rfl ?_
 refine go trivial ?_
 refine zbq n (fun i σ v=>(σ 0= .slice a n c∧σ 1= .func (.func N) #[] #[cap]∧σ 7=vi n∧σ 8=vi i)∧Ext w v∧∀j,j<i→q j=false) ?_ ?_ ?_
 ·exact⟨⟨vr0,vr0,vr0,vr0⟩,Keep.refl _ _,fun j h=>by omega⟩
 ·rintro i σ v hi r ⟨⟨s0,s1,s7,s8⟩,hE,hlow⟩
  obtain⟨cs,g0,hF⟩:=hg i hi
  have g:=zaj hE g0
  obtain⟨xa,rfl⟩:=Option.isSome_iff_exists.1 (zaO g)
  obtain⟨xi,hxi⟩:∃xi,adr (some xa) (i*2)=some xi:=⟨_,rfl⟩
  rw[hxi]at g
  have hi0:(0:Int)≤(i:Int):=by omega
  have hi1:(i:Int)<(n:Int):=by omega
  have hi2:(i:Int)+1=((i+1:Nat):Int):=by push_cast;rfl
  refine go (an5 s0 s1 s7 s8 r) ?_
  refine rc (an8 s0 s1 s8 g hi0 hi1 hxi hN) (hF v hE) ?_
  rintro _ v1 ⟨rfl,hE1⟩
  cases hq:q i with
  |true=>
   refine rgo (an2 s0 s8) ?_
   refine zaf (.inr rfl) Tryz.ntmps39 rfl (zac ((vr1 s8)) zae) ?_
   exact⟨by rw[zjg hi hq hlow];rfl,hE.trans hE1⟩
  |false=>
   refine rgo (an5 s0 s1 s7 s8 hi2) ?_
   refine⟨rfl,⟨(vq1 s0),(vq1 s1),(vq1 s7),(vq1 hi2)⟩,hE.trans hE1,fun j hj=>?_⟩
   by_cases e:j=i
   ·rw[e];exact hq
   ·exact hlow j (by omega)
 ·rintro σ v r ⟨⟨s0,s1,s7,s8⟩,hE,hlow⟩
  refine go (an5 s0 s1 s7 s8 r) ?_
  refine zaf (.inr rfl) Tryz.ntmps39 rfl (zac (vr0) zae) ?_
  exact⟨by rw[zhl hlow];rfl,hE⟩
theorem IxWrd_ok{w:World}{a:Option Addr}{n c:Nat}{N:FuncId}{q:Nat→Bool}(hN:zah Tryz.prog N=true)(hn:n≤1000000000)(hg:∀i,i<n→∃cs:List Value,zaq w (adr a (i*2)) 2=some cs∧∀v,Ext w v→Fn Tryz.prog N #[.agg cs.toArray] v (fun u v'=>u= .bool (q i)∧Ext v v')):
  Fn Tryz.prog 164 #[.slice a n c,.func (.func N) #[] #[]] w (fun u w'=>u=vi (ixB q n)∧Ext w w'):=by
 refine enter Tryz.func164 Tryz.ntmps164 rfl rfl ?_
 refine go trivial ?_
 refine zbq n (fun i σ v=>(σ 0= .slice a n c∧σ 1= .func (.func N) #[] #[]∧σ 7=vi n∧σ 8=vi i)∧Ext w v∧∀j,j<i→q j=false) ?_ ?_ ?_
 ·exact⟨⟨vr0,vr0,vr0,vr0⟩,Keep.refl _ _,fun j h=>by omega⟩
 ·rintro i σ v hi r ⟨⟨s0,s1,s7,s8⟩,hE,hlow⟩
  obtain⟨cs,g0,hF⟩:=hg i hi
  have g:=zaj hE g0
  obtain⟨xa,rfl⟩:=Option.isSome_iff_exists.1 (zaO g)
  obtain⟨xi,hxi⟩:∃xi,adr (some xa) (i*2)=some xi:=⟨_,rfl⟩
  rw[hxi]at g
  have hi0:(0:Int)≤(i:Int):=by omega
  have hi1:(i:Int)<(n:Int):=by omega
  have hi2:(i:Int)+1=((i+1:Nat):Int):=by push_cast;rfl
  refine go (an5 s0 s1 s7 s8 r) ?_
  refine rc (an8 s0 s1 s8 g hi0 hi1 hxi hN) (hF v hE) ?_
  rintro _ v1 ⟨rfl,hE1⟩
  cases hq:q i with
  |true=>
   refine rgo (an2 s0 s8) ?_
   refine zaf (.inr rfl) Tryz.ntmps164 rfl (zac ((vr1 s8)) zae) ?_
   exact⟨by rw[zjg hi hq hlow];rfl,hE.trans hE1⟩
  |false=>
   refine rgo (an5 s0 s1 s7 s8 hi2) ?_
   refine⟨rfl,⟨(vq1 s0),(vq1 s1),(vq1 s7),(vq1 hi2)⟩,hE.trans hE1,fun j hj=>?_⟩
   by_cases e:j=i
   ·rw[e];exact hq
   ·exact hlow j (by omega)
 ·rintro σ v r ⟨⟨s0,s1,s7,s8⟩,hE,hlow⟩
  refine go (an5 s0 s1 s7 s8 r) ?_
  refine zaf (.inr rfl) Tryz.ntmps164 rfl (zac (vr0) zae) ?_
  exact⟨by rw[zhl hlow];rfl,hE⟩
theorem zj6{w:World}{a:Option Addr}{n c:Nat}{N:FuncId}{q:Nat→Bool}(hN:zah Tryz.prog N=true)(hn:n≤1000000000)(hg:∀i,i<n→∃cs:List Value,zaq w (adr a (i*2)) 2=some cs∧∀v,Ext w v→Fn Tryz.prog N #[.agg cs.toArray] v (fun u v'=>u= .bool (q i)∧Ext v v')):
  Fn Tryz.prog 138 #[.slice a n c,.func (.func N) #[] #[]] w (fun u w'=>u= .bool (decide (0≤ixB q n))∧Ext w w'):=by
 refine enter Tryz.func138 Tryz.ntmps138 rfl rfl ?_
 refine go trivial ?_
 refine rc trivial (IxWrd_ok hN hn hg) ?_
 rintro _ w1 ⟨rfl,hE1⟩
 refine rgo trivial ?_
 refine rt0 Tryz.ntmps138 ?_
 exact⟨rfl,hE1⟩
structure LdS where
 path:Lab
 line:Int
 origin:Nm
 owner:Option Nm
 ttl:Option Int
 last:Option Int
 out:List RecL
 reads:List Lab
 many:Int
structure FltL where
 path:Lab
 line:Int
 err:Int
def zdy(cs:List Value)(x:Lab×Lab):Prop:=cs=[vs x.1,vs x.2]
def gR(cs:List Value)(x:RecL×List Value):Prop:=cs=x.2∧cs.length=7∧∀q∈cs,one q=true
theorem zhp:zgU 7 gR:=⟨fun h=>h.2.1,fun h=>h.2.2⟩
def MutL(D:Nat→Prop)(b:Nat)(ov rv:Value):Nat→Prop:=fun i=>i=b∨some i=ov.ownBlock∨some i=rv.ownBlock∨D i
def OwnerZ(M:Nat→Prop)(w:World)(v:Value):Option Nm→Prop
 |some n=>Hz M w (fun X=>Row X v (n.map vs))
 |Option.none=>v= .slice Option.none 0 0
theorem OwnerZ.app{M M' T:Nat→Prop}{w x:World}{v:Value}{o:Option Nm}(h:OwnerZ M w v o)(hk:Keep T w x)(hT:∀i,i<w.heap.size→T i→M i)(hM:∀i,i<w.heap.size→M' i→M i):OwnerZ M' x v o:=by
 cases o with
 |none=>exact h
 |some n=>exact Hz.app h hk hT hM
theorem OwnerZ.one{M:Nat→Prop}{w:World}{v:Value}{o:Option Nm}(h:OwnerZ M w v o):one v=true:=by
 cases o with
 |none=>rw[show v=_ from h];rfl
 |some n=>exact(Hz.now h).isOne
def zhy(fv ov rv orv owv:Value)(st:LdS):List Value:=[fv,ov,rv,vi st.many,vs st.path,vi st.line,orv,owv,.bool st.owner.isSome,.int .u32 (st.ttl.getD 0),.bool st.ttl.isSome,.int .u32 (st.last.getD 0),.bool st.last.isSome]
structure LX(D:Nat→Prop)(B:Nat)(w:World)(b:Nat)(fs:Value→World→Prop)(st:LdS)(fv ov rv orv owv:Value)(G:List (RecL×List Value)):Prop where
 h:w.heap[b]? =some (.cells (zhy fv ov rv orv owv st).toArray 85 (0,0))
 lt:b<B
 le:B≤w.heap.size
 oo:Owns 7 gR B w 36 ov G
 ow:Own B w 9 rv (st.reads.map vs)
 d:∀i,some i=ov.ownBlock→some i≠rv.ownBlock
 dd:∀i,D i→b<i∧i<w.heap.size∧some i≠ov.ownBlock∧some i≠rv.ownBlock
 ol:st.out=G.map Prod.fst
 fr:∀x∈G,Hz (MutL D b ov rv) w (fun X=>RecAt X x.2 x.1)
 ff:Hz (MutL D b ov rv) w (fs fv)
 fo:Hz (MutL D b ov rv) w (fun X=>Row X orv (st.origin.map vs))
 fw:OwnerZ (MutL D b ov rv) w owv st.owner
 ot:NmT st.origin
def LdX(D:Nat→Prop)(B:Nat)(w:World)(b:Nat)(fs:Value→World→Prop)(st:LdS):Prop:=∃fv ov rv orv owv G,LX D B w b fs st fv ov rv orv owv G
def zaT(D:Nat→Prop)(b:Nat)(w x:World):Prop:=Keep (fun i=>b≤i∧¬D i) w x
theorem ziD{M:Nat→Prop}{w x:World}{v:Value}{l:List Value}(hr:Row x v l)(hb:BlkB w.heap.size x v)(hM:∀i,M i→i<w.heap.size):Hz M x (fun X=>Row X v l):=fun X hX=>
 hr.blocks fun a n c hv=>hX.block _ (hb a n c hv).2 fun h=>by have:=hM _ h;have:=(hb a n c hv).1;omega
section
variable {D : Nat → Prop} {B b : Nat} {w x : World} {fs : Value → World → Prop} {st : LdS} {fv ov rv orv owv : Value} {G : List (RecL × List Value)}
theorem LX.mut(h:LX D B w b fs st fv ov rv orv owv G):∀i,MutL D b ov rv i→b≤i∧i<w.heap.size:=fun i hi=>by
 have h1:=h.lt
 have h2:=h.le
 rcases hi with hi|hi|hi|hi
 ·omega
 ·have:=h.oo.ge hi;omega
 ·have:=h.ow.ge hi;omega
 ·have:=h.dd i hi;omega
theorem LX.step(h:LX D B w b fs st fv ov rv orv owv G){D':Nat→Prop}(hE:Ext w x)(hD:∀i,D' i→D i∨(w.heap.size≤i∧i<x.heap.size)):LX D' B x b fs st fv ov rv orv owv G:=by
 have hl:=h.lt
 have hle:=h.le
 have hs:=hE.size
 have hM:∀i,i<w.heap.size→MutL D' b ov rv i→MutL D b ov rv i:=fun i hi hm=>by
  rcases hm with e|e|e|e
  ·exact .inl e
  ·exact .inr (.inl e)
  ·exact .inr (.inr (.inl e))
  ·rcases hD i e with e2|e2
   ·exact .inr (.inr (.inr e2))
   ·omega
 have hT:∀i,i<w.heap.size→NoS i→MutL D b ov rv i:=fun i _ h=>h.elim
 refine⟨Ext.at hE h.h,hl,by omega,h.oo.ext hE,h.ow.ext hE,h.d,fun i hi=>?_,h.ol,fun y hy=>Hz.app (h.fr y hy) hE hT hM,Hz.app h.ff hE hT hM,Hz.app h.fo hE hT hM,OwnerZ.app h.fw hE hT hM,h.ot⟩
 rcases hD i hi with e|e
 ·obtain⟨a1,a2,a3,a4⟩:=h.dd i e
  exact⟨a1,by omega,a3,a4⟩
 ·exact⟨by omega,by omega,fun e2=>by have:=(h.oo.ge e2).2;omega,fun e2=>by have:=(h.ow.ge e2).2;omega⟩
theorem LX.ext(h:LX D B w b fs st fv ov rv orv owv G)(hE:Ext w x):LX D B x b fs st fv ov rv orv owv G:=h.step hE fun _ h=> .inl h
theorem LdX.ext(h:LdX D B w b fs st)(hE:Ext w x):LdX D B x b fs st:=by
 obtain⟨fv,ov,rv,orv,owv,G,h⟩:=h
 exact⟨fv,ov,rv,orv,owv,G,h.ext hE⟩
theorem LX.loc(h:LX D B w b fs st fv ov rv orv owv G)(hk:Keep D w x):LX D B x b fs st fv ov rv orv owv G:=by
 have hs:=hk.size
 have hl:=h.lt
 have hle:=h.le
 have hT:∀i,i<w.heap.size→D i→MutL D b ov rv i:=fun i _ h=> .inr (.inr (.inr h))
 have hM:∀i,i<w.heap.size→MutL D b ov rv i→MutL D b ov rv i:=fun _ _ h=>h
 exact⟨(hk.block b (by omega) fun e=>by have:=(h.dd b e).1;omega).trans h.h,hl,by omega,h.oo.keep hk fun i hi e=>(h.dd i e).2.2.1 hi,h.ow.keep hk fun i hi e=>(h.dd i e).2.2.2 hi,h.d,fun i hi=>by
  obtain⟨a1,a2,a3,a4⟩:=h.dd i hi
  exact⟨a1,by omega,a3,a4⟩,h.ol,fun y hy=>Hz.app (h.fr y hy) hk hT hM,Hz.app h.ff hk hT hM,Hz.app h.fo hk hT hM,OwnerZ.app h.fw hk hT hM,h.ot⟩
theorem LX.turn(h:LX D B w b fs st fv ov rv orv owv G){st':LdS}{orv' owv':Value}(hk:Keep (fun i=>i=b) w x)(hb:x.heap[b]? =some (.cells (zhy fv ov rv orv' owv' st').toArray 85 (0,0)))(ho:st'.out=st.out)(hr:st'.reads=st.reads)
  (fo':Hz (MutL D b ov rv) w (fun X=>Row X orv' (st'.origin.map vs))) (fw':OwnerZ (MutL D b ov rv) w owv' st'.owner) (ot':NmT st'.origin):LX D B x b fs st' fv ov rv orv' owv' G:=by
 have hs:=hk.size
 have hl:=h.lt
 have hle:=h.le
 have hT:∀i,i<w.heap.size→i=b→MutL D b ov rv i:=fun i _ h=> .inl h
 have hM:∀i,i<w.heap.size→MutL D b ov rv i→MutL D b ov rv i:=fun _ _ h=>h
 exact⟨hb,hl,by omega,h.oo.keep hk fun i hi e=>by have:=(h.oo.ge hi).1;omega,by rw[hr];exact h.ow.keep hk fun i hi e=>by have:=(h.ow.ge hi).1;omega,h.d,fun i hi=>by
  obtain⟨a1,a2,a3,a4⟩:=h.dd i hi
  exact⟨a1,by omega,a3,a4⟩,by rw[ho];exact h.ol,fun y hy=>Hz.app (h.fr y hy) hk hT hM,Hz.app h.ff hk hT hM,Hz.app fo' hk hT hM,OwnerZ.app fw' hk hT hM,ot'⟩
def FltAt(w:World)(v:Value)(f:FltL):Prop:=∃p,v= .pointer (some ⟨p,0,Option.none⟩)∧w.heap[p]? =some (.cells #[vs f.path,vi f.line,vi f.err] 59 (0,0))
theorem fault_no(w:World)(p:Value):Fn Tryz.prog 86 #[p,vi 0] w (fun v w'=>v= .pointer Option.none∧w'=w):=by
 refine enter Tryz.func86 Tryz.ntmps86 rfl rfl ?_
 refine go (show decide ((0:Int)=0)=true from rfl) ?_
 refine rt0 Tryz.ntmps86 ?_
 exact⟨rfl,rfl⟩
theorem fault_ok(h:LdX D B w b fs st){e:Int}(he:¬e=0):Fn Tryz.prog 86 #[.pointer (some ⟨b,0,Option.none⟩),vi e] w (fun v w'=>Ext w w'∧FltAt w' v ⟨st.path,st.line,e⟩):=by
 obtain⟨fv,ov,rv,orv,owv,G,h⟩:=h
 have k4:zad w (some ⟨b,4,Option.none⟩)=some (vs st.path):=zaa h.h rfl
 have k5:zad w (some ⟨b,5,Option.none⟩)=some (vi st.line):=zaa h.h rfl
 refine enter Tryz.func86 Tryz.ntmps86 rfl rfl ?_
 refine go (decide_eq_false he) ?_
 refine zaS (fun _=>false) [(0,true),(1,true),(2,true),(3,true),(4,true),(5,true),(6,true),(7,true),(8,true),(9,true),(10,true),(11,true),(12,false),(13,true)] NoS mixed (by kernel_rfl) ?_;intro gd K x hgd hx hxe hK;have hx0:=zaP hxe;clear hxe
 have k4x:=zab hx0 k4
 have k5x:=zab hx0 k5
 simp (disch:=first|omega|assumption|rfl) only[go_sem,k4x,k5x,Nat.zero_add,Nat.add_zero]
 refine⟨by kernel_rfl,?_⟩
 rw[show bdV Tryz.prog 59 [(0,vs st.path),(1,vi st.line),(2,vi e)]=some (.agg #[vs st.path,vi st.line,vi e]) from by kernel_rfl]
 simp (disch:=first|omega|assumption|rfl) only[go_sem]
 refine⟨.inr (Ext.alloc x _),?_⟩
 refine hK _ _ ?_;clear hK hgd;clear K;try clear gd
 refine go trivial ?_
 refine rt0 Tryz.ntmps86 ?_
 exact⟨hx0.trans (Ext.alloc x _),x.heap.size,rfl,World.alloc_heap_new x _⟩
theorem someN_ok(w:World)(a:Option Addr)(n c:Nat):Fn Tryz.prog 128 #[.slice a n c] w (fun v w'=>v= .agg #[.slice a n c,.bool true]∧Ext w w'):=by
 refine enter Tryz.func128 Tryz.ntmps128 rfl rfl ?_
 refine go trivial ?_
 refine zam ?_
 intro w1 hE1 hs1 hA
 refine go trivial ?_
 refine rq ?_;intro gd K hgd hK
 try simp only[go_sem]
 refine⟨by kernel_rfl,?_⟩
 rw[show bdV Tryz.prog 79 [(0,.slice a n c),(1,.bool true)]=some (.agg #[.slice a n c,.bool true]) from by kernel_rfl]
 try simp only[go_sem]
 refine zaK (P:=Tryz.prog) (t:=79) (l:=[.slice a n c,.bool true]) hA rfl (fun v hv=>by simp at hv;rcases hv with rfl|rfl<;>rfl) rfl rfl ?_
 intro w2 hs2 hb2 hk2
 try simp only[go_sem]
 refine hK _ _ ?_;clear hK hgd;clear K;try clear gd
 refine go trivial ?_
 refine zaf (.inr rfl) Tryz.ntmps128 rfl (zaL (x:=⟨w.heap.size,0,Option.none⟩) (k:=2) (vr0) rfl rfl (zai (n:=2) (l:=[.slice a n c,.bool true]) hb2 rfl) zae) ?_
 exact⟨rfl,Keep.to_ext hE1 rfl (fun i hi=>by omega) hk2⟩
theorem zg7(w:World)(t:Int):Fn Tryz.prog 113 #[.int .u32 t] w (fun v w'=>v= .agg #[.int .u32 t,.bool true]∧Ext w w'):=by
 refine enter Tryz.func113 Tryz.ntmps113 rfl rfl ?_
 refine go trivial ?_
 refine zam ?_
 intro w1 hE1 hs1 hA
 refine go trivial ?_
 refine rq ?_;intro gd K hgd hK
 try simp only[go_sem]
 refine⟨by kernel_rfl,?_⟩
 rw[show bdV Tryz.prog 81 [(0,.int .u32 t),(1,.bool true)]=some (.agg #[.int .u32 t,.bool true]) from by kernel_rfl]
 try simp only[go_sem]
 refine zaK (P:=Tryz.prog) (t:=81) (l:=[.int .u32 t,.bool true]) hA rfl (fun v hv=>by simp at hv;rcases hv with rfl|rfl<;>rfl) rfl rfl ?_
 intro w2 hs2 hb2 hk2
 try simp only[go_sem]
 refine hK _ _ ?_;clear hK hgd;clear K;try clear gd
 refine go trivial ?_
 refine zaf (.inr rfl) Tryz.ntmps113 rfl (zaL (x:=⟨w.heap.size,0,Option.none⟩) (k:=2) (vr0) rfl rfl (zai (n:=2) (l:=[.int .u32 t,.bool true]) hb2 rfl) zae) ?_
 exact⟨rfl,Keep.to_ext hE1 rfl (fun i hi=>by omega) hk2⟩
theorem ttl_ok{w:World}(hW:WX w)(s:Lab)(hs:s.length≤1000000000):Fn Tryz.prog 112 #[vs s] w (fun v w'=>v= .tuple #[.int .u32 (decP 2147483647 s).1,vi (decP 2147483647 s).2]∧Ext w w'):=by
 have hdl:=zbS 2147483647 s
 refine enter Tryz.func112 Tryz.ntmps112 rfl rfl ?_
 refine go trivial ?_
 refine rc trivial (zbh hW s 2147483647 (by decide) hs) ?_
 rintro _ w1 ⟨rfl,hE1⟩
 obtain⟨v,hv⟩:∃v,(decP 2147483647 s).1=v:=⟨_,rfl⟩
 rw[hv]at hdl ⊢
 have hw:IntKind.u32.wrap (v:Int)=(v:Int):=by
  show(v:Int) % 4294967296=_
  omega
 refine rgo hw ?_
 refine zaf (.inr rfl) Tryz.ntmps112 rfl (zac ((vr1 hw)) (zac (vr0) zae)) ?_
 exact⟨rfl,hE1⟩
def ownF(st:LdS)(s:Lab):LdS:=if (zaI s st.origin).2=0 then{st with owner:=some (zaI s st.origin).1} else st
theorem ziN(h:LdX D B w b fs st)(s:Lab)(hl:s.length≤500000000):Fn Tryz.prog 110 #[.pointer (some ⟨b,0,Option.none⟩),vs s] w (fun v w'=>v=vi (zaI s st.origin).2∧LdX D B w' b fs (ownF st s)∧zaT D b w w'):=by
 obtain⟨fv,ov,rv,orv,owv,G,h⟩:=h
 have k6:zad w (some ⟨b,6,Option.none⟩)=some orv:=zaa h.h rfl
 have hD:¬D b:=fun e=>by have:=(h.dd b e).1;omega
 refine enter Tryz.func110 Tryz.ntmps110 rfl rfl ?_
 refine go trivial ?_
 refine rc (an3 k6 Nat.zero_add Nat.add_zero) (zct w s orv st.origin hl h.fo.now h.ot) ?_
 rintro _ w1 ⟨hE1,nv,rfl,hr,hk⟩
 obtain⟨⟨n,e⟩,hne⟩:∃x,zaI s st.origin=x:=⟨_,rfl⟩
 unfold ownF
 rw[hne]at hr ⊢
 have h1:=h.ext hE1
 by_cases he:e=0
 rotate_left
 ·refine rgo (decide_eq_false he) ?_
  refine rt0 Tryz.ntmps110 ?_
  rw[if_neg he]
  exact⟨rfl,⟨fv,ov,rv,orv,owv,G,h1⟩,hE1.mono fun _ _ h=>h.elim⟩
 subst he
 rw[if_pos rfl]
 obtain⟨na,nc,rfl,_⟩:=id hr
 simp only[List.length_map]at hr hk ⊢
 refine rgo (show decide ((0:Int)=0)=true from rfl) ?_
 refine rq ?_;intro gd K hgd hK
 try simp only[go_sem]
 refine Fn.mono (someN_ok w1 na n.length nc) ?_
 rintro _ w2 ⟨rfl,hE2⟩
 have h2:=h1.ext hE2
 try simp (disch:=first|omega|assumption|rfl) only[go_sem,Nat.zero_add]
 refine zdj (P:=Tryz.prog) (t:=79) [fv,ov,rv,vi st.many,vs st.path,vi st.line,orv] [owv,.bool st.owner.isSome] (B:=[.int .u32 (st.ttl.getD 0),.bool st.ttl.isSome,.int .u32 (st.last.getD 0),.bool st.last.isSome]) (l:=[.slice na n.length nc,.bool true]) h2.h rfl (fun v hv=>by simp at hv;rcases hv with rfl|rfl<;>rfl) rfl rfl ?_
 intro w3 hs3 hb3 hk3
 try simp only[go_sem]
 refine hK _ _ ?_;clear hK hgd;clear K;try clear gd
 refine go trivial ?_
 refine rt0 Tryz.ntmps110 ?_
 refine⟨rfl,⟨fv,ov,rv,orv,.slice na n.length nc,G,LX.turn h2 (st':={st with owner:=some n}) hk3 hb3 rfl rfl h2.fo (ziD (w:=w) (hr.ext hE2) (hk.ext hE2.size) fun i hi=>(h.mut i hi).2) h2.ot⟩,?_⟩
 exact((hE1.trans hE2).mono fun _ _ h=>h.elim).trans (hk3.mono fun i _ e=>⟨by omega,by rw[e];exact hD⟩)
theorem ziy(hX:WX w)(h:LdX D B w b fs st)(s:Lab)(hl:s.length≤1000000000):Fn Tryz.prog 109 #[.pointer (some ⟨b,0,Option.none⟩),vs [36,84,84,76],vs s] w (fun v w'=>v=vi (decP 2147483647 s).2∧LdX D B w' b fs (if (decP 2147483647 s).2=0 then{st with ttl:=some (decP 2147483647 s).1} else st)∧zaT D b w w'):=by
 obtain⟨fv,ov,rv,orv,owv,G,h⟩:=h
 have hD:¬D b:=fun e=>by have:=(h.dd b e).1;omega
 refine enter Tryz.func109 Tryz.ntmps109 rfl rfl ?_
 refine go (show decide (([36,84,84,76]:Lab)=[36,84,84,76])=true from rfl) ?_
 refine rc trivial (ttl_ok hX s hl) ?_
 rintro _ w1 ⟨rfl,hE1⟩
 obtain⟨⟨n,e⟩,hne⟩:∃x,decP 2147483647 s=x:=⟨_,rfl⟩
 rw[hne]
 have h1:=h.ext hE1
 by_cases he:e=0
 rotate_left
 ·refine rgo (decide_eq_false he) ?_
  refine rt0 Tryz.ntmps109 ?_
  rw[if_neg he]
  exact⟨rfl,⟨fv,ov,rv,orv,owv,G,h1⟩,hE1.mono fun _ _ h=>h.elim⟩
 subst he
 rw[if_pos rfl]
 refine rgo (show decide ((0:Int)=0)=true from rfl) ?_
 refine rq ?_;intro gd K hgd hK
 try simp only[go_sem]
 refine Fn.mono (zg7 w1 n) ?_
 rintro _ w2 ⟨rfl,hE2⟩
 have h2:=h1.ext hE2
 try simp (disch:=first|omega|assumption|rfl) only[go_sem,Nat.zero_add]
 refine zdj (P:=Tryz.prog) (t:=81) [fv,ov,rv,vi st.many,vs st.path,vi st.line,orv,owv,.bool st.owner.isSome] [.int .u32 (st.ttl.getD 0),.bool st.ttl.isSome] (B:=[.int .u32 (st.last.getD 0),.bool st.last.isSome]) (l:=[.int .u32 n,.bool true]) h2.h rfl (fun v hv=>by simp at hv;rcases hv with rfl|rfl<;>rfl) rfl rfl ?_
 intro w3 hs3 hb3 hk3
 try simp only[go_sem]
 refine hK _ _ ?_;clear hK hgd;clear K;try clear gd
 refine go trivial ?_
 refine rt0 Tryz.ntmps109 ?_
 refine⟨rfl,⟨fv,ov,rv,orv,owv,G,LX.turn h2 (st':={st with ttl:=some (n:Int)}) hk3 hb3 rfl rfl h2.fo h2.fw h2.ot⟩,?_⟩
 exact((hE1.trans hE2).mono fun _ _ h=>h.elim).trans (hk3.mono fun i _ e=>⟨by omega,by rw[e];exact hD⟩)
end
def NyC(cs:List Value)(x:Lab×Int):Prop:=cs=[vs x.1,vi x.2]
theorem NyC.shape:zgU 2 NyC:=⟨fun h=>by rw[h];rfl,fun h=>by
 rw[h]
 intro q hq
 rcases List.mem_cons.1 hq with rfl|hq
 ·rfl
 ·rw[List.mem_singleton.1 hq];rfl⟩
def nyTab:List (Lab×Int):=tyTab.map fun x=>(zaV x.2,x.1)
def zfn(k:Lab):List (Lab×Int)→Int×Bool
 | []=>(0,false)
 |x::T=>if x.1=k then(x.2,true) else zfn k T
theorem types_ok(w:World):Fn Tryz.prog 157 #[] w (fun v w'=>Rows 2 NyC w' v nyTab∧Ext w w'):=by
 refine enter Tryz.func157 Tryz.ntmps157 rfl rfl ?_
 refine go trivial ?_
 refine rc trivial (zdX w) ?_
 rintro v0 w1 ⟨hR,hE1⟩
 obtain⟨a,c,rfl,hcap,hg⟩:=hR.open
 refine rgo trivial ?_
 refine zbq 9 (fun i σ v=>(σ 4= .slice a 9 c∧σ 5=vi (9:Nat)∧σ 6=vi i)∧Ext w1 v∧∃sv,σ 1=sv∧Owns 2 NyC w1.heap.size v 249 sv (nyTab.take i)) ?_ ?_ ?_
 ·exact⟨⟨vr0,vr0,vr0⟩,Keep.refl _ _,_,vr0,Owns.nil _ _ _ _ _⟩
 ·rintro i σ v hi r ⟨⟨s4,s5,s6⟩,hE,sv,s1,hO⟩
  have hi9:i<tyTab.length:=hi
  obtain⟨cs,g0,hcs⟩:=hg i hi9
  have g:=zaj hE g0
  obtain⟨⟨k,n⟩,hxx⟩:∃x,tyTab[i]=x:=⟨_,rfl⟩
  rw[hxx]at hcs
  obtain rfl:cs=[vi k,vs n]:=hcs
  have hnl:n.length≤10:=by
   have:∀x∈tyTab,x.2.length≤10:=by decide
   have:=this _ (List.getElem_mem hi9)
   rw[hxx]at this
   exact this
  obtain⟨xa,rfl⟩:=Option.isSome_iff_exists.1 (zaO g)
  obtain⟨xi,hxi⟩:∃xi,adr (some xa) (i*2)=some xi:=⟨_,rfl⟩
  rw[hxi]at g
  have hi0:(0:Int)≤(i:Int):=by omega
  have hi1:(i:Int)<((9:Nat):Int):=by omega
  have hi2:(i:Int)+1=((i+1:Nat):Int):=by push_cast;rfl
  refine go (an4 s4 s5 s6 r) ?_
  refine rq ?_;intro gd K hgd hK
  try simp (disch:=first|omega|assumption|rfl) only[go_sem,s4,s6,hi0,hi1,hxi,g]
  refine zbj (P:=Tryz.prog) (l:=[vi k,vs n]) rfl (fun v hv=>by simp at hv;rcases hv with rfl|rfl<;>rfl) rfl rfl ?_
  intro v1 hE1' hs1 hB
  try simp only[go_sem]
  refine hK _ _ ?_;clear hK hgd;clear K;try clear gd
  have q0:zad v1 (some ⟨v.heap.size,0,Option.none⟩)=some (vi k):=zaa hB rfl
  have q1:zad v1 (some ⟨v.heap.size,1,Option.none⟩)=some (vs n):=zaa hB rfl
  have hO1:=hO.ext hE1'
  have hsE:=hE.size
  refine go (an2 s4 s1) ?_
  refine zaS (fun i=>i==8) [(0,true),(1,true),(2,true),(4,true),(5,true),(3,false),(6,true),(7,false),(8,false),(9,true)] NoS mixed (by kernel_rfl) ?_;intro gd K x hgd hx hxe hK;have hx0:=zaP hxe;clear hxe
  have q0x:=zab hx0 q0
  have q1x:=zab hx0 q1
  simp (disch:=first|omega|assumption|rfl) only[go_sem,s1,q0x,q1x,Nat.zero_add,Nat.add_zero]
  refine Fn.mono (zfB x n (by omega)) ?_
  rintro _ y1 ⟨rfl,hy1⟩
  refine⟨.inr hy1.keep,?_⟩
  have q0y:=zab hy1 q0x
  simp (disch:=first|omega|assumption|rfl) only[go_sem,s1,q0y,Nat.add_zero]
  refine⟨by kernel_rfl,?_⟩
  rw[show bdV Tryz.prog 249 [(0,vs (zaV n)),(1,vi k)]=some (.agg #[vs (zaV n),vi k]) from by kernel_rfl]
  simp (disch:=first|omega|assumption|rfl) only[go_sem,s1]
  refine zeo NyC.shape (l:=[vs (zaV n),vi k]) (a:=(zaV n,k)) rfl rfl rfl rfl rfl (by decide) ?_
  intro y2 hy2 hys2 ho2
  refine⟨.inr hy2.keep,?_⟩
  have hO2:=hO1.ext ((hx0.trans hy1).trans hy2)
  simp (disch:=first|omega|assumption|rfl) only[go_sem,s1]
  refine zd6 NyC.shape hO2 ho2.rows rfl rfl rfl rfl rfl rfl (by decide) ((vr1 s1)) (vr0) (by simp[nyTab];omega) (by decide) (by have:=hE1'.size;have:=hx0.size;have:=hy1.size;have:=hy2.size;omega) ?_
  intro sv' y3 ho3 hX3 hk3 hb3
  refine⟨.inl rfl,?_⟩
  simp (disch:=first|omega|assumption|rfl) only[go_sem]
  refine hK _ _ ?_;clear hK hgd;clear K;try clear gd
  have htk:nyTab.take (i+1)=nyTab.take i++ [(zaV n,k)]:=by
   have hl:i<nyTab.length:=by unfold nyTab;rw[List.length_map];exact hi9
   have e9:nyTab[i]'hl=(zaV n,k):=by
    have:=List.getElem_map (fun x:Int×Lab=>(zaV x.2,x.1)) (l:=tyTab) (i:=i) (h:=hl)
    rw[hxx]at this
    exact this
   rw[zal hl,e9]
  refine go (an5 s4 s5 s6 hi2 r) ?_
  refine⟨rfl,⟨(vq1 s4),(vq1 s5),(vq1 hi2)⟩,hX3 w1 ((((hE.trans hE1').trans hx0).trans hy1).trans hy2) (Nat.le_refl _),sv',vr0,by rw[htk];exact ho3⟩
 ·rintro σ v r ⟨⟨s4,s5,s6⟩,hE,sv,s1,hO⟩
  refine go (an5 s4 s5 s6 r s1) ?_
  refine rt0 Tryz.ntmps157 ?_
  have e:nyTab.take 9=nyTab:=List.take_of_length_le (by decide)
  rw[e]at hO
  exact⟨hO.rows,hE1.trans hE⟩
theorem findN_ok{w:World}{v:Value}{T:List (Lab×Int)}(h:Rows 2 NyC w v T)(hT:T.length≤1000)(k:Lab):
  Fn Tryz.prog 156 #[v,vs k] w (fun u w'=>u= .tuple #[vi (zfn k T).1,.bool (zfn k T).2]∧Ext w w'):=by
 obtain⟨a,c,rfl,hcap,hg⟩:=h.open
 refine enter Tryz.func156 Tryz.ntmps156 rfl rfl ?_
 refine go trivial ?_
 refine zbq T.length (fun i σ v=>(σ 1=vs k∧σ 9= .slice a T.length c∧σ 10=vi T.length∧σ 11=vi i)∧Ext w v∧zfn k T=zfn k (T.drop i)) ?_ ?_ ?_
 ·exact⟨⟨vr0,vr0,vr0,vr0⟩,Keep.refl _ _,rfl⟩
 ·rintro i σ v hi r ⟨⟨s1,s9,s10,s11⟩,hE,hf⟩
  obtain⟨cs,g0,hcs⟩:=hg i hi
  have g:=zaj hE g0
  obtain⟨⟨n,t⟩,hx⟩:∃x,T[i]=x:=⟨_,rfl⟩
  rw[hx]at hcs
  obtain rfl:cs=[vs n,vi t]:=hcs
  rw[List.drop_eq_getElem_cons hi,hx,zfn]at hf
  obtain⟨xa,rfl⟩:=Option.isSome_iff_exists.1 (zaO g)
  obtain⟨xi,hxi⟩:∃xi,adr (some xa) (i*2)=some xi:=⟨_,rfl⟩
  rw[hxi]at g
  have hi0:(0:Int)≤(i:Int):=by omega
  have hi1:(i:Int)<(T.length:Int):=by omega
  have hi2:(i:Int)+1=((i+1:Nat):Int):=by push_cast;rfl
  refine go (an5 s1 s9 s10 s11 r) ?_
  refine rq ?_;intro gd K hgd hK
  try simp (disch:=first|omega|assumption|rfl) only[go_sem,s9,s11,hi0,hi1,hxi,g]
  refine zbj (P:=Tryz.prog) (l:=[vs n,vi t]) rfl (fun v hv=>by simp at hv;rcases hv with rfl|rfl<;>rfl) rfl rfl ?_
  intro v1 hE1' hs1 hB
  try simp only[go_sem]
  refine hK _ _ ?_;clear hK hgd;clear K;try clear gd
  have q0:zad v1 (some ⟨v.heap.size,0,Option.none⟩)=some (vs n):=zaa hB rfl
  have q1:zad v1 (some ⟨v.heap.size,1,Option.none⟩)=some (vi t):=zaa hB rfl
  by_cases hk:n=k
  ·refine go (an6 s1 q0 q1 Nat.add_zero (decide_eq_true hk) Nat.zero_add) ?_
   refine zaf (.inr rfl) Tryz.ntmps156 rfl (zac (vr0) (zac (vr0) zae)) ?_
   rw[if_pos hk]at hf
   exact⟨by rw[hf];rfl,hE.trans hE1'⟩
  ·refine go (an9 s1 q0 Nat.add_zero (decide_eq_false hk) s9 s10 s11 hi2 r) ?_
   rw[if_neg hk]at hf
   exact⟨rfl,⟨(vq1 s1),(vq1 s9),(vq1 s10),(vq1 hi2)⟩,hE.trans hE1',hf⟩
 ·rintro σ v r ⟨⟨s1,s9,s10,s11⟩,hE,hf⟩
  refine go (an5 s1 s9 s10 s11 r) ?_
  refine zaf (.inr rfl) Tryz.ntmps156 rfl (zac (vr0) (zac (vr0) zae)) ?_
  rw[List.drop_length]at hf
  exact⟨by rw[hf];rfl,hE⟩
def zbN(s:Lab):Int×Int:=
 if (zfn (zaV s) nyTab).2=true then((zfn (zaV s) nyTab).1,0)
 else if ([116,121,112,101]:Lab).isPrefixOf (zaV s)=false∨(decP 65535 (Lib.trimPrefix (zaV s) [116,121,112,101])).2=2 then(0,6)
 else if ¬(decP 65535 (Lib.trimPrefix (zaV s) [116,121,112,101])).2=0∨(decP 65535 (Lib.trimPrefix (zaV s) [116,121,112,101])).1=0 then(0,7)
 else(((decP 65535 (Lib.trimPrefix (zaV s) [116,121,112,101])).1:Nat),0)
theorem zgo{w:World}(hX:WX w)(s:Lab)(hl:s.length≤1000000):Fn Tryz.prog 133 #[vs s] w (fun v w'=>v= .tuple #[vi (zbN s).1,vi (zbN s).2]∧Ext w w'):=by
 have hfl:(zaV s).length≤1000000:=by unfold zaV;rw[List.length_map];exact hl
 have htl:(Lib.trimPrefix (zaV s) [116,121,112,101]).length≤1000000:=by
  unfold Lib.trimPrefix
  split
  ·rw[List.length_drop];omega
  ·exact hfl
 refine enter Tryz.func133 Tryz.ntmps133 rfl rfl ?_
 refine go trivial ?_
 refine rc trivial (zfB w s (by omega)) ?_
 rintro _ w1 ⟨rfl,hE1⟩
 refine rgo trivial ?_
 refine rc trivial (types_ok w1) ?_
 rintro tv w2 ⟨hR,hE2⟩
 refine rd trivial (findN_ok hR (by decide) (zaV s)) ?_
 rintro _ w3 ⟨rfl,hE3⟩
 have hE:=(hE1.trans hE2).trans hE3
 unfold zbN
 obtain⟨⟨t,z⟩,hz⟩:∃x,zfn (zaV s) nyTab=x:=⟨_,rfl⟩
 rw[hz]
 cases z with
 |true=>
  rw[if_pos rfl]
  refine rgo trivial ?_
  refine zaf (.inr rfl) Tryz.ntmps133 rfl (zac (vr0) (zac (vr0) zae)) ?_
  exact⟨rfl,hE⟩
 |false=>
  rw[if_neg (by simp)]
  refine rgo trivial ?_
  refine rc trivial (zdG w3 (zaV s) [116,121,112,101]) ?_
  rintro _ w3' ⟨rfl,hw3⟩
  rw[hw3]
  clear hw3 w3'
  refine rgo trivial ?_
  refine rc trivial (zbh (hX.ext hE) (Lib.trimPrefix (zaV s) [116,121,112,101]) 65535 (by decide) (by omega)) ?_
  rintro _ w4 ⟨rfl,hE4⟩
  have hdl:=zbS 65535 (Lib.trimPrefix (zaV s) [116,121,112,101])
  obtain⟨⟨n,e⟩,hne⟩:∃x,decP 65535 (Lib.trimPrefix (zaV s) [116,121,112,101])=x:=⟨_,rfl⟩
  obtain⟨p,hp⟩:∃p,([116,121,112,101]:Lab).isPrefixOf (zaV s)=p:=⟨_,rfl⟩
  rw[hne]at hdl ⊢
  rw[hp]
  simp only at hdl ⊢
  have hw:IntKind.i64.wrap (n:Int)=(n:Int):=zcW (by omega) (by omega)
  cases p with
  |false=>
   rw[if_pos (.inl rfl)]
   refine rgo Bool.not_false ?_
   refine zaf (.inr rfl) Tryz.ntmps133 rfl (zac (vr0) (zac (vr0) zae)) ?_
   exact⟨rfl,hE.trans hE4⟩
  |true=>
   by_cases h2:e=2
   ·rw[if_pos (.inr h2)]
    refine rgo (an2 Bool.not_true (decide_eq_true h2)) ?_
    refine zaf (.inr rfl) Tryz.ntmps133 rfl (zac (vr0) (zac (vr0) zae)) ?_
    exact⟨rfl,hE.trans hE4⟩
   rw[if_neg (fun h=>h.elim (fun h=>by cases h) h2)]
   by_cases h0:e=0
   rotate_left
   ·rw[if_pos (.inl h0)]
    refine rgo (an4 Bool.not_true (decide_eq_false h2) (decide_eq_false h0) Bool.not_false) ?_
    refine zaf (.inr rfl) Tryz.ntmps133 rfl (zac (vr0) (zac (vr0) zae)) ?_
    exact⟨rfl,hE.trans hE4⟩
   by_cases hn:n=0
   ·rw[if_pos (.inr hn)]
    refine rgo (an5 Bool.not_true (decide_eq_false h2) (decide_eq_true h0) Bool.not_true (decide_eq_true (show(n:Int)=0 by omega))) ?_
    refine zaf (.inr rfl) Tryz.ntmps133 rfl (zac (vr0) (zac (vr0) zae)) ?_
    exact⟨rfl,hE.trans hE4⟩
   ·rw[if_neg (fun h=>h.elim (fun h=>h h0) hn)]
    refine rgo (an6 Bool.not_true (decide_eq_false h2) (decide_eq_true h0) Bool.not_true (decide_eq_false (show¬(n:Int)=0 by omega)) hw) ?_
    refine zaf (.inr rfl) Tryz.ntmps133 rfl (zac ((vr1 hw)) (zac (vr0) zae)) ?_
    exact⟨rfl,hE.trans hE4⟩
theorem or_ok(w:World)(a b:Int)(p q:Bool):Fn Tryz.prog 135 #[.agg #[.int .u32 a,.bool p],.agg #[.int .u32 b,.bool q]] w (fun v w'=>v=(if p=true then .agg #[.int .u32 a,.bool true] else .agg #[.int .u32 b,.bool q])∧Ext w w'):=by
 refine enter Tryz.func135 Tryz.ntmps135 rfl rfl ?_
 refine go trivial ?_
 refine zfx ?_
 intro w1 hE1 hs1 hA hB hC
 simp only[World.size_alloc]
 have qa:zaq w1 (some ⟨w.heap.size,0,Option.none⟩) 2=some [.int .u32 a,.bool p]:=zai (n:=2) (l:=[.int .u32 a,.bool p]) hA rfl
 have qb:zaq w1 (some ⟨w.heap.size+1,0,Option.none⟩) 2=some [.int .u32 b,.bool q]:=zai (n:=2) (l:=[.int .u32 b,.bool q]) hB rfl
 have ka:zad w1 (some ⟨w.heap.size,1,Option.none⟩)=some (.bool p):=zaa hA rfl
 cases p with
 |true=>
  refine go (an2 ka Nat.zero_add) ?_
  refine rq ?_;intro gd K hgd hK
  try simp (disch:=first|omega|assumption|rfl) only[go_sem,qa]
  refine zaK (P:=Tryz.prog) (t:=81) (l:=[.int .u32 a,.bool true]) hC rfl (fun v hv=>by simp at hv;rcases hv with rfl|rfl<;>rfl) rfl rfl ?_
  intro w2 hs2 hb2 hk2
  try simp only[go_sem]
  refine hK _ _ ?_;clear hK hgd;clear K;try clear gd
  refine go trivial ?_
  refine zaf (.inr rfl) Tryz.ntmps135 rfl (zaL (x:=⟨w.heap.size+1+1,0,Option.none⟩) (k:=2) (vr0) rfl rfl (zai (n:=2) (l:=[.int .u32 a,.bool true]) hb2 rfl) zae) ?_
  exact⟨rfl,Keep.to_ext hE1 rfl (fun i hi=>by omega) hk2⟩
 |false=>
  refine go (an2 ka Nat.zero_add) ?_
  refine rq ?_;intro gd K hgd hK
  try simp (disch:=first|omega|assumption|rfl) only[go_sem,qb]
  refine zaK (P:=Tryz.prog) (t:=81) (l:=[.int .u32 b,.bool q]) hC rfl (fun v hv=>by simp at hv;rcases hv with rfl|rfl<;>rfl) rfl rfl ?_
  intro w2 hs2 hb2 hk2
  try simp only[go_sem]
  refine hK _ _ ?_;clear hK hgd;clear K;try clear gd
  refine go trivial ?_
  refine zaf (.inr rfl) Tryz.ntmps135 rfl (zaL (x:=⟨w.heap.size+1+1,0,Option.none⟩) (k:=2) (vr0) rfl rfl (zai (n:=2) (l:=[.int .u32 b,.bool q]) hb2 rfl) zae) ?_
  exact⟨rfl,Keep.to_ext hE1 rfl (fun i hi=>by omega) hk2⟩
def zdJ(T:Int)(ws:List (Lab×Bool))(o:Nm)(d:DatL)(e:Int):Prop:=∀(w:World) (wv:Value) (oa:Option Addr) (on oc:Nat),WX w→Rows 2 WdC w wv ws→Row w (.slice oa on oc) (o.map vs)→NmT o→
 Fn Tryz.prog 134 #[vi T,wv,.slice oa on oc] w (fun v w'=>Ext w w'∧∃cs:List Value,v= .tuple #[.agg cs.toArray,vi e]∧cs.length=5∧(∀q∈cs,one q=true)∧(e=0→GD d w.heap.size cs w'))
def orT(a b:Option Int):Option Int:=match a with|some x=>some x|Option.none=>b
inductive AddR(st:LdS)(tm:Option Int):List (Lab×Bool)→Int→LdS→Prop
 |none:AddR st tm [] 8 st
 |quoted (t:Lab) (ws:List (Lab×Bool)):AddR st tm ((t,true)::ws) 2 st
 |type (t:Lab) (ws:List (Lab×Bool)):t.length≤1000000→¬(zbN t).2=0→AddR st tm ((t,false)::ws) (zbN t).2 st
 |data (t:Lab) (ws:List (Lab×Bool)) (d:DatL) (e:Int) (st':LdS):t.length≤1000000→(zbN t).2=0→zdJ (zbN t).1 ws st.origin d e→(¬e=0∧st'=st∨e=0∧st.out.length<4096∧∃o τ,st.owner=some o∧orT (orT tm st.ttl) st.last=some τ∧st'={st with last:=some τ,out:=st.out++ [⟨o,τ,d⟩]})→AddR st tm ((t,false)::ws) e st'
def tmV(t:Option Int):Value:= .agg #[.int .u32 (t.getD 0),.bool t.isSome]
section
variable {D : Nat → Prop} {B b : Nat} {w x : World} {fs : Value → World → Prop} {st : LdS} {fv ov rv orv owv : Value} {G : List (RecL × List Value)}
theorem LX.more(h:LX D B w b fs st fv ov rv orv owv G){y1 y2:World}{ov':Value}{z:RecL×List Value}(ho:Owns 7 gR B y2 36 ov' (G++ [z]))(hE0:Ext w y1)(hk:Keep (fun i=>some i=ov.ownBlock) y1 y2)(hb2:∀i,some i=ov'.ownBlock→some i=ov.ownBlock∨y1.heap.size≤i)
  (hk3:Keep (fun i=>i=b) y2 x) (hb:x.heap[b]? =some (.cells (zhy fv ov' rv orv owv st).toArray 85 (0,0))) (hz:Hz (MutL D b ov rv) w (fun X=>RecAt X z.2 z.1)):LX D B x b fs {st with out:=st.out++ [z.1]} fv ov' rv orv owv (G++ [z]):=by
 have hl:=h.lt
 have hle:=h.le
 have e1:=hE0.size
 have e2:=hk.size
 have e3:=hk3.size
 have hob:∀{i},some i=ov.ownBlock→B≤i∧i<w.heap.size:=fun e=>h.oo.ge e
 have hkk:Keep (fun i=>some i=ov.ownBlock∨i=b) w x:=((hE0.mono fun _ _ h=>h.elim).trans (hk.mono fun _ _ e=> .inl e)).trans (hk3.mono fun _ _ e=> .inr e)
 have hT:∀i,i<w.heap.size→(some i=ov.ownBlock∨i=b)→MutL D b ov rv i:=fun i _ e=>e.elim (fun e=> .inr (.inl e)) .inl
 have hM:∀i,i<w.heap.size→MutL D b ov' rv i→MutL D b ov rv i:=fun i hi hm=>by
  rcases hm with e|e|e|e
  ·exact .inl e
  ·rcases hb2 i e with e|e
   ·exact .inr (.inl e)
   ·omega
  ·exact .inr (.inr (.inl e))
  ·exact .inr (.inr (.inr e))
 refine⟨hb,hl,by omega,ho.keep hk3 fun i hi e=>by have:=(ho.ge hi).1;omega,h.ow.keep hkk fun i hi e=>?_,fun i hi e=>?_,fun i hi=>?_,?_,fun y hy=>?_,Hz.app h.ff hkk hT hM,Hz.app h.fo hkk hT hM,OwnerZ.app h.fw hkk hT hM,h.ot⟩
 ·rcases e with e|e
  ·exact h.d i e hi
  ·have:=(h.ow.ge hi).1;omega
 ·rcases hb2 i hi with e2|e2
  ·exact h.d i e2 e
  ·have:=(h.ow.ge e).2;omega
 ·obtain⟨a1,a2,a3,a4⟩:=h.dd i hi
  exact⟨a1,by omega,fun e=>(hb2 i e).elim a3 fun e=>by omega,a4⟩
 ·show st.out++ [z.1]=_
  rw[h.ol,List.map_append];rfl
 ·rcases List.mem_append.1 hy with hy|hy
  ·exact Hz.app (h.fr y hy) hkk hT hM
  ·rw[List.mem_singleton.1 hy];exact Hz.app hz hkk hT hM
theorem orT_tm(a b:Option Int):(if a.isSome=true then Value.agg #[.int .u32 (a.getD 0),.bool true] else tmV b)=tmV (orT a b):=by
 cases a<;>rfl
theorem row1{lv:Value}{t:Lab}{q:Bool}{ws:List (Lab×Bool)}(h:Rows 2 WdC w lv ((t,q)::ws)):∃xa c,lv= .slice (some xa) (ws.length+1) c∧ws.length+1≤c∧zad w (some xa)=some (vs t)∧∃x1,adr (some xa) 1=some x1∧zad w (some x1)=some (.bool q):=by
 obtain⟨a,c,rfl,hc,hg⟩:=h.open
 obtain⟨cs,g0,hcs⟩:=hg 0 (by simp)
 simp only[List.getElem_cons_zero,Nat.zero_mul,zak]at g0 hcs
 unfold WdC at hcs
 subst hcs
 obtain⟨xa,rfl⟩:∃x,a=some x:=by
  cases a with
  |none=>cases g0
  |some x=>exact⟨x,rfl⟩
 have c0:zad w (adr (some xa) 0)=some (vs t):=zaR g0 (j:=0) (by simp)
 rw[zak]at c0
 obtain⟨x1,hx1⟩:∃x,adr (some xa) 1=some x:=⟨_,rfl⟩
 have c1:zad w (adr (some xa) 1)=some (.bool q):=zaR g0 (j:=1) (by simp)
 rw[hx1]at c1
 exact⟨xa,c,by rw[List.length_cons],by simpa using hc,c0,x1,hx1,c1⟩
theorem add_ok(hX:WX w)(h:LdX D B w b fs st){tm:Option Int}{lv:Value}{l:List (Lab×Bool)}{e:Int}{st':LdS}(hl:Rows 2 WdC w lv l)(hb:AddR st tm l e st')(hll:l.length≤1000000):Fn Tryz.prog 114 #[.pointer (some ⟨b,0,Option.none⟩),tmV tm,lv] w (fun v w'=>v=vi e∧LdX D B w' b fs st'∧zaT D b w w'):=by
 have hKp:∀{x:World},Ext w x→LdX D B x b fs st∧zaT D b w x:=fun hE=>⟨h.ext hE,hE.mono fun _ _ h=>h.elim⟩
 obtain⟨fv,ov,rv,orv,owv,G,h⟩:=h
 have hD:¬D b:=fun e=>by have:=(h.dd b e).1;omega
 have z0:(0:Int)≤0:=by decide
 unfold tmV
 cases hb with
 |none=>
  obtain⟨a,c,rfl,_⟩:=hl.open
  refine enter Tryz.func114 Tryz.ntmps114 rfl rfl ?_
  refine go trivial ?_
  refine rt0 Tryz.ntmps114 ?_
  exact⟨rfl,hKp (Ext.alloc w _)⟩
 |quoted t ws=>
  obtain⟨xa,c,rfl,hc,c0,x1,hx1,c1⟩:=row1 hl
  have d:decide (((ws.length+1:Nat):Int)=0)=false:=decide_eq_false (by omega)
  have l1:(0:Int)<((ws.length+1:Nat):Int):=by omega
  refine enter Tryz.func114 Tryz.ntmps114 rfl rfl ?_
  refine go trivial ?_
  refine zam ?_
  intro w1 hE1 hs1 hA
  refine go (an9 d z0 l1 Int.toNat_zero Nat.zero_mul zak hx1 (zab hE1 c1) trivial) ?_
  refine rt0 Tryz.ntmps114 ?_
  exact⟨rfl,hKp hE1⟩
 |type t ws htl he=>
  obtain⟨xa,c,rfl,hc,c0,x1,hx1,c1⟩:=row1 hl
  have d:decide (((ws.length+1:Nat):Int)=0)=false:=decide_eq_false (by omega)
  have l1:(0:Int)<((ws.length+1:Nat):Int):=by omega
  refine enter Tryz.func114 Tryz.ntmps114 rfl rfl ?_
  refine go trivial ?_
  refine zam ?_
  intro w1 hE1 hs1 hA
  have c0':=zab hE1 c0
  refine go (an9 d z0 l1 Int.toNat_zero Nat.zero_mul zak hx1 (zab hE1 c1) trivial) ?_
  refine rc (an6 z0 l1 Int.toNat_zero Nat.zero_mul zak c0') (zgo (hX.ext hE1) t htl) ?_
  rintro _ w2 ⟨rfl,hE2⟩
  refine rgo (decide_eq_false he) ?_
  refine rt0 Tryz.ntmps114 ?_
  exact⟨rfl,hKp (hE1.trans hE2)⟩
 |data t ws dt e _ htl he hP hb=>
  obtain⟨xa,c,rfl,hc,c0,x1,hx1,c1⟩:=row1 hl
  have d:decide (((ws.length+1:Nat):Int)=0)=false:=decide_eq_false (by omega)
  have l1:(0:Int)<((ws.length+1:Nat):Int):=by omega
  have l2:(1:Int)≤((ws.length+1:Nat):Int):=by omega
  have l3:(1:Int)≤(c:Int):=by omega
  have z1:(0:Int)≤1:=by decide
  have t1:(1:Int).toNat=1:=rfl
  have hdr:=hl.drop (m:=1) (by simp)
  rw[List.drop_one,List.tail_cons]at hdr
  obtain⟨oa,oc,rfl,_⟩:=id h.fo.now
  refine enter Tryz.func114 Tryz.ntmps114 rfl rfl ?_
  refine go trivial ?_
  refine zam ?_
  intro w1 hE1 hs1 hA
  have c0':=zab hE1 c0
  refine go (an9 d z0 l1 Int.toNat_zero Nat.zero_mul zak hx1 (zab hE1 c1) trivial) ?_
  refine rc (an6 z0 l1 Int.toNat_zero Nat.zero_mul zak c0') (zgo (hX.ext hE1) t htl) ?_
  rintro _ w2 ⟨rfl,hE2⟩
  have hE12:=hE1.trans hE2
  have h2:=h.ext hE12
  have k6:zad w2 (some ⟨b,6,Option.none⟩)=some (.slice oa (st.origin.map vs).length oc):=zaa h2.h rfl
  refine rgo (decide_eq_true he) ?_
  refine zav (Q:=fun e' σ' ds' v'=>e'= .normal∧ds'=[]∧∃(cs:List Value) (p:Nat),(σ' 0= .pointer (some ⟨b,0,Option.none⟩)∧σ' 4= .pointer (some ⟨w.heap.size,0,Option.none⟩)∧σ' 8=vi e∧σ' 9= .pointer (some ⟨p,0,Option.none⟩))∧Ext w2 v'∧w2.heap.size≤p∧cs.length=5∧v'.heap[p]? =some (.cells cs.toArray 34 (0,0))∧(∀q∈cs,one q=true)∧(e=0→GD dt w2.heap.size cs v')) ?_ ?_
  ·refine W_tree (fun i=>i==13) (.run [(0,true),(1,true),(2,true),(3,true),(4,true),(5,true),(6,true),(7,true)] (.fork 6 [8,12] (fun i=>if i=8 then(.run [(9,true),(10,true),(11,true),(12,false),(13,false),(14,true)] .fin) else(.run [(8,false),(9,true),(10,true),(11,true),(13,false),(14,true)] .fin)))) NoS mixed (by kernel_rfl) ?_;intro gd K x hgd hx hxe hK;have hx0:=zaP hxe;clear hxe
   have k6x:=zab hx0 k6
   simp (disch:=first|omega|assumption|rfl) only[go_sem,z1,l2,l3,t1,k6x,Nat.zero_add,Nat.add_zero,Nat.one_mul]
   simp only[zgn,zhD];refine⟨?_,?_⟩
   ·simp (disch:=first|omega|assumption|rfl) only[go_sem,z1,l2,l3,t1,k6x,Nat.zero_add,Nat.add_zero,Nat.one_mul]
    refine Fn.mono (hP x _ _ _ _ (hX.ext (hE12.trans hx0)) (hdr.ext (hE12.trans hx0)) (h2.fo.now.ext hx0) h2.ot) ?_
    rintro _ y1 ⟨hy1,cs,rfl,hc5,hc1,hGD⟩
    refine⟨.inr hy1,?_⟩
    simp (disch:=first|omega|assumption|rfl) only[go_sem]
    refine⟨.inr (Ext.alloc y1 _),?_⟩
    refine zaK (P:=Tryz.prog) (t:=34) (l:=cs) (World.alloc_heap_new y1 _) (by rw[hc5];rfl) hc1 (by rw[hc5];rfl) rfl ?_
    intro y2 hs2 hb2 hk2
    refine⟨.inl rfl,?_⟩
    simp (disch:=first|omega|assumption|rfl) only[go_sem]
    refine hK _ _ ?_;clear hK hgd;clear K;try clear gd
    have hE:=Keep.to_ext ((hx0.trans hy1).trans (Ext.alloc y1 _)) rfl (fun i hi=>by have:=hx0.size;have:=hy1.size;omega) hk2
    have hEy:=Keep.to_ext (Ext.alloc y1 _) rfl (fun i hi=>by omega) hk2
    exact⟨rfl,rfl,cs,_,⟨vr0,vr0,vr0,vr0⟩,hE,by have:=hx0.size;have:=hy1.size;omega,hc5,hb2,hc1,fun h0 X hX=>(Hz.ext (hGD h0) hEy) X (hX.mono fun i _ hi=>by have:=hx0.size;omega)⟩
   ·simp (disch:=first|omega|assumption|rfl) only[go_sem,z1,l2,l3,t1,k6x,Nat.zero_add,Nat.add_zero,Nat.one_mul]
    refine⟨.inr (Ext.alloc x _),?_⟩
    have hxa:=Ext.alloc x (.cells #[vi 0,.slice Option.none 0 0,.slice Option.none 0 0,.slice Option.none 0 0,.slice Option.none 0 0] 34 (0,0))
    have hba:=World.alloc_heap_new x (.cells #[vi 0,.slice Option.none 0 0,.slice Option.none 0 0,.slice Option.none 0 0,.slice Option.none 0 0] 34 (0,0))
    obtain⟨y0,hy0⟩:∃y,x.alloc (.cells #[vi 0,.slice Option.none 0 0,.slice Option.none 0 0,.slice Option.none 0 0,.slice Option.none 0 0] 34 (0,0))=y:=⟨_,rfl⟩
    have hys:y0.heap.size=x.heap.size+1:=by rw[←hy0];simp
    rw[hy0]at hxa hba ⊢
    refine Fn.mono (hP y0 _ _ _ _ (hX.ext ((hE12.trans hx0).trans hxa)) (hdr.ext ((hE12.trans hx0).trans hxa)) (h2.fo.now.ext (hx0.trans hxa)) h2.ot) ?_
    rintro _ y1 ⟨hy1,cs,rfl,hc5,hc1,hGD⟩
    refine⟨.inr hy1,?_⟩
    simp (disch:=first|omega|assumption|rfl) only[go_sem]
    refine zaK (P:=Tryz.prog) (t:=34) (l:=cs) (Ext.at hy1 hba) (by rw[hc5];rfl) hc1 (by rw[hc5];rfl) rfl ?_
    intro y2 hs2 hb2 hk2
    refine⟨.inl rfl,?_⟩
    simp (disch:=first|omega|assumption|rfl) only[go_sem]
    refine hK _ _ ?_;clear hK hgd;clear K;try clear gd
    have hE:=Keep.to_ext ((hx0.trans hxa).trans hy1) rfl (fun i hi=>by have:=hx0.size;omega) hk2
    exact⟨rfl,rfl,cs,_,⟨vr0,vr0,vr0,vr0⟩,hE,by have:=hx0.size;omega,hc5,hb2,hc1,fun h0 X hX=>(zj8 dt _ _ _ _ _ (hGD h0) hk2 fun i hi=>by omega) X (hX.mono fun i _ hi=>by have:=hx0.size;omega)⟩
  rintro _ σ3 _ w3 ⟨rfl,rfl,cs,p,⟨s0,s4,s8,s9⟩,hE3,hp,hc5,hb3,hc1,hGD⟩
  rcases hb with ⟨he0,rfl⟩| ⟨rfl,hm,o,τ,ho,ht,rfl⟩
  ·refine go (an5 s0 s4 s8 s9 (decide_eq_false he0)) ?_
   refine rt0 Tryz.ntmps114 ?_
   exact⟨rfl,hKp (hE12.trans hE3)⟩
  have hGD:=hGD rfl
  have h3:=h2.ext hE3
  have hs1':w1.heap.size=w.heap.size+1:=by rw[hs1]
  have hs2':=hE2.size
  have hs3':=hE3.size
  have hA3:=Ext.at (hE2.trans hE3) hA
  have h13:=zai (n:=13) h3.h rfl
  have qt:zaq w3 (some ⟨b,9,Option.none⟩) 2=some [.int .u32 (st.ttl.getD 0),.bool st.ttl.isSome]:=by
   have:=zcC (m:=9) (k:=4) h13
   rw[zaZ]at this
   exact zeN (m:=2) (k:=2) this
  have ql:zaq w3 (some ⟨b,11,Option.none⟩) 2=some [.int .u32 (st.last.getD 0),.bool st.last.isSome]:=by
   have:=zcC (m:=11) (k:=2) h13
   rw[zaZ]at this
   exact this
  have qm:zaq w3 (some ⟨w.heap.size,0,Option.none⟩) 2=some [.int .u32 (tm.getD 0),.bool tm.isSome]:=zai (n:=2) hA3 rfl
  refine go (an5 s0 s4 s8 s9 (show decide ((0:Int)=0)=true from rfl)) ?_
  refine zav (Q:=fun e' σ' ds' v'=>e'= .normal∧ds'=[]∧(σ' 0= .pointer (some ⟨b,0,Option.none⟩)∧σ' 4= .pointer (some ⟨w.heap.size,0,Option.none⟩)∧σ' 9= .pointer (some ⟨p,0,Option.none⟩))∧Keep (fun i=>i=w.heap.size) w3 v'∧v'.heap[w.heap.size]? =some (.cells #[.int .u32 τ,.bool true] 81 (0,0))) ?_ ?_
  ·refine zaS (fun i=>i==13) [(0,true),(1,true),(2,true),(3,true),(4,true),(5,true),(7,true),(8,true),(9,true),(10,true),(11,true),(6,false),(12,false),(13,false)] NoS mixed (by kernel_rfl) ?_;intro gd K x hgd hx hxe hK;have hx0:=zaP hxe;clear hxe
   have qtx:=zaj hx0 qt
   have qlx:=zaj hx0 ql
   have qmx:=zaj hx0 qm
   simp (disch:=first|omega|assumption|rfl) only[go_sem,s0,s4,qtx,qlx,qmx,Nat.zero_add,Nat.add_zero]
   refine Fn.mono (or_ok x _ _ _ _) ?_
   rintro _ y1 ⟨hv1,hy1⟩
   rw[show _=tmV (orT tm st.ttl) from hv1.trans (orT_tm tm st.ttl)]
   refine⟨.inr hy1,?_⟩
   have qly:=zaj hy1 qlx
   simp (disch:=first|omega|assumption|rfl) only[go_sem,qly,Nat.zero_add]
   refine Fn.mono (or_ok y1 ((orT tm st.ttl).getD 0) (st.last.getD 0) (orT tm st.ttl).isSome st.last.isSome) ?_
   rintro _ y2 ⟨hv2,hy2⟩
   rw[show _=Value.agg ([.int .u32 τ,.bool true]:List Value).toArray from(hv2.trans (orT_tm (orT tm st.ttl) st.last)).trans (by rw[ht];rfl)]
   refine⟨.inr hy2,?_⟩
   simp (disch:=first|omega|assumption|rfl) only[go_sem,s4]
   refine zaK (P:=Tryz.prog) (t:=81) (l:=[.int .u32 τ,.bool true]) (Ext.at ((hx0.trans hy1).trans hy2) hA3) rfl (fun v hv=>by simp at hv;rcases hv with rfl|rfl<;>rfl) rfl rfl ?_
   intro y3 hs3 hb3 hk3
   refine⟨.inl rfl,?_⟩
   simp (disch:=first|omega|assumption|rfl) only[go_sem]
   refine hK _ _ ?_;clear hK hgd;clear K;try clear gd
   exact⟨rfl,rfl,⟨(vr1 s0),(vr1 s4),(vr1 s9)⟩,(((hx0.trans hy1).trans hy2).mono fun _ _ h=>h.elim).trans hk3,hb3⟩
  rintro _ σ4 _ w4 ⟨rfl,rfl,⟨s0,s4,s9⟩,hk4,hA4⟩
  have hE4:Ext w w4:=Keep.to_ext (hE12.trans hE3) rfl (fun i hi=>by omega) hk4
  have h4:=h.ext hE4
  have hs4:=hk4.size
  have hb4:=(hk4.block p (by have:=(Array.getElem?_eq_some_iff.1 hb3).1;exact this) (by omega)).trans hb3
  have e1:zad w4 (some ⟨w.heap.size,1,Option.none⟩)=some (.bool true):=zaa hA4 rfl
  have k1:zad w4 (some ⟨b,1,Option.none⟩)=some ov:=zaa h4.h rfl
  obtain⟨ova,ovc,rfl,_⟩:=h4.oo.rows.open
  have hol:G.length=st.out.length:=by rw[h.ol,List.length_map]
  have hgl:decide ((4096:Int)≤(G.length:Int))=false:=decide_eq_false (by omega)
  refine go (an9 s0 s4 s9 e1 k1 Nat.zero_add Bool.not_true hgl trivial) ?_
  have q4:zaq w4 (some ⟨w.heap.size,0,Option.none⟩) 2=some [.int .u32 τ,.bool true]:=zai (n:=2) (l:=[.int .u32 τ,.bool true]) hA4 rfl
  refine rq ?_;intro gd K hgd hK
  try simp (disch:=first|omega|assumption|rfl) only[go_sem,s0,s4,s9,q4,Nat.zero_add]
  refine zdj (P:=Tryz.prog) (t:=81) [fv,.slice ova G.length ovc,rv,vi st.many,vs st.path,vi st.line,.slice oa (st.origin.map vs).length oc,owv,.bool st.owner.isSome,.int .u32 (st.ttl.getD 0),.bool st.ttl.isSome] [.int .u32 (st.last.getD 0),.bool st.last.isSome] (B:=[]) (l:=[.int .u32 τ,.bool true]) h4.h rfl (fun v hv=>by simp at hv;rcases hv with rfl|rfl<;>rfl) rfl rfl ?_
  intro w5 hs5 hb5 hk5
  try simp only[go_sem]
  refine hK _ _ ?_;clear hK hgd;clear K;try clear gd
  have h5:LX D B w5 b fs {st with last:=some τ} fv _ rv _ owv G:=LX.turn h4 (st':={st with last:=some τ}) hk5 hb5 rfl rfl h4.fo h4.fw h4.ot
  have hlt:=h.lt
  have hle:=h.le
  have q05:zad w5 (some ⟨w.heap.size,0,Option.none⟩)=some (.int .u32 τ):=zaa ((hk5.block w.heap.size (by omega) (by omega)).trans hA4) rfl
  have hb5p:=(hk5.block p (by have:=(Array.getElem?_eq_some_iff.1 hb4).1;exact this) (by omega)).trans hb4
  obtain⟨c0,c1,c2,c3,c4,rfl⟩:∃c0 c1 c2 c3 c4,cs=[c0,c1,c2,c3,c4]:=by
   iterate 5 (rcases cs with _| ⟨_,cs⟩;· exact absurd hc5 (by simp))
   rcases cs with _| ⟨_,cs⟩
   ·exact⟨_,_,_,_,_,rfl⟩
   ·exact absurd hc5 (by simp)
  have q95:zaq w5 (some ⟨p,0,Option.none⟩) 5=some [c0,c1,c2,c3,c4]:=zai (n:=5) hb5p rfl
  have k15:zad w5 (some ⟨b,1,Option.none⟩)=some (.slice ova G.length ovc):=zaa h5.h rfl
  have k75:zad w5 (some ⟨b,7,Option.none⟩)=some owv:=zaa h5.h rfl
  have how:=h5.fw
  rw[show ({st with last:=some τ}:LdS).owner=some o from ho]at how
  obtain⟨na,nc,rfl,_⟩:=id (Hz.now how)
  repeat refine c_r ?_
  refine zav (Q:=fun e' σ' ds' v'=>e'= .normal∧ds'=[]∧LdX D B v' b fs {st with last:=some τ,out:=st.out++ [⟨o,τ,dt⟩]}∧zaT D b w5 v') ?_ ?_
  ·refine zaS (fun i=>i==16||i==19) [(0,true),(1,true),(2,true),(3,true),(4,true),(5,true),(6,true),(7,true),(8,true),(9,true),(10,true),(11,true),(12,true),(13,true),(14,true),(15,false),(16,false),(17,true),(18,true),(19,false)] NoS mixed (by kernel_rfl) ?_;intro gd K x hgd hx hxe hK;have hx0:=zaP hxe;clear hxe
   have q0x:=zab hx0 q05
   have q9x:=zaj hx0 q95
   have k1x:=zab hx0 k15
   have k7x:=zab hx0 k75
   simp (disch:=first|omega|assumption|rfl) only[go_sem,s0,s4,s9,q0x,q9x,k1x,k7x,Nat.zero_add,Nat.add_zero]
   refine⟨by kernel_rfl,?_⟩
   rw[show bdV Tryz.prog 36 [(0,.slice na (o.map vs).length nc),(1,.int .u32 τ),(2,.agg #[c0,c1,c2,c3,c4])]=some (.agg #[.slice na (o.map vs).length nc,.int .u32 τ,c0,c1,c2,c3,c4]) from by kernel_rfl]
   simp (disch:=first|omega|assumption|rfl) only[go_sem]
   refine zeo zhp (l:=[.slice na (o.map vs).length nc,.int .u32 τ,c0,c1,c2,c3,c4]) (a:=(⟨o,τ,dt⟩,[.slice na (o.map vs).length nc,.int .u32 τ,c0,c1,c2,c3,c4])) rfl rfl rfl rfl ⟨rfl,rfl,fun q hq=>by
    rcases List.mem_cons.1 hq with rfl|hq
    ·rfl
    ·rcases List.mem_cons.1 hq with rfl|hq
     ·rfl
     ·exact hc1 q hq⟩ (by decide) ?_
   intro y1 hy1 hys1 ho1
   refine⟨.inr hy1.keep,?_⟩
   have h5x:=(h5.ext hx0).ext hy1
   simp (disch:=first|omega|assumption|rfl) only[go_sem]
   refine zd6 zhp h5x.oo ho1.rows rfl rfl rfl rfl rfl rfl (by decide) (vr0) (vr0) (by simp;omega) (by decide) h5x.le ?_
   intro ov' y2 ho2 hX2 hk2 hb2
   refine⟨.inl rfl,?_⟩
   have h1v:one ov'=true:=by rcases ho2.cases with ⟨e,_⟩| ⟨_,_,_,e,_⟩<;>rw[e]<;>rfl
   have hby2:=(hk2.block b (by have:=h5x.le;omega) fun e=>by have:=(h5x.oo.ge e).1;omega).trans h5x.h
   simp (disch:=first|omega|assumption|rfl) only[go_sem,s0,Nat.zero_add]
   refine zan (P:=Tryz.prog) rfl rfl h1v hby2 (by show(1:Nat)<13;decide) (by simp) ?_
   intro y3 hs3 hb3 hk3
   refine⟨.inl rfl,?_⟩
   simp (disch:=first|omega|assumption|rfl) only[go_sem]
   refine hK _ _ ?_;clear hK hgd;clear K;try clear gd
   have hz:Hz (MutL D b (.slice ova G.length ovc) rv) w5 (fun X=>RecAt X [.slice na (o.map vs).length nc,.int .u32 τ,c0,c1,c2,c3,c4] ⟨o,τ,dt⟩):=fun X hX=>by
    refine⟨_,_,rfl,Hz.now (fun Y hY=>how Y (hX.trans hY)),?_⟩
    exact Hz.app hGD (hk4.mono (fun i _ e=> .inl e)|>.trans (hk5.mono fun i _ e=> .inr e)) (S':=MutL D b (.slice ova G.length ovc) rv) (T:=fun i=>i=w.heap.size∨i=b) (fun i _ e=>by omega) (fun i hi e=>by have:=(h.mut i e).2;omega) X hX
   exact⟨rfl,rfl,⟨_,_,_,_,_,_,LX.more h5 ho2 (hx0.trans hy1) hk2 hb2 hk3 hb3 hz⟩,(((hx0.trans hy1).mono fun _ _ h=>h.elim).trans (hk2.mono fun i _ e=>⟨by have:=(h5x.oo.ge e).1;omega,fun e2=>(h5x.dd i e2).2.2.1 e⟩)).trans (hk3.mono fun i _ e=>⟨by omega,by rw[e];exact hD⟩)⟩
  rintro _ σ6 _ w6 ⟨rfl,rfl,h6,hk6⟩
  refine go trivial ?_
  refine rt0 Tryz.ntmps114 ?_
  exact⟨rfl,h6,((hE4.mono fun _ _ h=>h.elim).trans (hk5.mono fun i _ e=>⟨by omega,by rw[e];exact hD⟩)).trans hk6⟩
end
end Go.Proofs.YtihbdhjibplldaaGreatDoor
