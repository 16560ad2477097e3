/-
  Texts of a proof, joined: NG, NI, NH, NJ, QD, JV, JW, QE, W3, W4, W5, W6, NL, NM, LG, LH.
  Conditions: none.
-/
import Derived.Test.YtihbdhjibplldaaGreatDoorQLT08
import Derived.Test.YtihbdhjibplldaaGreatDoorQLT06
import Derived.Test.YtihbdhjibplldaaGreatDoorQLT05
import Derived.Test.YtihbdhjibplldaaGreatDoorQLT02
import Derived.Test.YtihbdhjibplldaaGreatDoorQLT07
import Derived.Test.YtihbdhjibplldaaGreatDoorQLT03
set_option linter.unusedVariables false
set_option linter.unusedSimpArgs false
set_option linter.defProp false
set_option linter.unnecessarySimpa false
set_option maxHeartbeats 8000000
namespace Go.Proofs.YtihbdhjibplldaaGreatDoor
open Go
set_option maxRecDepth 10000
theorem b_shr8{P:Program}{t:TypeId}{n:Nat}:binV P .shr t (.int .u64 (n:Int)) (.int .u64 8)=some (.int .u64 ((n / 256:Nat):Int)):=by
 show some (Value.int .u64 (Int.fdiv (n:Int) (2 ^ (min (Int.toNat 8) 64))))=_
 have:(2:Int) ^ (min (Int.toNat 8) 64)=((256:Nat):Int):=by decide
 rw[this,Int.fdiv_eq_ediv_of_nonneg _ (by omega)];rfl
theorem zhH{n:Nat}:IntKind.u8.wrap (n:Int)=((n % 256:Nat):Int):=by
 show(n:Int) % 256=_
 omega
theorem zk8{w:World}(hW:WX w){c:UInt8}{s:Lab}{ps:List Lab}{n:Nat}(hs:s.length<4000000000)(h:SplC c s ps)(hn:ps.length=n):
  Fn Tryz.prog 170 #[vs s,vs [c]] w (fun v w'=>v= .slice (some ⟨w.heap.size,0,Option.none⟩) n n∧w'.heap[w.heap.size]? =some (.cells (ps.map vs).toArray 9 (0,0))∧Ext w w'):=by
 obtain⟨m,hm⟩:=hW.ml
 refine Fn.of_calls ((Any.strings_Split Tryz.lays146 (by kernel_rfl) ⟨s.toArray⟩ ⟨#[c]⟩ m w (show s.toArray.size<_ by simp;omega) hm (Nat.le_refl 1)).mono ?_)
 rintro _ w' ⟨he,rfl⟩
 subst hn
 rw[h.sp,h.ct,List.map_map]at*
 refine⟨_,he,rfl,?_,Ext.alloc w _⟩
 rw[World.alloc_heap_new]
 rfl
def zgv(p:Lab):List UInt8:=[UInt8.ofNat (za9 p / 256),UInt8.ofNat (za9 p % 256)]
theorem zgu:∀l:List Lab,(l.flatMap zgv).length=2*l.length
 | []=>rfl
 |p::l=>by rw[List.flatMap_cons,List.length_append,zgu l,List.length_cons,show(zgv p).length=2 from rfl];omega
theorem zkv:∀l:Lab,za9 l<16 ^ l.length:=fun l=>by
 have:∀(l:Lab) (n k:Nat),n<16 ^ k→l.foldl (fun n c=>16*n+(hexV c).getD 0) n<16 ^ (k+l.length):=fun l=>by
  induction l with
  |nil=>intro n k h;exact h
  |cons c l ih=>
   intro n k h
   have hc:(hexV c).getD 0<16:=by
    cases hv:hexV c with
    |none=>decide
    |some x=>exact zfS hv
   have:=ih (16*n+(hexV c).getD 0) (k+1) (by rw[Nat.pow_succ];omega)
   rw[List.foldl_cons,List.length_cons,show k+(l.length+1)=k+1+l.length by omega]
   exact this
 have:=this l 0 0 (by decide)
 rwa [Nat.zero_add]at this
theorem long_ok{W0 w:World}{b:Nat}{t:Lab}{ws:List (Lab×Bool)}{ov:Value}{ps:List Lab}(hW:WX W0)(h:Rdr W0 w b ((t,false)::ws) ov 0)(hl:ws.length≤1000000)(ht:t.length≤1000000)(hsp:SplC 58 t ps)(h8:ps.length=8)(hps:∀p∈ps,p≠ []∧p.length≤4∧∀c∈p,c∈digs16∧(hexV c).isSome=true):
  Fn Tryz.prog 189 #[.pointer (some ⟨b,0,Option.none⟩)] w (fun v w'=>Own w.heap.size w' 5 v ((ps.flatMap zgv).map zao)∧Rdr W0 w' b ws ov 0∧Keep (fun i=>i=b) w w'):=by
 have hbl:=h.lt
 refine enter Tryz.func189 Tryz.ntmps189 rfl rfl ?_
 refine go trivial ?_
 refine rc trivial (zdi h hl) ?_
 rintro _ w1 ⟨rfl,hR1,hk1⟩
 simp only[if_neg (show¬false=true by decide)]at hR1
 refine rd trivial (zk8 (n:=8) (hW.ext hR1.ext) (by omega) hsp h8) ?_
 rintro _ w2 ⟨rfl,hB2,hE2⟩
 have hs1:=hk1.size
 have hs2:=hE2.size
 have hP:w1.heap.size<w2.heap.size:=(Array.getElem?_eq_some_iff.1 hB2).1
 obtain⟨P,hPe⟩:∃P,w1.heap.size=P:=⟨_,rfl⟩
 rw[hPe]at hB2 hP ⊢
 have hk2:Keep (fun i=>i=b) w w2:=hk1.trans (hE2.mono fun _ _ h=>h.elim)
 have d8:decide (((8:Nat):Int)=8)=true:=rfl
 have hR2:=hR1.extx hE2
 refine rgo (an2 d8 Bool.not_true) ?_
 refine za3 8 (fun i σ v=>(σ 0= .pointer (some ⟨b,0,Option.none⟩)∧σ 17= .slice (some ⟨P,0,Option.none⟩) 8 8∧σ 18=vi (8:Nat)∧σ 19=vi i)∧Ext w2 v∧∃sv,σ 4=sv∧Own w2.heap.size v 5 sv (((ps.take i).flatMap zgv).map zao)) ?_ ?_ ?_
 ·exact⟨⟨vr0,vr0,vr0,vr0⟩,Keep.refl _ _,_,vr0,Own.nil _ _ _⟩
 ·rintro i σ v hi ⟨r1,r2,r3,r4⟩ ⟨⟨s0,s17,s18,s19⟩,hE,sv,s4,hown⟩
  obtain⟨p,hp⟩:∃p,ps[i]'(by omega)=p:=⟨_,rfl⟩
  have hpm:p∈ps:=hp▸List.getElem_mem _
  obtain⟨hp0,hp4,hpc⟩:=hps p hpm
  have hsv:=hE.size
  have hBv:=Ext.at hE hB2
  have g:zad v (some ⟨P,i,Option.none⟩)=some (vs p):=za8 (j:=i) hBv (by rw[List.getElem?_map,List.getElem?_eq_getElem (by omega),hp];rfl)
  have d1:decide (p=[])=false:=decide_eq_false hp0
  have d2:decide ((4:Int)<(p.length:Int))=false:=decide_eq_false (by omega)
  have hvl:za9 p<65536:=by
   have h1:=zkv p
   have h2:16 ^ p.length≤16 ^ 4:=Nat.pow_le_pow_right (by decide) hp4
   omega
  refine go (an9 s0 s17 s18 s19 s4 r1 g r2 (an3 r3 (Nat.mul_one i) (Nat.zero_add i))) ?_
  refine rcg [(2,25),(7,30)] (an6 s0 s4 d1 d2 r2 trivial) (zfb v p (by omega)) ?_
  rintro _ v1 ⟨rfl,hE1⟩
  rw[decide_eq_true (zhK fun c hc=>(hpc c hc).1)]
  refine reg [(2,25),(7,30)] (an6 s0 s4 d1 d2 Bool.not_true r2) ?_
  refine go (an2 s0 s4) ?_
  refine rc (an2 s0 s4) (PuH_ok v1 (bt:=16) (mx:=65535) (.inr ⟨rfl,rfl⟩) hp0 (by omega) (fun c hc=>(hpc c hc).2) (by omega)) ?_
  rintro _ v2 ⟨rfl,hE2'⟩
  obtain⟨x,hx⟩:∃x,za9 p=x:=⟨_,rfl⟩
  rw[hx]at hvl ⊢
  have f1:=b_shr8 (P:=Tryz.prog) (t:=71) (n:=x)
  have f2:IntKind.u8.wrap ((x / 256:Nat):Int)=((x / 256:Nat):Int):=by rw[zhH];omega
  have f3:IntKind.u8.wrap (x:Int)=((x % 256:Nat):Int):=zhH
  have hsE:=hE1.size
  have hsE2:=hE2'.size
  refine rgo (an2 s0 s4) ?_
  refine rq ?_;intro gd K hgd hK
  try simp (disch:=first|omega|assumption|rfl) only[go_sem,s4,f1,f2,f3]
  refine zkY (z:= .int .u8 0) rfl rfl rfl rfl rfl rfl ?_
  intro y1 hy1 hys1 hyo
  try simp (disch:=first|omega|assumption|rfl) only[go_sem,s4]
  refine zaV (e:=5) (((hown.ext hE1).ext hE2').ext hy1) hyo.row rfl rfl rfl rfl rfl rfl ((vr1 s4)) (vr0) (fun q hq=>by simp only[List.mem_cons,List.not_mem_nil,or_false]at hq;rcases hq with rfl|rfl<;>rfl) (by rw[List.length_map,zgu,List.length_take];simp;omega) (by decide) (by omega) ?_
  intro sv' y2 hown2 hX2 hK2 hb2'
  try simp only[go_sem]
  refine hK _ _ ?_;clear hK hgd;clear K;try clear gd
  refine go (an5 s0 s17 s18 s19 r4) ?_
  refine⟨rfl,⟨(vq1 s0),(vq1 s17),(vq1 s18),(vq1 r4)⟩,hX2 w2 (((hE.trans hE1).trans hE2').trans hy1) (Nat.le_refl _),sv',vr0,?_⟩
  rw[zai (by omega),hp,List.flatMap_append,List.map_append]
  have e2:(([p]:List Lab).flatMap zgv).map zao=[.int .u8 ((x / 256:Nat):Int),.int .u8 ((x % 256:Nat):Int)]:=by
   show [zao (UInt8.ofNat (za9 p / 256)),zao (UInt8.ofNat (za9 p % 256))]=_
   rw[hx,zby (by omega),zby (by omega)]
  rw[e2]
  exact hown2
 ·rintro σ v r ⟨⟨s0,s17,s18,s19⟩,hE,sv,s4,hown⟩
  rw[List.take_of_length_le (by omega)]at hown
  refine go (an6 s0 s17 s18 s19 s4 r) ?_
  refine zaf (.inr rfl) Tryz.ntmps189 rfl (zac ((vr1 s4)) zae) ?_
  exact⟨hown.mono (by omega),hR2.extx hE,hk2.trans (hE.mono fun _ _ h=>h.elim)⟩
theorem zdw{c:UInt8}(h1:c≠92)(h2:c≠34)(h3:c≠32)(s w:Lab)(q:Bool):wF false (c::s) w q=wF false s (w++ [c]) q:=by
 rw[wF,if_neg (fun h=>h1 h.1),if_neg h2]
 cases q
 ·rw[if_neg (by decide),if_neg h3]
 ·rw[if_pos rfl]
theorem zeu(d:UInt8)(s w:Lab)(q:Bool):wF false (92::d::s) w q=wF false s (w++ [92,d]) q:=by
 rw[wF,if_pos ⟨rfl,by simp⟩,wF,List.append_assoc]
 rfl
theorem zjl:∀(l s w:Lab) (q:Bool),(∀c∈l,c≠92∧c≠34∧c≠32)→wF false (l++s) w q=wF false s (w++l) q
 | [],s,w,q,_=>by rw[List.nil_append,List.append_nil]
 |c::l,s,w,q,h=>by
  obtain⟨h1,h2,h3⟩:=h c (List.mem_cons_self ..)
  rw[List.cons_append,zdw h1 h2 h3,zjl l s _ q fun x hx=>h x (List.mem_cons_of_mem _ hx),List.append_assoc]
  rfl
theorem zdO{c:UInt8}(h:digB c=true):c≠92∧c≠34∧c≠32∧c≠46∧c≠58:=by
 refine⟨?_,?_,?_,?_,?_⟩<;>(rintro rfl;revert h;decide)
theorem wF_esc(c:UInt8)(s w:Lab)(q:Bool):wF false (escB c++s) w q=wF false s (w++escB c) q:=by
 have h2:=zeN (k:=c.toNat / 10 % 10) (by omega)
 have h3:=zeN (k:=c.toNat % 10) (by omega)
 unfold escB
 show wF false (92::_::_::_::s) w q=_
 rw[zeu,zdw (zdO h2).1 (zdO h2).2.1 (zdO h2).2.2.1,zdw (zdO h3).1 (zdO h3).2.1 (zdO h3).2.2.1,List.append_assoc,List.append_assoc]
 rfl
theorem wF_lab(c:UInt8)(s w:Lab)(q:Bool):wF false (labB c++s) w q=wF false s (w++labB c) q:=by
 unfold labB
 by_cases h1:c.toNat≤32∨127≤c.toNat
 ·rw[if_pos h1];exact wF_esc c s w q
 ·rw[if_neg h1]
  by_cases h2:marksL.contains c=true
  ·rw[if_pos h2];exact zeu c s w q
  ·rw[if_neg h2]
   have m1:c≠92:=fun e=>h2 (by rw[e];decide)
   have m2:c≠34:=fun e=>h2 (by rw[e];decide)
   have m3:c≠32:=fun e=>h1 (.inl (by rw[e];decide))
   exact zdw m1 m2 m3 s w q
theorem zjk:∀(l s w:Lab) (q:Bool),wF false (zat l++s) w q=wF false s (w++zat l) q
 | [],s,w,q=>by unfold zat;simp
 |c::l,s,w,q=>by
  have e:zat (c::l)=labB c++zat l:=by unfold zat;rw[List.flatMap_cons]
  rw[e,List.append_assoc,wF_lab,zjk l,List.append_assoc]
theorem zjo:∀(n:Nm) (s w:Lab) (q:Bool),wF false ((n.flatMap fun l=>zat l++ [46])++s) w q=wF false s (w++n.flatMap fun l=>zat l++ [46]) q
 | [],s,w,q=>by simp
 |l::n,s,w,q=>by
  rw[List.flatMap_cons,List.append_assoc,List.append_assoc,zjk]
  show wF false (46::((n.flatMap fun l=>zat l++ [46])++s)) (w++zat l) q=_
  rw[zdw (by decide) (by decide) (by decide),zjo n]
  simp
def Tok(p:Lab):Prop:=p≠ []∧∀s w:Lab,wF false (p++s) w false=wF false s (w++p) false
theorem zen(n:Nm):Tok (zaD n):=by
 unfold zaD
 by_cases h:n=[]
 ·rw[if_pos h]
  exact⟨by simp,fun s w=>zjl [46] s w false (by decide)⟩
 ·rw[if_neg h]
  refine⟨?_,fun s w=>zjo n s w false⟩
  cases n with
  |nil=>exact absurd rfl h
  |cons l n=>simp
theorem zex{p:Lab}(h0:p≠ [])(h:∀c∈p,c≠92∧c≠34∧c≠32):Tok p:=⟨h0,fun s w=>zjl p s w false h⟩
theorem zdj(n:Nat):Tok (Lib.decDigits n):=zex (zeO n) fun c hc=>by
 have:=zdO (zbG n c hc)
 exact⟨this.1,this.2.1,this.2.2.1⟩
theorem zbR{p:Lab}(h:Tok p):wF false p [] false=[(p,false)]:=by
 have:=h.2 [] []
 rw[List.append_nil,List.nil_append]at this
 rw[this,wF,if_neg h.1]
theorem zck{p:Lab}(h:Tok p)(s:Lab):wF false (p++([32]++s)) [] false=(p,false)::wF false s [] false:=by
 rw[h.2,List.nil_append]
 show wF false (32::s) p false=_
 rw[wF,if_neg (fun e=>absurd e.1 (by decide)),if_neg (by decide),if_neg (by decide),if_pos rfl,if_neg h.1]
theorem zg9:∀ps:List Lab,(∀p∈ps,Tok p)→wF false (zaL [32] ps) [] false=ps.map fun p=>(p,false)
 | [],_=>rfl
 | [p],h=>by rw[zb2];exact zbR (h p (List.mem_cons_self ..))
 |p::q::r,h=>by
  rw[zaI,zck (h p (List.mem_cons_self ..)),zg9 (q::r) fun x hx=>h x (List.mem_cons_of_mem _ hx)]
  rfl
theorem wF_quoB(c:UInt8)(s w:Lab):wF false (quoB c++s) w true=wF false s (w++quoB c) true:=by
 unfold quoB
 split
 ·exact wF_esc c s w true
 ·rename_i h1
  split
  ·exact zeu c s w true
  ·rename_i h2
   show wF false (c::s) w true=_
   rw[wF,if_neg (fun h=>h2 (.inr h.1)),if_neg (fun h=>h2 (.inl h)),if_pos rfl]
theorem zjn:∀(l s w:Lab),wF false (quoL l++s) w true=wF false s (w++quoL l) true
 | [],s,w=>by unfold quoL;simp
 |c::l,s,w=>by
  have e:quoL (c::l)=quoB c++quoL l:=by unfold quoL;rw[List.flatMap_cons]
  rw[e,List.append_assoc,wF_quoB,zjn l,List.append_assoc]
theorem zjm(t s:Lab):wF false (quoT t++s) [] false=(quoL t,true)::wF false s [] false:=by
 unfold quoT
 show wF false (34::(quoL t++ [34]++s)) [] false=_
 rw[wF,if_neg (fun e=>absurd e.1 (by decide)),if_pos rfl,if_neg (by decide),List.append_assoc,zjn,List.nil_append]
 show wF false (34::s) (quoL t) true=_
 rw[wF,if_neg (fun e=>absurd e.1 (by decide)),if_pos rfl,if_pos rfl]
theorem zg8:∀ts:List Lab,wF false (zaL [32] (ts.map quoT)) [] false=ts.map fun t=>(quoL t,true)
 | []=>rfl
 | [t]=>by
  rw[List.map_singleton,zb2]
  have:=zjm t []
  rw[List.append_nil]at this
  rw[this,wF]
  rfl
 |t::u::r=>by
  rw[List.map_cons,List.map_cons,zaI,zjm]
  show(quoL t,true)::wF false (32::zaL [32] (quoT u::r.map quoT)) [] false=_
  have ih:=zg8 (u::r)
  rw[List.map_cons]at ih
  rw[wF,if_neg (fun e=>absurd e.1 (by decide)),if_neg (by decide),if_neg (by decide),if_pos rfl,if_pos rfl,ih]
  rfl
theorem un_quoB(c:UInt8)(r acc:Lab):unD [] 0 (quoB c++r) acc=unD [] 0 r (acc++ [c]):=by
 unfold quoB
 split
 ·have he:=zkG c r
  have e:escB c++r=92::((escB c).tail++r):=rfl
  rw[e,unD,if_pos rfl,he]
  simp only[if_true]
  have e2:(escB c).tail++r=UInt8.ofNat (48+c.toNat / 100)::UInt8.ofNat (48+c.toNat / 10 % 10)::UInt8.ofNat (48+c.toNat % 10)::r:=rfl
  rw[e2,unD,unD,unD]
 ·split
  ·rename_i h2
   have hd:digB c=false:=by rcases h2 with rfl|rfl<;>decide
   show unD [] 0 (92::(c::r)) acc=_
   rw[unD,if_pos rfl,zgH hd]
   simp only[if_true]
   rw[unD]
  ·rename_i h2
   show unD [] 0 (c::r) acc=_
   rw[unD,if_neg (fun h=>h2 (.inr h)),if_neg (by simp)]
theorem zjr:∀(l acc:Lab),unD [] 0 (quoL l) acc=(acc++l,0)
 | [],acc=>by unfold quoL unD;simp
 |c::l,acc=>by
  have e:quoL (c::l)=quoB c++quoL l:=by unfold quoL;rw[List.flatMap_cons]
  rw[e,un_quoB,zjr l]
  simp
theorem zdH{n o:Nm}(h:zaS n=0):zaX (zaD n) o=(n,0):=by
 have h1:=(zeP h).1
 unfold zaD
 by_cases hn:n=[]
 ·rw[if_pos hn,hn];rfl
 ·rw[if_neg hn]
  have hh:¬(n.flatMap fun l=>zat l++ [46])=[64]∧¬(n.flatMap fun l=>zat l++ [46])=[46]∧¬(n.flatMap fun l=>zat l++ [46])=[]:=by
   cases n with
   |nil=>exact absurd rfl hn
   |cons l n=>
    have:=zjt (errL_ne (h1 l (List.mem_cons_self ..))) ([46]++n.flatMap fun l=>zat l++ [46])
    rw[List.flatMap_cons,List.append_assoc]
    exact this
  have hp:zbJ (n.flatMap fun l=>zat l++ [46])=(n,true,0):=by
   unfold zbJ
   rw[zhN,if_neg (fun e=>by cases e),zfe n [] true h1 (fun e=>absurd e hn),List.nil_append]
  unfold zaX
  rw[if_neg hh.1,if_neg hh.2.1,if_neg hh.2.2,hp]
  simp[h]
theorem own28_ok{W0 w:World}{b:Nat}{t:Lab}{ov:Value}{ps:List Lab}(hW:WX W0)(h:Rdr W0 w b [(t,false)] ov 0)(ht:t.length≤1000000)(hsp:SplC 58 t ps)(h8:ps.length=8)(hps:∀p∈ps,p≠ []∧p.length≤4∧∀c∈p,c∈digs16∧(hexV c).isSome=true):
  Fn Tryz.prog 160 #[.pointer (some ⟨b,0,Option.none⟩),vi 28] w (fun v w'=>(∃rv,v= .agg #[vi 28,.slice Option.none 0 0,.slice Option.none 0 0,.slice Option.none 0 0,rv]∧Own w.heap.size w' 5 rv ((ps.flatMap zgv).map zao))∧Rdr W0 w' b [] ov 0∧Keep (fun i=>i=b) w w'):=by
 have hbl:=h.lt
 have hlow:=h.low
 refine enter Tryz.func160 Tryz.ntmps160 rfl rfl ?_
 refine go trivial ?_
 refine zam ?_
 intro w1 hE1 hs1 hA
 refine rq ?_;intro gd K hgd hK
 try simp only[go_sem]
 refine⟨by kernel_rfl,?_⟩
 rw[show bdV Tryz.prog 34 [(0,vi 28)]=some (.agg #[vi 28,.slice Option.none 0 0,.slice Option.none 0 0,.slice Option.none 0 0,.slice Option.none 0 0]) from by kernel_rfl]
 try simp only[go_sem]
 refine zbu (P:=Tryz.prog) (l:=[vi 28,.slice Option.none 0 0,.slice Option.none 0 0,.slice Option.none 0 0,.slice Option.none 0 0]) rfl (zdf _ _ _ _ _ rfl rfl rfl rfl) rfl rfl ?_
 intro w2 hE2 hs2 hB2
 try simp only[go_sem]
 refine hK _ _ ?_;clear hK hgd;clear K;try clear gd
 rw[hs1]at hB2
 simp only[hs1]
 have hR2:=(h.extx hE1).extx hE2
 refine go trivial ?_
 refine rc trivial (zeH hR2 28) ?_
 rintro _ w3 ⟨rfl,hE3⟩
 rw[show zfO 28 ([(t,false)]:List (Lab×Bool)).length=true from rfl]
 have d1:decide ((28:Int)=1)=false:=rfl
 have d2:decide ((28:Int)=28)=true:=rfl
 refine rgo (an2 d1 d2) ?_
 have hR3:=hR2.extx hE3
 have hs3:=hE3.size
 refine rq ?_;intro gd K hgd hK
 try simp only[go_sem]
 refine Fn.mono (long_ok hW hR3 (by simp) ht hsp h8 hps) ?_
 rintro rv w4 ⟨hown,hR4,hk4⟩
 obtain⟨ra,rc',hrv⟩:=hown.slice
 have hs4:=hk4.size
 have hB4:=(hk4.block (w.heap.size+1) (by omega) (by omega)).trans (Ext.at hE3 hB2)
 try simp (disch:=first|omega|assumption|rfl) only[go_sem,Nat.zero_add]
 refine zcA (P:=Tryz.prog) (t:=32) (j:=4) (u:=rv) hB4 (by simp) (by rw[hrv];rfl) rfl rfl ?_
 intro w5 hs5 hB5 hk5
 try simp only[go_sem]
 refine hK _ _ ?_;clear hK hgd;clear K;try clear gd
 simp only[List.set_cons_zero,List.set_cons_succ]at hB5
 have q5:=zal (n:=5) hB5 rfl
 refine go trivial ?_
 refine rq ?_;intro gd K hgd hK
 try simp (disch:=first|omega|assumption|rfl) only[go_sem,q5]
 have hA5:w5.heap[w.heap.size]? =_:=(hk5.block _ (by omega) (by omega)).trans ((hk4.block _ (by omega) (by omega)).trans (Ext.at (hE2.trans hE3) hA))
 refine zaJ (P:=Tryz.prog) (t:=34) (l:=[vi 28,.slice Option.none 0 0,.slice Option.none 0 0,.slice Option.none 0 0,rv]) hA5 rfl (zdf _ _ _ _ _ rfl rfl rfl (by rw[hrv];rfl)) rfl rfl ?_
 intro w6 hs6 hB6 hk6
 try simp only[go_sem]
 refine hK _ _ ?_;clear hK hgd;clear K;try clear gd
 refine go trivial ?_
 refine zaf (.inr rfl) Tryz.ntmps160 rfl (zaO (x:=⟨w.heap.size,0,Option.none⟩) (k:=5) (vr0) rfl rfl (zal hB6 rfl) zae) ?_
 have hE13:=(hE1.trans hE2).trans hE3
 refine⟨⟨rv,rfl,((hown.keep hk5 fun i hi hs=>by have:=(hown.ge hi).1;omega).keep hk6 fun i hi hs=>by have:=(hown.ge hi).1;omega).mono (by omega)⟩,(hR4.keep hk5 fun i hi=>by omega).keep hk6 fun i hi=>by omega,?_⟩
 exact((((hE13.mono fun _ _ h=>h.elim):Keep (fun i=>i=b) w w3).trans hk4).own hk5 fun i hi h=>by omega).own hk6 fun i hi h=>by omega
theorem zjV{W0 w:World}{tx:Nm→Lab}{b:Nat}{ov:Value}{o:Nm}{T:Int}{ns:List Nm}{us:List Int}(hW:WX W0)(hT:T=2∨T=5∨T=12∨T=39∨T=6)(hsh:zay T=((ns.length:Int),(us.length:Int),0,0))(hnl:ns.length≤10)(hul:us.length≤10)(h:Rdr W0 w b (ns.map (fun n=>(tx n,false))++us.map fun m=>(numT m,false)) ov 0)(ho:Row W0 ov (o.map vs))(hoT:NmT o)
  (hN:∀n∈ns,zaX (tx n) o=(n,0)∧(tx n).length≤500000000∧True) (hNu:∀m∈us,(decP 4294967295 (numT m)=(m.toNat,0)∧(m.toNat:Int)=m)∧(numT m).length≤1000000):
  Fn Tryz.prog 160 #[.pointer (some ⟨b,0,Option.none⟩),vi T] w (fun v w'=>(∃nmv nuv,v= .agg #[vi T,nmv,nuv,.slice Option.none 0 0,.slice Option.none 0 0]∧Own w.heap.size w' 29 nuv (us.map v32)∧Hz (fun i=>i<w.heap.size) w' (fun X=>NamesAt X nmv ns))∧Rdr W0 w' b [] ov 0∧Keep (fun i=>i=b) w w'):=by
 have hbl:=h.lt
 have hlow:=h.low
 refine enter Tryz.func160 Tryz.ntmps160 rfl rfl ?_
 refine go trivial ?_
 refine zam ?_
 intro w1 hE1 hs1 hA
 refine rq ?_;intro gd K hgd hK
 try simp only[go_sem]
 refine⟨by kernel_rfl,?_⟩
 rw[show bdV Tryz.prog 34 [(0,vi T)]=some (.agg #[vi T,.slice Option.none 0 0,.slice Option.none 0 0,.slice Option.none 0 0,.slice Option.none 0 0]) from by kernel_rfl]
 try simp only[go_sem]
 refine zbu (P:=Tryz.prog) (l:=[vi T,.slice Option.none 0 0,.slice Option.none 0 0,.slice Option.none 0 0,.slice Option.none 0 0]) rfl (zdf _ _ _ _ _ rfl rfl rfl rfl) rfl rfl ?_
 intro w2 hE2 hs2 hB2
 try simp only[go_sem]
 refine hK _ _ ?_;clear hK hgd;clear K;try clear gd
 rw[hs1]at hB2
 simp only[hs1]
 have hR2:=(h.extx hE1).extx hE2
 have hwl:(ns.map (fun n=>(tx n,false))++us.map fun m=>(numT m,false)).length=ns.length+us.length:=by simp
 refine go trivial ?_
 refine rc trivial (zeH hR2 T) ?_
 rintro _ w3 ⟨rfl,hE3⟩
 have hmany:zfO T (ns.map (fun n=>(tx n,false))++us.map fun m=>(numT m,false)).length=true:=by
  unfold zfO
  rw[hwl,hsh]
  simp
 rw[hmany]
 have hR3:=hR2.extx hE3
 have hs3:=hE3.size
 have hB3:=Ext.at hE3 hB2
 obtain⟨P,hP⟩:∃P,w.heap.size+1=P:=⟨_,rfl⟩
 rw[hP]at hB3 ⊢
 have d1:decide (T=1)=false:=decide_eq_false (by omega)
 have d28:decide (T=28)=false:=decide_eq_false (by omega)
 have d16:decide (T=16)=false:=decide_eq_false (by omega)
 have d15:decide (T=15)=false:=decide_eq_false (by omega)
 refine rgo (an4 d1 d28 d16 d15) ?_
 refine rq ?_;intro gd K hgd hK
 try simp (disch:=first|omega|assumption|rfl) only[go_sem,Nat.zero_add]
 refine Fn.mono (zj6 w3 T) ?_
 rintro _ wo ⟨rfl,hEo⟩
 rw[hsh]
 unfold zfc
 simp only
 try simp only[go_sem]
 refine zfI (cs:=#[vi ns.length,vi us.length,vi 0,vi 0]) rfl rfl rfl rfl (vr0) rfl ?_
 try simp only[go_sem]
 refine hK _ _ ?_;clear hK hgd;clear K;try clear gd
 replace hR3:=hR3.extx hEo
 have hB3':=Ext.at hEo hB3
 refine go trivial ?_
 refine za3 ns.length (fun i σ v=>(σ 0= .pointer (some ⟨b,0,Option.none⟩)∧σ 1=vi T∧σ 4= .pointer (some ⟨w.heap.size,0,Option.none⟩)∧σ 5= .pointer (some ⟨P,0,Option.none⟩)∧σ 18=vi ns.length∧σ 19=vi i)∧Rdr W0 v b ((ns.drop i).map (fun n=>(tx n,false))++us.map fun m=>(numT m,false)) ov 0∧Keep (fun i=>i=b∨i=P) w3 v∧∃nv nvals,v.heap[P]? =some (.cells [vi T,nv,.slice Option.none 0 0,.slice Option.none 0 0,.slice Option.none 0 0].toArray 34 (0,0))∧Own w3.heap.size v 24 nv nvals∧nvals.length=i∧∀j (h:j<nvals.length) (h':j<ns.length),Hz (fun i=>i<w3.heap.size∨some i=nv.ownBlock) v (fun X=>Row X nvals[j] (ns[j].map vs))) ?_ ?_ ?_
 ·exact⟨⟨vr0,vr0,vr0,vr0,vr0,vr0⟩,hR3,hEo.mono fun _ _ h=>h.elim,_,[],hB3',Own.nil _ _ _,rfl,fun j h=>absurd h (by simp)⟩
 ·rintro i σ v hi ⟨r1,r2,r3,r4⟩ ⟨⟨s0,s1,s4,s5,s18,s19⟩,hR,hk,nv,nvals,hB,hown,hnl,hnr⟩
  obtain⟨n,hn⟩:∃n,ns[i]=n:=⟨_,rfl⟩
  rw[List.drop_eq_getElem_cons hi,hn,List.map_cons,List.cons_append]at hR
  have hnm:=hN n (hn▸List.getElem_mem hi)
  have qf:zad v (some ⟨P,1,Option.none⟩)=some nv:=za8 (j:=1) hB rfl
  have hvs:=hk.size
  have hPv:P<v.heap.size:=(Array.getElem?_eq_some_iff.1 hB).1
  refine go (an4 s0 s18 s19 r1) ?_
  refine zaR (fun i=>i==7) [(0,true),(1,true),(2,true),(3,false),(4,false),(5,false),(6,true),(7,false)] ((fun i=>i=b∨w3.heap.size≤i)) mixed (by kernel_rfl) ?_;intro gd K x hgd hx hxe hK;have hx0:=zaQ hxe;clear hxe
  have qx:=zab hx0 qf
  have hsx:=hx0.size
  simp (disch:=first|omega|assumption|rfl) only[go_sem,s0,s5,qx,Nat.zero_add]
  refine⟨fun a ha hb'=>by cases ha;dsimp only at hb';omega,?_⟩
  refine Fn.mono (zkf (hR.extx hx0) (by simp;omega) hnm.2.1 ho hoT) ?_
  rw[hnm.1]
  rintro fv y1 ⟨hrow,hbk,hR1,hk1⟩
  rw[show zbi (if false=true then zbi 0 2 else 0) ((n,0):Nm×Int).2=0 from rfl]at hR1
  refine⟨.inr (hk1.mono fun i _ h=> .inl h),?_⟩
  obtain⟨fva,fvc,hfve,_⟩:=id hrow
  simp (disch:=first|omega|assumption|rfl) only[go_sem]
  refine za5 (z:= .slice Option.none 0 0) (v:=fv) rfl rfl rfl rfl (by rw[hfve];rfl) ?_
  intro y2 hy2 hys2 hyo
  refine⟨.inr hy2.keep,?_⟩
  simp (disch:=first|omega|assumption|rfl) only[go_sem]
  have hsy1:=hk1.size
  have hsy2:=hy2.size
  have hownY:=((hown.ext hx0).keep hk1 fun j hj hs=>by have:=(hown.ge hj).1;omega).ext hy2
  refine zaV (e:=24) hownY hyo.row rfl rfl rfl rfl rfl rfl (vr0) (vr0) (fun q hq=>by rw[List.mem_singleton.1 hq];rw[hfve];rfl) (by rw[List.length_singleton];omega) (by decide) (by omega) ?_
  intro nv' y3 hown3 hX3 hK3 hb3
  refine⟨.inr (hK3.mono fun j _ hj=> .inr (hownY.ge hj).1),?_⟩
  simp (disch:=first|omega|assumption|rfl) only[go_sem,s5,Nat.zero_add]
  have hsK:=hK3.size
  obtain⟨a7,c7,hnv7⟩:=hown3.slice
  have hBP3:y3.heap[P]? =_:=(hK3.block P (by omega) (fun h=>by have:=(hownY.ge h).1;omega)).trans ((hy2.block P (by omega) (fun h=>h)).trans ((hk1.block P (by omega) (by omega)).trans (Ext.at hx0 hB)))
  refine zcA (P:=Tryz.prog) (t:=30) (j:=1) (u:=nv') hBP3 (by simp) (by rw[hnv7];rfl) rfl rfl ?_
  intro z hzs hBz hkz
  refine⟨.inl rfl,?_⟩
  simp (disch:=first|omega|assumption|rfl) only[go_sem]
  refine hK _ _ ?_;clear hK hgd;clear K;try clear gd
  simp only[List.set_cons_zero,List.set_cons_succ]at hBz
  have hob:∀i,i<y2.heap.size→(i<w3.heap.size∨some i=nv'.ownBlock)→(i<w3.heap.size∨some i=nv.ownBlock):=fun i hi h=>by
   rcases h with h|h
   ·exact .inl h
   ·rcases hb3 i h with h|h
    ·exact .inr h
    ·omega
  have mv:∀{P':World→Prop},Hz (fun i=>i<w3.heap.size∨some i=nv.ownBlock) v P'→Hz (fun i=>i<w3.heap.size∨some i=nv'.ownBlock) z P':=fun h=>
   ((((h.ext hx0).app hk1 (fun i _ hi=> .inl (by omega)) (fun i _ hi=>hi)).ext hy2).app hK3 (fun i _ hi=> .inr hi) hob).app hkz (fun i _ hi=> .inl (by omega)) (fun i _ hi=>hi)
  have hkf:Keep (fun i=>i=b∨i=P) w3 z:=((((hk.trans (hx0.mono fun _ _ h=>h.elim)).trans (hk1.mono fun _ _ h=> .inl h)).trans (hy2.mono fun _ _ h=>h.elim)).own hK3 fun j hj h=>by have:=(hownY.ge h).1;omega).trans (hkz.mono fun _ _ h=> .inr h)
  have hRz:Rdr W0 z b _ ov 0:=((hR1.extx hy2).keep hK3 fun j hj=>by have:=(hownY.ge hj).1;omega).keep hkz fun j hj=>by omega
  have hoz:=hown3.keep hkz fun j hj hs=>by have:=(hown3.ge hj).1;omega
  refine go (an9 s0 s1 s4 s5 s18 s19 r4 trivial trivial) ?_
  refine⟨rfl,⟨(vq1 s0),(vq1 s1),(vq1 s4),(vq1 s5),(vq1 s18),(vq1 r4)⟩,hRz,hkf,nv',nvals++ [fv],hBz,hoz,by simp;omega,fun j h h'=>?_⟩
  by_cases hj:j<nvals.length
  ·rw[List.getElem_append_left hj]
   exact mv (hnr j hj h')
  ·have hjk:j=i:=by simp at h;omega
   subst hjk
   rw[List.getElem_append_right (by omega)]
   simp only[hnl,Nat.sub_self,List.getElem_cons_zero,hn]
   have hrz:Row z fv (n.map vs):=by
    refine Row.blocks (w:=y3) (Row.blocks (w:=y2) (hrow.ext hy2) fun a n' c hv=>?_) fun a n' c hv=>?_
    ·have h2:=hbk a n' c hv
     exact hK3.block _ (by omega) (fun hh=>by have:=(hown.ge hh).2;omega)
    ·have h2:=hbk a n' c hv
     exact hkz.block _ (by omega) (by omega)
   refine row_hz hrz fun a n' c hv=>?_
   have h2:=hbk a n' c hv
   refine⟨by omega,?_⟩
   rintro(h3|h3)
   ·omega
   ·rcases hb3 _ h3 with h3|h3
    ·have:=(hown.ge h3).2;omega
    ·omega
 rintro σ v r ⟨⟨s0,s1,s4,s5,s18,s19⟩,hR,hk,nmv,nvals,hB,hown,hnl2,hnr⟩
 have hNz:Hz (fun i=>i<w3.heap.size∨some i=(Value.slice Option.none 0 0).ownBlock) v (fun X=>NamesAt X nmv ns):=fun X hX=>by
  refine⟨nvals,(hown.keep hX fun i hi hs=>?_).row,hnl2,fun j h h'=>hnr j h h' X (hX.mono fun i _ hi=>?_)⟩
  ·have:=(hown.ge hi).1
   rcases hs with hs|hs
   ·omega
   ·cases hs
  ·rcases hi with hi|hi
   ·exact .inl hi
   ·cases hi
 rw[List.drop_length,List.map_nil,List.nil_append]at hR
 refine go (an6 s0 s1 s4 s5 s18 (an2 s19 r)) ?_
 refine rq ?_;intro gd K hgd hK
 try simp (disch:=first|omega|assumption|rfl) only[go_sem,s1]
 refine Fn.mono (zj6 v T) ?_
 rintro _ vo ⟨rfl,hEo⟩
 rw[hsh]
 unfold zfc
 simp only
 try simp only[go_sem]
 refine zfI (cs:=#[vi ns.length,vi us.length,vi 0,vi 0]) rfl rfl rfl rfl (vr0) rfl ?_
 try simp only[go_sem]
 refine hK _ _ ?_;clear hK hgd;clear K;try clear gd
 replace hNz:=hNz.ext hEo
 refine go (an4 s0 s1 s4 s5) ?_
 refine za3 us.length (fun i σ v=>(σ 0= .pointer (some ⟨b,0,Option.none⟩)∧σ 1=vi T∧σ 4= .pointer (some ⟨w.heap.size,0,Option.none⟩)∧σ 5= .pointer (some ⟨P,0,Option.none⟩)∧σ 31=vi us.length∧σ 32=vi i)∧Rdr W0 v b ((us.drop i).map fun m=>(numT m,false)) ov 0∧Keep (fun i=>i=b∨i=P) w3 v∧∃nv nvals,v.heap[P]? =some (.cells [vi T,nmv,nv,.slice Option.none 0 0,.slice Option.none 0 0].toArray 34 (0,0))∧Own w3.heap.size v 29 nv nvals∧nvals.length=i∧nvals=(us.take i).map v32∧Hz (fun i=>i<w3.heap.size∨some i=nv.ownBlock) v (fun X=>NamesAt X nmv ns)) ?_ ?_ ?_
 ·exact⟨⟨(vr1 s0),(vr1 s1),(vr1 s4),(vr1 s5),vr0,vr0⟩,hR.extx hEo,hk.trans (hEo.mono fun _ _ h=>h.elim),_,[],Ext.at hEo hB,Own.nil _ _ _,rfl,rfl,hNz⟩
 clear s0 s1 s4 s5 s18 s19 r hR hk hB
 ·rintro i σ v hi ⟨r1,r2,r3,r4⟩ ⟨⟨s0,s1,s4,s5,s18,s19⟩,hR,hk,nv,nvals,hB,hown,hnl,hnr,hNz⟩
  obtain⟨n,hn⟩:∃n,us[i]=n:=⟨_,rfl⟩
  rw[List.drop_eq_getElem_cons hi,hn,List.map_cons]at hR
  have hnm:=hNu n (hn▸List.getElem_mem hi)
  have qf:zad v (some ⟨P,2,Option.none⟩)=some nv:=za8 (j:=2) hB rfl
  have hvs:=hk.size
  have hPv:P<v.heap.size:=(Array.getElem?_eq_some_iff.1 hB).1
  refine go (an4 s0 s18 s19 r1) ?_
  refine zaR (fun i=>i==7) [(0,true),(1,true),(2,true),(3,false),(4,false),(5,false),(6,true),(7,false)] ((fun i=>i=b∨w3.heap.size≤i)) mixed (by kernel_rfl) ?_;intro gd K x hgd hx hxe hK;have hx0:=zaQ hxe;clear hxe
  have qx:=zab hx0 qf
  have hsx:=hx0.size
  simp (disch:=first|omega|assumption|rfl) only[go_sem,s0,s5,qx,Nat.zero_add]
  refine⟨fun a ha hb'=>by cases ha;dsimp only at hb';omega,?_⟩
  refine Fn.mono (num_ok hW (hR.extx hx0) (by simp;omega) (by have:=hnm.2;omega) 4294967295 (by decide)) ?_
  rw[hnm.1.1]
  rintro fv y1 ⟨hfv,hR1,hk1⟩
  rw[show zbi (if false=true then zbi 0 2 else 0) ((n.toNat,0):Nat×Int).2=0 from rfl]at hR1
  rw[show (((n.toNat,0):Nat×Int).1:Int)=n from hnm.1.2]at hfv
  subst hfv
  refine⟨.inr (hk1.mono fun i _ h=> .inl h),?_⟩
  simp (disch:=first|omega|assumption|rfl) only[go_sem]
  refine za5 (z:=v32 0) rfl rfl rfl rfl rfl ?_
  intro y2 hy2 hys2 hyo
  refine⟨.inr hy2.keep,?_⟩
  simp (disch:=first|omega|assumption|rfl) only[go_sem]
  have hsy1:=hk1.size
  have hsy2:=hy2.size
  have hownY:=((hown.ext hx0).keep hk1 fun j hj hs=>by have:=(hown.ge hj).1;omega).ext hy2
  refine zaV (e:=29) hownY hyo.row rfl rfl rfl rfl rfl rfl (vr0) (vr0) (fun q hq=>by rw[List.mem_singleton.1 hq];rfl) (by rw[List.length_singleton];omega) (by decide) (by omega) ?_
  intro nv' y3 hown3 hX3 hK3 hb3
  refine⟨.inr (hK3.mono fun j _ hj=> .inr (hownY.ge hj).1),?_⟩
  simp (disch:=first|omega|assumption|rfl) only[go_sem,s5,Nat.zero_add]
  have hsK:=hK3.size
  obtain⟨a7,c7,hnv7⟩:=hown3.slice
  have hBP3:y3.heap[P]? =_:=(hK3.block P (by omega) (fun h=>by have:=(hownY.ge h).1;omega)).trans ((hy2.block P (by omega) (fun h=>h)).trans ((hk1.block P (by omega) (by omega)).trans (Ext.at hx0 hB)))
  refine zcA (P:=Tryz.prog) (t:=31) (j:=2) (u:=nv') hBP3 (by simp) (by rw[hnv7];rfl) rfl rfl ?_
  intro z hzs hBz hkz
  refine⟨.inl rfl,?_⟩
  simp (disch:=first|omega|assumption|rfl) only[go_sem]
  refine hK _ _ ?_;clear hK hgd;clear K;try clear gd
  simp only[List.set_cons_zero,List.set_cons_succ]at hBz
  have hob:∀i,i<y2.heap.size→(i<w3.heap.size∨some i=nv'.ownBlock)→(i<w3.heap.size∨some i=nv.ownBlock):=fun i hi h=>by
   rcases h with h|h
   ·exact .inl h
   ·rcases hb3 i h with h|h
    ·exact .inr h
    ·omega
  have mv:∀{P':World→Prop},Hz (fun i=>i<w3.heap.size∨some i=nv.ownBlock) v P'→Hz (fun i=>i<w3.heap.size∨some i=nv'.ownBlock) z P':=fun h=>
   ((((h.ext hx0).app hk1 (fun i _ hi=> .inl (by omega)) (fun i _ hi=>hi)).ext hy2).app hK3 (fun i _ hi=> .inr hi) hob).app hkz (fun i _ hi=> .inl (by omega)) (fun i _ hi=>hi)
  have hkf:Keep (fun i=>i=b∨i=P) w3 z:=((((hk.trans (hx0.mono fun _ _ h=>h.elim)).trans (hk1.mono fun _ _ h=> .inl h)).trans (hy2.mono fun _ _ h=>h.elim)).own hK3 fun j hj h=>by have:=(hownY.ge h).1;omega).trans (hkz.mono fun _ _ h=> .inr h)
  have hRz:Rdr W0 z b _ ov 0:=((hR1.extx hy2).keep hK3 fun j hj=>by have:=(hownY.ge hj).1;omega).keep hkz fun j hj=>by omega
  have hoz:=hown3.keep hkz fun j hj hs=>by have:=(hown3.ge hj).1;omega
  refine go (an9 s0 s1 s4 s5 s18 s19 r4 trivial trivial) ?_
  exact⟨rfl,⟨(vq1 s0),(vq1 s1),(vq1 s4),(vq1 s5),(vq1 s18),(vq1 r4)⟩,hRz,hkf,nv',nvals++ [v32 n],hBz,hoz,by simp;omega,by rw[hnr,zai hi,hn,List.map_append];rfl,mv hNz⟩
 clear hNz hB hR hk s0 s1 s4 s5 s18 s19 r
 rintro σ z r ⟨⟨s0,s1,s4,s5,s18,s19⟩,hR,hk,nuv,uvals,hB,hownU,hul2,hur,hNz⟩
 rw[List.drop_length,List.map_nil]at hR
 rw[List.take_length]at hur
 subst hur
 obtain⟨una,unc,hnuv⟩:=hownU.slice
 obtain⟨_,hnmr,_,_⟩:=hNz.now
 have q5:=zal (n:=5) hB rfl
 have hks:=hk.size
 refine go (an6 s0 s4 s5 s18 s19 r) ?_
 refine rq ?_;intro gd K hgd hK
 try simp (disch:=first|omega|assumption|rfl) only[go_sem,s4,s5,q5]
 have hA5:z.heap[w.heap.size]? =_:=(hk.block _ (by omega) (by omega)).trans (Ext.at (hE2.trans hE3) hA)
 refine zaJ (P:=Tryz.prog) (t:=34) (l:=[vi T,nmv,nuv,.slice Option.none 0 0,.slice Option.none 0 0]) hA5 rfl (zdf _ _ _ _ _ hnmr.isOne (by rw[hnuv];rfl) rfl rfl) rfl rfl ?_
 intro w6 hs6 hB6 hk6
 try simp only[go_sem]
 refine hK _ _ ?_;clear hK hgd;clear K;try clear gd
 refine go trivial ?_
 refine zaf (.inr rfl) Tryz.ntmps160 rfl (zaO (x:=⟨w.heap.size,0,Option.none⟩) (k:=5) ((vr1 s4)) rfl rfl (zal hB6 rfl) zae) ?_
 have hE13:=(hE1.trans hE2).trans hE3
 refine⟨⟨nmv,nuv,rfl,(hownU.keep hk6 fun i hi hs=>by have:=(hownU.ge hi).1;omega).mono (by omega),hNz.app hk6 (fun i _ hi=> .inl (by omega)) (fun i _ hi=> .inl (by omega))⟩,hR.keep hk6 fun i hi=>by omega,?_⟩
 exact(((hE13.mono fun _ _ h=>h.elim):Keep (fun i=>i=b) w w3).own hk fun i hi h=>by omega).own hk6 fun i hi h=>by omega
theorem za6{d:DatL}(h:zbe d=0):(1≤d.ty∧d.ty≤65535)∧zbh d=true∧(∀n∈d.names,zaS n=0)∧(d.ty=15→d.nums.headD 0≤65535)∧d.raw.length≤1024∧∀t∈d.texts,t.length≤255:=by
 unfold zbe at h
 split at h
 ·cases h
 ·rename_i h1
  split at h
  ·cases h
  ·rename_i h2
   split at h
   ·rename_i n hn
    have:=List.find?_some hn
    simp[h]at this
   ·rename_i hn
    rw[List.find?_eq_none]at hn
    split at h
    ·cases h
    ·rename_i h3
     split at h
     ·cases h
     ·rename_i h4
      refine⟨by omega,by simpa using h2,fun n hm=>by simpa using hn n hm,fun h=>by omega,by omega,fun t ht=>?_⟩
      have h5:¬zdI d.texts=true:=fun e=>h4 (.inr e)
      unfold zdI at h5
      rw[List.any_eq_true]at h5
      by_cases h6:t.length≤255
      ·exact h6
      ·exact absurd ⟨t,ht,decide_eq_true (by omega)⟩ h5
theorem zdK{c:UInt8}{ps:List Lab}{Q:UInt8→Prop}(hc:Q c)(h:∀p∈ps,∀x∈p,Q x):∀x∈zaL [c] ps,Q x:=fun x hx=>by
 cases ps with
 |nil=>cases hx
 |cons p r=>
  rcases List.mem_append.1 (show x∈p++r.flatMap fun y=>[c]++y from hx) with h1|h1
  ·exact h p (List.mem_cons_self ..) x h1
  ·obtain⟨y,hy,hxy⟩:=List.mem_flatMap.1 h1
   rcases List.mem_append.1 hxy with h2|h2
   ·rw[List.mem_singleton.1 h2];exact hc
   ·exact h y (List.mem_cons_of_mem _ hy) x h2
theorem zeo{c:UInt8}{ps:List Lab}(h0:ps≠ [])(h:∀p∈ps,p≠ []):zaL [c] ps≠ []:=by
 cases ps with
 |nil=>exact absurd rfl h0
 |cons p r=>
  intro e
  have:=List.append_eq_nil_iff.1 (show p++r.flatMap (fun y=>[c]++y)=[] from e)
  exact h p (List.mem_cons_self ..) this.1
theorem zfM{p:Lab}{q:Bool}{r:List (Lab×Bool)}(h:q=true∨p≠ [92,35]):zbU ((p,q)::r)=false:=by
 show decide ((p,q)=(([92,35]:Lab),false))=false
 refine decide_eq_false fun e=>?_
 have e1:=congrArg Prod.fst e
 have e2:=congrArg Prod.snd e
 rcases h with h|h
 ·rw[h]at e2;cases e2
 ·exact h e1
theorem zfN{p:Lab}{r:List (Lab×Bool)}(h:∀c∈p,c≠92):zbU ((p,false)::r)=false:=zfM (.inr fun e=>h 92 (by rw[e];simp) rfl)
theorem zc0{n:Nm}(h:zaS n=0):(zaD n).length≤2000:=by
 have h1:=(zeP h).2
 have h2:=zdA n
 have h3:∀n:Nm,(n.map fun l=>1+l.length).sum=(n.map List.length).sum+n.length:=fun n=>by
  induction n with
  |nil=>rfl
  |cons l n ih=>simp only[List.map_cons,List.sum_cons,List.length_cons,ih];omega
 have h4:=h3 n
 unfold lenN at h1
 unfold zaD
 split
 ·decide
 ·omega
theorem SplC.p{s:Lab}{ps:List Lab}(h:SplC 46 s ps):SplP s ps:=⟨h.sp,h.ct⟩
theorem octP_dec(c:UInt8):octP (Lib.decDigits c.toNat)=zao c:=by
 have hc:=c.toNat_lt
 unfold octP
 rw[zcs (by omega)]
 simp
theorem zgJ:∀l:List UInt8,zhq 0 (l.map fun c=>Lib.decDigits c.toNat)=0
 | []=>rfl
 |c::l=>by
  have hc:=c.toNat_lt
  have ih:=zgJ l
  unfold zhq at*
  rw[List.map_cons,List.foldl_cons,zcs (by omega)]
  exact ih
theorem zfh{α β:Type}{f g:α→List β}:∀{l:List α},(∀x∈l,f x=g x)→l.flatMap f=l.flatMap g
 | [],_=>rfl
 |x::l,h=>by rw[List.flatMap_cons,List.flatMap_cons,h x (List.mem_cons_self ..),zfh fun y hy=>h y (List.mem_cons_of_mem _ hy)]
theorem zjT(raw:List UInt8)(h:raw.length=16):(List.range 8).flatMap (fun i=>[raw.getD (2*i) 0,raw.getD (2*i+1) 0])=raw:=by
 iterate 16 (rcases raw with _| ⟨a,raw⟩;· exact absurd h (by simp))
 rcases raw with _| ⟨a,raw⟩
 ·rfl
 ·exact absurd h (by simp)
section
variable {w : World} {wv : Value} {oa : Option Addr} {on oc : Nat} {o : Nm} {d : DatL}
theorem back1(hW:WX w)(hc:zbe d=0)(ht:d.ty=1)(hr:Rows 2 WdC w wv (wF false (za0 hexU d) [] false)):Fn Tryz.prog 134 #[vi d.ty,wv,.slice oa on oc] w (fun v w'=>Ext w w'∧∃cs:List Value,v= .tuple #[.agg cs.toArray,vi 0]∧GD d w.heap.size cs w'):=by
 obtain⟨⟨t1,t2⟩,hf,hnm,_,_,_⟩:=za6 hc
 obtain⟨h1,h2,h3,h4⟩:=zbg hf (a:=0) (c:=0) (r:=4) (by rw[ht];rfl)
 have h4:=h4 (by decide)
 have e1:=zbk h1
 have e2:=zbk h2
 obtain⟨ps,hps⟩:∃ps,(d.raw.map fun c=>Lib.decDigits c.toNat)=ps:=⟨_,rfl⟩
 have hp4:ps.length=4:=by rw[←hps,List.length_map];omega
 have hpd:∀p∈ps,p≠ []∧p.length≤20∧∀c∈p,digB c=true:=fun p hp=>by
  rw[←hps]at hp
  obtain⟨c,_,rfl⟩:=List.mem_map.1 hp
  have hcl:=c.toNat_lt
  exact⟨zeO _,by have:=zbb 19 c.toNat (by omega);omega,zbG _⟩
 have hch:∀c∈zaL [46] ps,c≠92∧c≠34∧c≠32:=zdK (by decide) fun p hp c hc=>by
  have:=zdO ((hpd p hp).2.2 c hc)
  exact⟨this.1,this.2.1,this.2.2.1⟩
 have hne:zaL [46] ps≠ []:=zeo (fun e=>by rw[e]at hp4;cases hp4) fun p hp=>(hpd p hp).1
 have hlen:(zaL [46] ps).length≤1000:=by
  have:=zb3 [46] ps
  have h2:=zbT (m:=20) (l:=ps) fun p hp=>(hpd p hp).2.1
  simp at this;omega
 rw[zhI hf ht,hps,zbR (zex hne hch)]at hr
 have hsp:SplC 46 (zaL [46] ps) ps:=by
  cases ps with
  |nil=>cases hp4
  |cons p r=>exact zeC 46 r p fun x hx e=>absurd ((hpd x hx).2.2 46 e) (by decide)
 rw[ht]
 refine PkG (by decide) (by decide) hr fun b w1 h=>?_
 rw[if_neg (by rw[zfN fun c hc=>(hch c hc).1];decide)]
 refine Fn.mono (zjW hW h (by omega) hsp.p (by omega) fun p hp=>by have:=(hpd p hp).2.1;omega) ?_
 rintro _ w' ⟨⟨rv,rfl,hown⟩,hR,hk⟩
 rw[if_pos hp4,if_neg (by decide),←hps,zgJ]at hR
 have hrow:ps.map octP=d.raw.map zao:=by
  rw[←hps,List.map_map]
  exact List.map_congr_left fun c _=>octP_dec c
 rw[hrow]at hown
 exact⟨⟨_,rfl,fun X hX=>⟨_,_,_,_,by rw[ht],by rw[e1];exact zcb X,by rw[e2];exact zbM X,by rw[h3];exact zbM X,zd6 hown X hX⟩⟩,hR,hk⟩
theorem back28(hW:WX w)(hc:zbe d=0)(ht:d.ty=28)(hr:Rows 2 WdC w wv (wF false (za0 hexU d) [] false)):Fn Tryz.prog 134 #[vi d.ty,wv,.slice oa on oc] w (fun v w'=>Ext w w'∧∃cs:List Value,v= .tuple #[.agg cs.toArray,vi 0]∧GD d w.heap.size cs w'):=by
 obtain⟨⟨t1,t2⟩,hf,hnm,_,_,_⟩:=za6 hc
 obtain⟨h1,h2,h3,_⟩:=zbg hf (a:=0) (c:=0) (r:=16) (by rw[ht];rfl)
 have e1:=zbk h1
 have e2:=zbk h2
 obtain⟨h16,htx⟩:=tx_28 hf ht
 obtain⟨ps,hps⟩:∃ps,(List.range 8).map (zdl d.raw)=ps:=⟨_,rfl⟩
 have hp8:ps.length=8:=by rw[←hps];rfl
 have hpd:∀p∈ps,p≠ []∧p.length≤4∧∀c∈p,∃j,j<16∧c=hexD j:=fun p hp=>by
  rw[←hps]at hp
  obtain⟨i,_,rfl⟩:=List.mem_map.1 hp
  unfold zdl
  have g1:=(d.raw.getD (2*i) 0).toNat_lt
  have g2:=(d.raw.getD (2*i+1) 0).toNat_lt
  exact⟨zkx _,zc5 3 _ (by omega),zfT _ _ (Nat.le_refl _)⟩
 have hpc:∀p∈ps,∀c∈p,c≠92∧c≠34∧c≠32∧c≠58∧c∈digs16∧(hexV c).isSome=true:=fun p hp c hc=>by
  obtain⟨j,hj,rfl⟩:=(hpd p hp).2.2 c hc
  obtain⟨a1,a2,a3,a4,a5,a6⟩:=zc6 j hj
  exact⟨a4,a5,a6,a3,a2,by rw[a1];rfl⟩
 have hch:∀c∈zaL [58] ps,c≠92∧c≠34∧c≠32:=zdK (by decide) fun p hp c hc=>by
  have:=hpc p hp c hc
  exact⟨this.1,this.2.1,this.2.2.1⟩
 have hne:zaL [58] ps≠ []:=zeo (fun e=>by rw[e]at hp8;cases hp8) fun p hp=>(hpd p hp).1
 have hlen:(zaL [58] ps).length≤1000:=by
  have:=zb3 [58] ps
  have h2:=zbT (m:=4) (l:=ps) fun p hp=>(hpd p hp).2.1
  simp at this;omega
 rw[htx,hps,zbR (zex hne hch)]at hr
 have hsp:SplC 58 (zaL [58] ps) ps:=by
  cases ps with
  |nil=>cases hp8
  |cons p r=>exact zeC 58 r p fun x hx e=>(hpc x hx 58 e).2.2.2.1 rfl
 rw[ht]
 refine PkG (by decide) (by decide) hr fun b w1 h=>?_
 rw[if_neg (by rw[zfN fun c hc=>(hch c hc).1];decide)]
 refine Fn.mono (own28_ok hW h (by omega) hsp hp8 fun p hp=>⟨(hpd p hp).1,(hpd p hp).2.1,fun c hc=>(hpc p hp c hc).2.2.2.2⟩) ?_
 rintro _ w' ⟨⟨rv,rfl,hown⟩,hR,hk⟩
 have hrow:ps.flatMap zgv=d.raw:=by
  rw[←zjT d.raw h16,←hps,List.flatMap_map]
  refine zfh fun i _=>?_
  have g1:=(d.raw.getD (2*i) 0).toNat_lt
  have g2:=(d.raw.getD (2*i+1) 0).toNat_lt
  unfold zgv zdl
  rw[zia _ _ (Nat.le_refl _)]
  rw[show ((d.raw.getD (2*i) 0).toNat*256+(d.raw.getD (2*i+1) 0).toNat) / 256=(d.raw.getD (2*i) 0).toNat by omega,show((d.raw.getD (2*i) 0).toNat*256+(d.raw.getD (2*i+1) 0).toNat) % 256=(d.raw.getD (2*i+1) 0).toNat by omega]
  simp
 rw[hrow]at hown
 exact⟨⟨_,rfl,fun X hX=>⟨_,_,_,_,by rw[ht],by rw[e1];exact zcb X,by rw[e2];exact zbM X,by rw[h3];exact zbM X,zd6 hown X hX⟩⟩,hR,hk⟩
theorem back16(hc:zbe d=0)(ht:d.ty=16)(hr:Rows 2 WdC w wv (wF false (za0 hexU d) [] false)):Fn Tryz.prog 134 #[vi d.ty,wv,.slice oa on oc] w (fun v w'=>Ext w w'∧∃cs:List Value,v= .tuple #[.agg cs.toArray,vi 0]∧GD d w.heap.size cs w'):=by
 obtain⟨⟨t1,t2⟩,hf,hnm,_,_,htl⟩:=za6 hc
 obtain⟨h1,h2,h3,h4⟩:=zdZ hf
 unfold txD at h3
 unfold rwD at h4
 rw[ht]at h1 h2 h3 h4
 have e1:=zbk h1
 have e2:=zbk h2
 have e4:=zbk (show(d.raw.length:Int)=0 from h4)
 rw[if_pos (by decide)]at h3
 rw[tx_16 hf ht,zg8]at hr
 rw[ht]
 refine PkG (by decide) (by decide) hr fun b w1 h=>?_
 have hne:d.texts≠ []:=fun e=>by rw[e,List.length_nil]at h3;omega
 have hmk:zbU (d.texts.map fun t=>(quoL t,true))=false:=by
  cases hx:d.texts with
  |nil=>exact absurd hx hne
  |cons t r=>exact zfM (.inl rfl)
 rw[if_neg (by rw[hmk];decide)]
 refine Fn.mono (own16_ok h (by rw[List.length_map];omega) (by rw[List.length_map];omega) fun x hx=>?_) ?_
 ·obtain⟨t,htm,rfl⟩:=List.mem_map.1 hx
  have:=htl t htm
  have h5:=zb0 t
  show(quoL t).length≤_
  omega
 rintro _ w' ⟨⟨tv,rfl,hown⟩,hR,hk⟩
 have hun:∀t,unD [] 0 (quoL t) []=(t,0):=fun t=>by rw[zjr,List.nil_append]
 have herr:zgI 0 (d.texts.map fun t=>(quoL t,true))=0:=by
  have:∀l:List Lab,(∀t∈l,t.length≤255)→zgI 0 (l.map fun t=>(quoL t,true))=0:=fun l=>by
   induction l with
   |nil=>intro _;rfl
   |cons t l ih=>
    intro h
    have h6:errT (quoL t)=0:=by
     unfold errT
     rw[hun]
     have:=h t (List.mem_cons_self ..)
     show(if (0:Int)=0∧255<t.length then(3:Int) else 0)=0
     rw[if_neg (by omega)]
    have ih':=ih fun x hx=>h x (List.mem_cons_of_mem _ hx)
    unfold zgI at*
    rw[List.map_cons,List.foldl_cons,h6]
    exact ih'
  exact this _ htl
 rw[herr]at hR
 have hrow:((d.texts.map fun t=>(quoL t,true)).map fun x=>untT x.1)=d.texts:=by
  rw[List.map_map]
  have:∀t∈d.texts,((fun x:Lab×Bool=>untT x.1)∘fun t=>(quoL t,true)) t=t:=fun t _=>by
   show(unD [] 0 (quoL t) []).1=t
   rw[hun]
  rw[List.map_congr_left this,List.map_id']
 rw[hrow]at hown
 exact⟨⟨_,rfl,fun X hX=>⟨_,_,_,_,by rw[ht],by rw[e1];exact zcb X,by rw[e2];exact zbM X,zd6 hown X hX,by rw[e4];exact zbM X⟩⟩,hR,hk⟩
theorem back15(hW:WX w)(ho:Row w (.slice oa on oc) (o.map vs))(hoT:NmT o)(hc:zbe d=0)(hT:DatT d)(ht:d.ty=15)(hr:Rows 2 WdC w wv (wF false (za0 hexU d) [] false)):Fn Tryz.prog 134 #[vi d.ty,wv,.slice oa on oc] w (fun v w'=>Ext w w'∧∃cs:List Value,v= .tuple #[.agg cs.toArray,vi 0]∧GD d w.heap.size cs w'):=by
 obtain⟨_,hf,hnm,hmx,_,_⟩:=za6 hc
 obtain⟨m,n,hm,hn,htx⟩:=tx_15 hf ht
 obtain⟨h1,h2,h3,h4⟩:=zbg hf (a:=1) (c:=1) (r:=0) (by rw[ht];rfl)
 have e4:=zbk (h4 (by decide))
 have hm2:m≤65535:=by have:=hmx ht;rw[hm]at this;exact this
 have hm1:=hT.s.nv m (by rw[hm];simp)
 have hn0:=hnm n (by rw[hn];simp)
 have hnS:=hT.s.names n (by rw[hn];simp)
 have hx:=zc0 hn0
 have hnl:=zcq hm1.2
 obtain⟨k,rfl⟩:∃k:Nat,m=(k:Int):=⟨m.toNat,by omega⟩
 have hdk:decP 65535 (numT (k:Int))=(k,0):=zcs (by omega)
 have hd:∀c∈numT (k:Int),c≠92:=fun c hc=>(zdO (zbG k c hc)).1
 rw[htx,List.append_assoc,zck (show Tok (numT (k:Int)) from zdj k),zbR (zen n)]at hr
 rw[ht]
 refine PkG (by decide) (by decide) hr fun b w1 h=>?_
 rw[if_neg (by rw[zfN hd];decide)]
 refine Fn.mono (own15_ok (e1:=0) (e2:=0) hW h (by have:(numT (k:Int)).length≤20:=hnl;omega) (by omega) ho hoT (by rw[hdk];rfl) (by rw[zdH hn0];rfl)) ?_
 rintro _ w' ⟨⟨nmv,nuv,nv,rfl,a1,a2,a3,a4⟩,hR,hk⟩
 rw[show (zaX (zaD n) o).1=n from by rw[zdH hn0]]at a3
 rw[hdk]at a1
 refine⟨⟨_,rfl,fun X hX=>⟨_,_,_,_,by rw[ht],?_,by rw[hm];exact zd6 a1 X hX,by rw[h3];exact zbM X,by rw[e4];exact zbM X⟩⟩,hR,hk⟩
 rw[hn]
 exact zj4 (zd6 a2 X hX) (a3.blocks fun a n c hv=>hX.block _ (a4 a n c hv).2 (by have:=(a4 a n c hv).1;omega))
theorem backN(hW:WX w)(ho:Row w (.slice oa on oc) (o.map vs))(hoT:NmT o)(hc:zbe d=0)(hT:DatT d)(ht:d.ty=2∨d.ty=5∨d.ty=12∨d.ty=39∨d.ty=6)(hr:Rows 2 WdC w wv (wF false (za0 hexU d) [] false)):Fn Tryz.prog 134 #[vi d.ty,wv,.slice oa on oc] w (fun v w'=>Ext w w'∧∃cs:List Value,v= .tuple #[.agg cs.toArray,vi 0]∧GD d w.heap.size cs w'):=by
 obtain⟨⟨t1,t2⟩,hf,hnm,_,_,_⟩:=za6 hc
 obtain⟨a,c,hsh,hac⟩:∃a c:Int,zay d.ty=(a,c,0,0)∧1≤a∧a≤5∧0≤c∧c≤5:=by
  rcases ht with h|h|h|h|h<;>rw[h]
  ·exact⟨1,0,rfl,by decide⟩
  ·exact⟨1,0,rfl,by decide⟩
  ·exact⟨1,0,rfl,by decide⟩
  ·exact⟨1,0,rfl,by decide⟩
  ·exact⟨2,5,rfl,by decide⟩
 obtain⟨h1,h2,h3,h4⟩:=zbg hf hsh
 have e4:=zbk (h4 (by decide))
 have htk:∀p∈d.names.map zaD++d.nums.map numT,Tok p:=fun p hp=>by
  rcases List.mem_append.1 hp with h|h
  ·obtain⟨n,_,rfl⟩:=List.mem_map.1 h
   exact zen n
  ·obtain⟨m,_,rfl⟩:=List.mem_map.1 h
   exact zdj m.toNat
 rw[zem hf ht,zg9 _ htk,List.map_append,List.map_map,List.map_map]at hr
 refine PkG t1 t2 hr fun b w1 h=>?_
 have hmk:zbU (d.names.map ((fun p=>(p,false))∘zaD)++d.nums.map ((fun p=>(p,false))∘numT))=false:=by
  cases hx:d.names with
  |nil=>rw[hx]at h1;simp at h1;omega
  |cons n r=>
   refine zfM (.inr fun e=>?_)
   have h5:(zaD n).getLast? =some 46:=by
    unfold zaD
    split
    ·rfl
    ·rename_i hn
     have:∀n:Nm,n≠ []→(n.flatMap fun l=>zat l++ [46]).getLast? =some 46:=fun n=>by
      induction n with
      |nil=>intro h;exact absurd rfl h
      |cons l n ih=>
       intro _
       rw[List.flatMap_cons]
       cases n with
       |nil=>simp
       |cons m n=>rw[List.getLast?_append,ih (by simp)];rfl
     exact this n hn
   have e2:zaD n=[92,35]:=e
   rw[e2]at h5
   cases h5
 rw[if_neg (by rw[hmk];decide)]
 refine Fn.mono (zjV (tx:=zaD) hW (by omega) (by rw[hsh,←h1,←h2]) (by omega) (by omega) h ho hoT (fun n hn=>?_) (fun m hm=>?_)) ?_
 ·have:=hT.s.names n hn
  exact⟨zdH (hnm n hn),by have:=zcz this.1 this.2;omega,trivial⟩
 ·have:=hT.s.nv m hm
  exact⟨⟨zcs (by omega),by omega⟩,by have:=zcq this.2;omega⟩
 rintro _ w' ⟨⟨nmv,nuv,rfl,a1,a2⟩,hR,hk⟩
 refine⟨⟨_,rfl,fun X hX=>⟨_,_,_,_,rfl,a2 X hX,zd6 a1 X hX,by rw[h3];exact zbM X,by rw[e4];exact zbM X⟩⟩,hR,hk⟩
theorem backA(hW:WX w)(hc:zbe d=0)(ht:¬(d.ty=1∨d.ty=28∨d.ty=16∨d.ty=15∨d.ty=2∨d.ty=5∨d.ty=12∨d.ty=39∨d.ty=6))(hr:Rows 2 WdC w wv (wF false (za0 hexU d) [] false)):Fn Tryz.prog 134 #[vi d.ty,wv,.slice oa on oc] w (fun v w'=>Ext w w'∧∃cs:List Value,v= .tuple #[.agg cs.toArray,vi 0]∧GD d w.heap.size cs w'):=by
 obtain⟨⟨t1,t2⟩,hf,hnm,_,hrl,_⟩:=za6 hc
 have hsh:zay d.ty=(0,0,0, -1):=by
  unfold zay
  rw[if_neg (by omega),if_neg (by omega),if_neg (by omega),if_neg (by omega),if_neg (by omega),if_neg (by omega)]
 obtain⟨h1,h2,h3,_⟩:=zbg hf hsh
 have e1:=zbk h1
 have e2:=zbk h2
 have hd:d=rawD d.ty d.raw:=by
  cases d
  simp only at e1 e2 h3
  rw[e1,e2,h3]
  rfl
 obtain⟨rest,hrest⟩:∃r,(if 0<d.raw.length then [(hexT d.raw,false)] else [])=r:=⟨_,rfl⟩
 have hmt:Tok [92,35]:=⟨by simp,fun s w=>zeu 35 s w false⟩
 have hhx:∀c∈hexT d.raw,c≠92∧c≠34∧c≠32∧c∈digs16:=fun c hc=>by
  obtain⟨x,_,hx⟩:=List.mem_flatMap.1 hc
  have hxl:=x.toNat_lt
  simp only[hexB,List.mem_cons,List.not_mem_nil,or_false]at hx
  rcases hx with rfl|rfl
  ·have:=zc6 (x.toNat / 16) (by omega);exact⟨this.2.2.2.1,this.2.2.2.2.1,this.2.2.2.2.2,this.2.1⟩
  ·have:=zc6 (x.toNat % 16) (by omega);exact⟨this.2.2.2.1,this.2.2.2.2.1,this.2.2.2.2.2,this.2.1⟩
 have htk:wF false (za0 hexU d) [] false=([92,35],false)::(Lib.decDigits d.raw.length,false)::rest:=by
  rw[zhJ hf ht,←hrest]
  by_cases h0:0<d.raw.length
  ·rw[if_pos h0,if_pos h0]
   have e:([92,35,32]++Lib.decDigits d.raw.length++ [32])++hexT d.raw=[92,35]++([32]++(Lib.decDigits d.raw.length++([32]++hexT d.raw))):=by simp
   have hne:hexT d.raw≠ []:=fun e=>by have:=zb4 d.raw;rw[e]at this;simp at this;omega
   rw[e,zck hmt,zck (zdj _),zbR (zex hne fun c hc=>⟨(hhx c hc).1,(hhx c hc).2.1,(hhx c hc).2.2.1⟩)]
  ·rw[if_neg h0,if_neg h0]
   have hr0:d.raw=[]:=List.length_eq_zero_iff.1 (by omega)
   have e:([92,35,32]++Lib.decDigits d.raw.length++ [])++hexT d.raw=[92,35]++([32]++Lib.decDigits d.raw.length):=by rw[hr0];simp[hexT]
   rw[e,zck hmt,zbR (zdj _)]
 rw[htk]at hr
 have hcat:catW rest=hexT d.raw:=by
  rw[←hrest]
  by_cases h0:0<d.raw.length
  ·rw[if_pos h0];simp[catW]
  ·rw[if_neg h0,List.length_eq_zero_iff.1 (show d.raw.length=0 by omega)];rfl
 have hdl:=zbb 19 d.raw.length (by omega)
 refine PkG t1 t2 hr fun b w1 h=>?_
 rw[if_pos (show zbU _=true from rfl)]
 have hrs:∀x∈rest,x=(hexT d.raw,false):=fun x hx=>by
  rw[←hrest]at hx
  split at hx
  ·exact List.mem_singleton.1 hx
  ·cases hx
 have hrl2:rest.length≤1:=by rw[←hrest];split<;>simp
 have hpr:Pairs (catW rest) d.raw:=by
  rw[hcat]
  refine⟨zb4 _,fun i hi k1 k2=>?_⟩
  have:∀(l:List UInt8) (i:Nat) (h:i<l.length),(hexT l)[2*i]? =some (hexD (l[i].toNat / 16))∧(hexT l)[2*i+1]? =some (hexD (l[i].toNat % 16)):=fun l=>by
   induction l with
   |nil=>intro i h;simp at h
   |cons c l ih=>
    intro i h
    have e:hexT (c::l)=hexD (c.toNat / 16)::hexD (c.toNat % 16)::hexT l:=rfl
    cases i with
    |zero=>rw[e];exact⟨rfl,rfl⟩
    |succ j=>
     have:=ih j (by simpa using h)
     rw[e,show 2*(j+1)=2*j+1+1 by omega]
     simpa using this
  obtain⟨g1,g2⟩:=this d.raw i hi
  have hcl:=d.raw[i].toNat_lt
  rw[List.getElem?_eq_getElem k1]at g1
  rw[List.getElem?_eq_getElem k2]at g2
  rw[Option.some.inj g1,Option.some.inj g2]
  exact⟨_,_,(zc6 _ (by omega)).1,(zc6 _ (by omega)).1,by omega⟩
 refine Fn.mono (any_ok (n:=d.raw.length) hW h d.ty (by rw[hsh];decide) (by omega) (by omega) (zcs (by omega)) hrl (fun x hx=>?_) (by rw[hcat];exact zhK fun c hc=>(hhx c hc).2.2.2) (by rw[hcat];exact zb4 _) hpr) ?_
 ·rw[hrs x hx]
  have:=zb4 d.raw
  exact⟨rfl,by show(hexT d.raw).length≤_;omega⟩
 rintro _ w' ⟨⟨rv,rfl,hown⟩,hR,hk⟩
 rw[←hd,hc]at hR
 exact⟨⟨_,rfl,fun X hX=>⟨_,_,_,_,rfl,by rw[e1];exact zcb X,by rw[e2];exact zbM X,by rw[h3];exact zbM X,zd6 hown X hX⟩⟩,hR,hk⟩
theorem back_ok(hW:WX w)(ho:Row w (.slice oa on oc) (o.map vs))(hoT:NmT o)(hc:zbe d=0)(hT:DatT d)(hr:Rows 2 WdC w wv (wF false (za0 hexU d) [] false)):Fn Tryz.prog 134 #[vi d.ty,wv,.slice oa on oc] w (fun v w'=>Ext w w'∧∃cs:List Value,v= .tuple #[.agg cs.toArray,vi 0]∧GD d w.heap.size cs w'):=by
 by_cases h1:d.ty=1
 ·exact back1 hW hc h1 hr
 by_cases h28:d.ty=28
 ·exact back28 hW hc h28 hr
 by_cases h16:d.ty=16
 ·exact back16 hc h16 hr
 by_cases h15:d.ty=15
 ·exact back15 hW ho hoT hc hT h15 hr
 by_cases hn:d.ty=2∨d.ty=5∨d.ty=12∨d.ty=39∨d.ty=6
 ·exact backN hW ho hoT hc hT hn hr
 ·exact backA hW hc (by omega) hr
end
def prnB(c:UInt8):Bool:=decide (32≤c.toNat) && decide (c.toNat<127)
def Prn(s:Lab):Prop:=∀c∈s,prnB c=true
theorem Prn.app{s t:Lab}(h:Prn s)(k:Prn t):Prn (s++t):=fun c hc=>(List.mem_append.1 hc).elim (h c) (k c)
theorem zfD{α:Type}{f:α→Lab}{l:List α}(h:∀x∈l,Prn (f x)):Prn (l.flatMap f):=fun c hc=>by
 obtain⟨x,hx,hc⟩:=List.mem_flatMap.1 hc
 exact h x hx c hc
def zi2:Lab→Bool
 | []=>true
 |92::_::r=>zi2 r
 |c::r=>!stopsL.contains c && c !=92 && zi2 r
def ziD:Lab→Bool
 | []=>true
 |92::_::r=>ziD r
 |c::r=>c !=34 && c !=92 && ziD r
theorem zdc:∀(k:Nat) (p:Lab),p.length≤k→zi2 p=true→BareW p
 |_,[],_,_=> .nil
 |0,_::_,h,_=>by simp at h
 |k+1,c::r,hl,h=>by
  by_cases hc:c=92
  ·subst hc
   cases r with
   |nil=>exact absurd h (by decide)
   |cons d r=>exact .pair d r (zdc k r (by simp at hl;omega) h)
  ·have h2:(!stopsL.contains c && c !=92 && zi2 r)=true:=by
    unfold zi2 at h
    split at h
    ·rename_i e;cases e
    ·rename_i e;injection e with e;exact absurd e hc
    ·rename_i e;injection e with e1 e2;rw[e1,e2];exact h
   simp only[Bool.and_eq_true,Bool.not_eq_true',bne_iff_ne]at h2
   refine .one c r (fun hm=>?_) hc (zdc k r (by simp at hl;omega) h2.2)
   have:=List.contains_iff_mem.2 hm
   rw[h2.1.1]at this;cases this
theorem zfC:∀(k:Nat) (p:Lab),p.length≤k→ziD p=true→QuotW p
 |_,[],_,_=> .nil
 |0,_::_,h,_=>by simp at h
 |k+1,c::r,hl,h=>by
  by_cases hc:c=92
  ·subst hc
   cases r with
   |nil=>exact absurd h (by decide)
   |cons d r=>exact .pair d r (zfC k r (by simp at hl;omega) h)
  ·have h2:(c !=34 && c !=92 && ziD r)=true:=by
    unfold ziD at h
    split at h
    ·rename_i e;cases e
    ·rename_i e;injection e with e;exact absurd e hc
    ·rename_i e;injection e with e1 e2;rw[e1,e2];exact h
   simp only[Bool.and_eq_true,bne_iff_ne]at h2
   exact .one c r h2.1.1 hc (zfC k r (by simp at hl;omega) h2.2)
theorem BareW.app{p q:Lab}(h:BareW p)(k:BareW q):BareW (p++q):=by
 induction h with
 |nil=>exact k
 |pair d r _ ih=>exact .pair d _ ih
 |one c r h1 h2 _ ih=>exact .one c _ h1 h2 ih
theorem QuotW.app{p q:Lab}(h:QuotW p)(k:QuotW q):QuotW (p++q):=by
 induction h with
 |nil=>exact k
 |pair d r _ ih=>exact .pair d _ ih
 |one c r h1 h2 _ ih=>exact .one c _ h1 h2 ih
theorem zeY{α:Type}{f:α→Lab}:∀{l:List α},(∀x∈l,BareW (f x))→BareW (l.flatMap f)
 | [],_=> .nil
 |x::l,h=>by rw[List.flatMap_cons];exact(h x (List.mem_cons_self ..)).app (zeY fun y hy=>h y (List.mem_cons_of_mem _ hy))
theorem zh7(c:UInt8):BareW (labB c)∧Prn (labB c):=by
 have h:=zct (P:=fun c=>zi2 (labB c)=true∧(labB c).all prnB=true) (by decide+kernel) c
 exact⟨zdc _ _ (Nat.le_refl _) h.1,fun x hx=>List.all_eq_true.1 h.2 x hx⟩
theorem zhX(c:UInt8):QuotW (quoB c)∧Prn (quoB c):=by
 have h:=zct (P:=fun c=>ziD (quoB c)=true∧(quoB c).all prnB=true) (by decide+kernel) c
 exact⟨zfC _ _ (Nat.le_refl _) h.1,fun x hx=>List.all_eq_true.1 h.2 x hx⟩
theorem zdD:∀l:Lab,QuotW (quoL l)∧Prn (quoL l)
 | []=>⟨.nil,fun _ h=>by cases h⟩
 |c::l=>by
  have e:quoL (c::l)=quoB c++quoL l:=by unfold quoL;rw[List.flatMap_cons]
  rw[e]
  exact⟨(zhX c).1.app (zdD l).1,(zhX c).2.app (zdD l).2⟩
structure TkB(p:Lab):Prop where
 t:Tok p
 b:BareW p
 p:Prn p
def plnB(c:UInt8):Bool:=prnB c && !stopsL.contains c && c !=92
theorem zcx{p:Lab}(h0:p≠ [])(h:∀c∈p,plnB c=true):TkB p:=by
 have key:∀c,plnB c=true→prnB c=true∧(c∉stopsL)∧c≠92:=fun c h=>by
  unfold plnB at h
  simp only[Bool.and_eq_true,Bool.not_eq_true',bne_iff_ne]at h
  exact⟨h.1.1,fun hm=>(by have:=List.contains_iff_mem.2 hm;rw[h.1.2]at this;cases this),h.2⟩
 refine⟨zex h0 fun c hc=>?_,?_,fun c hc=>(key c (h c hc)).1⟩
 ·obtain⟨_,h1,h2⟩:=key c (h c hc)
  exact⟨h2,(fun e=>h1 (by rw[e];decide)),fun e=>h1 (by rw[e];decide)⟩
 ·have:∀q:Lab,(∀c∈q,plnB c=true)→BareW q:=fun q=>by
   induction q with
   |nil=>intro _;exact .nil
   |cons c q ih=>intro h;exact .one c q (key c (h c (List.mem_cons_self ..))).2.1 (key c (h c (List.mem_cons_self ..))).2.2 (ih fun x hx=>h x (List.mem_cons_of_mem _ hx))
  exact this p h
theorem zhv{c:UInt8}(h:digB c=true):plnB c=true:=zct (P:=fun c=>digB c=true→plnB c=true) (by decide+kernel) c h
theorem zhl{j:Nat}(h:j<16):plnB (hexD j)=true:=by
 have:∀j:Fin 16,plnB (hexD j.val)=true:=by decide+kernel
 exact this ⟨j,h⟩
theorem zcl(n:Nat):TkB (Lib.decDigits n):=zcx (zeO n) fun c hc=>zhv (zbG n c hc)
theorem zcZ(n:Nm):TkB (zaD n):=by
 have hb:BareW (zaD n)∧Prn (zaD n):=by
  unfold zaD
  split
  ·exact⟨zdc 1 _ (by decide) (by decide),by unfold Prn;decide⟩
  ·refine⟨zeY fun l _=>BareW.app (zeY fun c _=>(zh7 c).1) (zdc 1 _ (by decide) (by decide)),zfD fun l _=>Prn.app (zfD fun c _=>(zh7 c).2) (by unfold Prn;decide)⟩
 exact⟨zen n,hb.1,hb.2⟩
theorem zh0{sep:Lab}{ps:List Lab}(h0:Prn sep)(h:∀p∈ps,Prn p):Prn (zaL sep ps):=by
 cases ps with
 |nil=>intro c hc;cases hc
 |cons p r=>exact(h p (List.mem_cons_self ..)).app (zfD fun y hy=>h0.app (h y (List.mem_cons_of_mem _ hy)))
theorem zb9{p:Lab}(h:TkB p):Toks p [(p,false)]:=by
 have:=Toks.word p [] [] h.t.1 h.b (.inl rfl) .nil
 rwa [List.append_nil]at this
theorem zbt{p s:Lab}{ws:List (Lab×Bool)}(h:TkB p)(hs:Toks s ws):Toks (p++([32]++s)) ((p,false)::ws):=Toks.word p (32::s) ws h.t.1 h.b (.inr ⟨32,s,rfl,by decide⟩) (.blank 32 s ws (.inl rfl) hs)
theorem zgf:∀ps:List Lab,(∀p∈ps,TkB p)→Toks (zaL [32] ps) (ps.map fun p=>(p,false))
 | [],_=> .nil
 | [p],h=>by rw[zb2];exact zb9 (h p (List.mem_cons_self ..))
 |p::q::r,h=>by
  rw[zaI]
  exact zbt (h p (List.mem_cons_self ..)) (zgf (q::r) fun x hx=>h x (List.mem_cons_of_mem _ hx))
theorem zhL(t s:Lab)(ws:List (Lab×Bool))(hs:Toks s ws):Toks (quoT t++s) ((quoL t,true)::ws):=by
 have:=Toks.quot (quoL t) s ws (zdD t).1 hs
 unfold quoT
 rw[show (34::(quoL t++ [34]))++s=34::(quoL t++34::s) by simp]
 exact this
theorem zge:∀ts:List Lab,Toks (zaL [32] (ts.map quoT)) (ts.map fun t=>(quoL t,true))
 | []=> .nil
 | [t]=>by
  rw[List.map_singleton,zb2]
  have:=zhL t [] [] .nil
  rwa [List.append_nil]at this
 |t::u::r=>by
  rw[List.map_cons,List.map_cons,zaI]
  exact zhL t _ _ (.blank 32 _ _ (.inl rfl) (by have:=zge (u::r);rw[List.map_cons]at this;exact this))
theorem prn_quoT(t:Lab):Prn (quoT t):=by
 unfold quoT
 intro c hc
 rcases List.mem_cons.1 hc with rfl|hc
 ·decide
 ·exact((zdD t).2.app (by unfold Prn;decide)) c hc
theorem zgN{d:DatL}(hc:zbe d=0):Toks (za0 hexU d) (wF false (za0 hexU d) [] false)∧Prn (za0 hexU d):=by
 obtain⟨⟨t1,t2⟩,hf,hnm,_,_,_⟩:=za6 hc
 by_cases h1:d.ty=1
 ·obtain⟨_,_,_,h4⟩:=zbg hf (a:=0) (c:=0) (r:=4) (by rw[h1];rfl)
  have h4:=h4 (by decide)
  have tk:TkB (zaL [46] (d.raw.map fun c=>Lib.decDigits c.toNat)):=by
   refine zcx (zeo (fun e=>?_) fun p hp=>?_) (zdK (Q:=fun c=>plnB c=true) (by decide) fun p hp c hc=>?_)
   ·have:=congrArg List.length e
    rw[List.length_map]at this
    simp at this;rw[this]at h4;simp at h4
   ·obtain⟨c,_,rfl⟩:=List.mem_map.1 hp;exact zeO _
   ·obtain⟨x,_,rfl⟩:=List.mem_map.1 hp;exact zhv (zbG _ c hc)
  rw[zhI hf h1,zbR tk.t]
  exact⟨zb9 tk,tk.p⟩
 by_cases h28:d.ty=28
 ·obtain⟨h16,htx⟩:=tx_28 hf h28
  have tk:TkB (zaL [58] ((List.range 8).map (zdl d.raw))):=by
   refine zcx (zeo (by simp) fun p hp=>?_) (zdK (Q:=fun c=>plnB c=true) (by decide) fun p hp c hc=>?_)
   ·obtain⟨i,_,rfl⟩:=List.mem_map.1 hp;exact zkx _
   ·obtain⟨i,_,rfl⟩:=List.mem_map.1 hp
    obtain⟨j,hj,rfl⟩:=zfT _ _ (Nat.le_refl _) c hc
    exact zhl hj
  rw[htx,zbR tk.t]
  exact⟨zb9 tk,tk.p⟩
 by_cases h16:d.ty=16
 ·rw[tx_16 hf h16,zg8]
  exact⟨zge _,zh0 (by unfold Prn;decide) fun p hp=>by obtain⟨t,_,rfl⟩:=List.mem_map.1 hp;exact prn_quoT t⟩
 by_cases h15:d.ty=15
 ·obtain⟨m,n,_,_,htx⟩:=tx_15 hf h15
  rw[htx,List.append_assoc,zck (show Tok (numT m) from zdj m.toNat),zbR (zen n)]
  exact⟨zbt (zcl m.toNat) (zb9 (zcZ n)),(zcl m.toNat).p.app (Prn.app (by unfold Prn;decide) (zcZ n).p)⟩
 by_cases hn:d.ty=2∨d.ty=5∨d.ty=12∨d.ty=39∨d.ty=6
 ·have htk:∀p∈d.names.map zaD++d.nums.map numT,TkB p:=fun p hp=>by
   rcases List.mem_append.1 hp with h|h
   ·obtain⟨n,_,rfl⟩:=List.mem_map.1 h
    exact zcZ n
   ·obtain⟨m,_,rfl⟩:=List.mem_map.1 h
    exact zcl m.toNat
  rw[zem hf hn,zg9 _ fun p hp=>(htk p hp).t]
  exact⟨zgf _ htk,zh0 (by unfold Prn;decide) fun p hp=>(htk p hp).p⟩
 ·have hmt:TkB [92,35]:=⟨⟨by simp,fun s w=>zeu 35 s w false⟩,zdc 2 _ (by decide) (by decide),by unfold Prn;decide⟩
  have hxp:∀c∈hexT d.raw,plnB c=true:=fun c hc=>by
   obtain⟨x,_,hx⟩:=List.mem_flatMap.1 hc
   have hxl:=x.toNat_lt
   simp only[hexB,List.mem_cons,List.not_mem_nil,or_false]at hx
   rcases hx with rfl|rfl
   ·exact zhl (by omega)
   ·exact zhl (by omega)
  rw[zhJ hf (by omega)]
  by_cases h0:0<d.raw.length
  ·have hne:hexT d.raw≠ []:=fun e=>by have:=zb4 d.raw;rw[e]at this;simp at this;omega
   have tk:=zcx hne hxp
   rw[if_pos h0]
   have e:([92,35,32]++Lib.decDigits d.raw.length++ [32])++hexT d.raw=[92,35]++([32]++(Lib.decDigits d.raw.length++([32]++hexT d.raw))):=by simp
   rw[e,zck hmt.t,zck (zdj _),zbR tk.t]
   exact⟨zbt hmt (zbt (zcl _) (zb9 tk)),hmt.p.app (Prn.app (by unfold Prn;decide) ((zcl _).p.app (Prn.app (by unfold Prn;decide) tk.p)))⟩
  ·rw[if_neg h0]
   have hr0:d.raw=[]:=List.length_eq_zero_iff.1 (by omega)
   have e:([92,35,32]++Lib.decDigits d.raw.length++ [])++hexT d.raw=[92,35]++([32]++Lib.decDigits d.raw.length):=by rw[hr0];simp[hexT]
   rw[e,zck hmt.t,zbR (zdj _)]
   exact⟨zbt hmt (zb9 (zcl _)),hmt.p.app (Prn.app (by unfold Prn;decide) (zcl _).p)⟩
set_option maxRecDepth 100000
def foldD(d:DatL):DatL:=⟨d.ty,d.names.map zkD,d.nums,d.texts,d.raw⟩
def moreD(d:DatL):DatL:=⟨d.ty,d.names,d.nums,d.texts++ [[120]],d.raw⟩
theorem few_D{d:DatL}(hf:DatF d)(hn:zlh d):DatT d∧zlw d∧zlw (foldD d)∧zlw (moreD d):=by
 obtain⟨n1,n2,n3⟩:=hn
 obtain⟨f1,f2,f3,f4,f5⟩:=hf.f4
 have h8:=hf.n8
 have hnm:∀n∈d.names,NmT n:=fun n hn=>few_T (f5 n hn)
 have hok:zlw d:=⟨fun n hn=>⟨(hnm n hn).lb,by have:=(hnm n hn).2;omega⟩,by omega,by omega,by omega,n1,by omega⟩
 refine⟨⟨⟨hnm,by omega,by omega,n1,by omega,fun t ht=>by have:=f3 t ht;omega,by omega⟩,by omega⟩,hok,⟨fun n hn=>?_,?_,hok.nu,hok.nt,n1,hok.nr⟩,⟨hok.names,hok.nn,hok.nu,?_,n1,hok.nr⟩⟩
 ·obtain⟨x,hx,rfl⟩:=List.mem_map.1 hn
  have:=fold_T (hnm x hx)
  exact⟨this.lb,by have:=this.2;omega⟩
 ·show(d.names.map zkD).length≤_
  rw[List.length_map];omega
 ·show(d.texts++ [[120]]).length≤_
  rw[List.length_append,List.length_singleton];omega
set_option maxRecDepth 10000
theorem zf6{w:World}{cs:List Value}{r:RecL}(hr:RecAt w cs r)(hT:DatT r.dat)(ho:(∀l∈r.owner,l.length≤1000000000)∧r.owner.length≤1000000000):
  Fn Tryz.prog 22 #[.agg cs.toArray] w (fun v w'=>Ext w w'∧∃e:Int,v=vi e∧(e=0→zaS r.owner=0∧r.ttl≤2147483647∧zbe r.dat=0)):=by
 obtain⟨ow,ds,rfl,h1,h2⟩:=hr.ex
 obtain⟨b1,m1,e1,b2,m2,e2,b3,m3,e3,b4,m4,e4,hds⟩:=h2.open
 subst hds
 refine enter Tryz.func22 Tryz.ntmps22 rfl rfl ?_
 refine go trivial ?_
 refine zam ?_
 intro w1 hE1 hs1 hA
 have p0:zad w1 (some ⟨w.heap.size,0,Option.none⟩)=some ow:=zaa hA rfl
 have p1:zad w1 (some ⟨w.heap.size,1,Option.none⟩)=some (v32 r.ttl):=zaa hA rfl
 refine rc (an2 p0 Nat.add_zero) (zcv w1 ow r.owner (h1.ext hE1) ho.1 ho.2) ?_
 rintro _ w2 ⟨rfl,hE2⟩
 have hE12:=hE1.trans hE2
 have p1':=zab hE2 p1
 have p2':zar w2 (some ⟨w.heap.size,2,Option.none⟩) 5=some [vi r.dat.ty,.slice b1 m1 e1,.slice b2 m2 e2,.slice b3 m3 e3,.slice b4 m4 e4]:=by
  have h7:=zal (n:=7) (l:=[ow,v32 r.ttl,vi r.dat.ty,.slice b1 m1 e1,.slice b2 m2 e2,.slice b3 m3 e3,.slice b4 m4 e4]) (Ext.at hE2 hA) rfl
  have:=zbf (m:=2) (k:=5) h7
  rw[zaY]at this
  exact this
 by_cases h0:zaS r.owner=0
 rotate_left
 ·refine rgo (decide_eq_false h0) ?_
  refine rt0 Tryz.ntmps22 ?_
  exact⟨hE12,_,rfl,fun h=>absurd h h0⟩
 by_cases ht:(2147483647:Int)<r.ttl
 ·refine rgo (an4 (decide_eq_true h0) p1' (decide_eq_true ht) Nat.zero_add) ?_
  refine rt0 Tryz.ntmps22 ?_
  exact⟨hE12,7,rfl,fun h=>by cases h⟩
 refine rgo (an4 (decide_eq_true h0) p1' (decide_eq_false ht) Nat.zero_add) ?_
 refine rc (an2 p2' Nat.zero_add) (zje (h2.ext hE12) hT) ?_
 rintro _ w3 ⟨rfl,hE3⟩
 refine rgo trivial ?_
 refine rt0 Tryz.ntmps22 ?_
 exact⟨hE12.trans hE3,_,rfl,fun h=>⟨h0,by omega,h⟩⟩
structure RecG(r:RecL):Prop where
 few:few r.owner=true
 dat:DatF r.dat
 own:zaS r.owner=0
 ttl:0≤r.ttl∧r.ttl≤2147483647
 chk:zbe r.dat=0
 num:zlh r.dat
theorem zi9{w:World}{lv:Value}{R:List RecL}(hl:Rows 7 (RecAt w) w lv R)(hn:∀r∈R,zlg r):
  Fn Tryz.prog 9 #[lv] w (fun v w'=>Ext w w'∧∃b:Bool,v= .bool b∧(b=true→R.length≤60∧∀r∈R,RecG r)):=by
 obtain⟨aR,cR,rfl,hcR,hgR⟩:=hl.open
 refine enter Tryz.func9 Tryz.ntmps9 rfl rfl ?_
 refine go trivial ?_
 refine rc trivial (RsFew_ok (Keep.refl _ _) hl) ?_
 rintro _ w1 ⟨hE1,b,rfl,hb⟩
 cases b with
 |false=>
  refine rgo Bool.not_false ?_
  refine rt0 Tryz.ntmps9 ?_
  exact⟨hE1,false,rfl,fun h=>by cases h⟩
 |true=>
 obtain⟨hRl,hRf⟩:=hb rfl
 refine rgo Bool.not_true ?_
 refine za3 R.length (fun i σ A=>(σ 0= .slice aR R.length cR∧σ 3=vi i)∧Ext w A∧∀j (h:j<R.length),j<i→RecG R[j]) ?_ ?_ ?_
 ·exact⟨⟨vq0,vr0⟩,hE1,fun j h hj=>absurd hj (by omega)⟩
 ·rintro i σ A hi rr ⟨⟨s0,s3⟩,hEA,hlow⟩
  have hi0:(0:Int)≤(i:Int):=by omega
  have hi1:(i:Int)<(R.length:Int):=by omega
  have hi2:(i:Int)+1=((i+1:Nat):Int):=by push_cast;rfl
  obtain⟨cr,hcr,hRr⟩:=hgR i hi
  obtain⟨r,hr⟩:∃r,R[i]=r:=⟨_,rfl⟩
  rw[hr]at hRr
  have hmem:r∈R:=hr▸List.getElem_mem hi
  obtain⟨f1,f2⟩:=hRf r hmem
  obtain⟨n1,n2,n3⟩:=hn r hmem
  obtain⟨xR,rfl⟩:=Option.isSome_iff_exists.1 (zaA hcr)
  obtain⟨xi,hxi⟩:∃xi,adr (some xR) (i*7)=some xi:=⟨_,rfl⟩
  rw[hxi]at hcr
  have hcA:=zah hEA hcr
  refine go (an3 s0 s3 rr) ?_
  refine rc (an6 s0 s3 hi0 hi1 hxi hcA) (zhx hEA hRr f2.nn) ?_
  rintro _ A2 ⟨hA2,cs',nm',rfl,hx⟩
  refine rd trivial (zf6 (hx.at (hEA.trans hA2)) (few_D f2 n1).1 (few_f f1)) ?_
  rintro _ A3 ⟨hA3,e,rfl,he⟩
  have hE3:=hEA.trans (hA2.trans hA3)
  by_cases h0e:e=0
  ·refine rgo (an5 s0 s3 (decide_eq_true h0e) hi2 rr) ?_
   refine⟨rfl,⟨(vq1 s0),(vq1 hi2)⟩,hE3,fun j hj hji=>?_⟩
   by_cases hj2:j=i
   ·subst hj2
    rw[hr]
    obtain⟨g1,g2,g3⟩:=he h0e
    exact⟨f1,f2,g1,⟨n2,g2⟩,g3,n1⟩
   ·exact hlow j hj (by omega)
  ·refine rgo (decide_eq_false h0e) ?_
   refine rt0 Tryz.ntmps9 ?_
   exact⟨hE3,false,rfl,fun h=>by cases h⟩
 ·rintro σ A rr ⟨⟨s0,s3⟩,hEA,hlow⟩
  refine go (an3 s0 s3 rr) ?_
  refine rt0 Tryz.ntmps9 ?_
  refine⟨hEA,true,rfl,fun _=>⟨hRl,fun r hr=>?_⟩⟩
  obtain⟨j,hj,rfl⟩:=List.getElem_of_mem hr
  exact hlow j hj hj
def ixB(q:Nat→Bool)(n:Nat):Int:=match (List.range n).find? q with
 |some k=>(k:Int)
 |Option.none=> -1
theorem zks{q:Nat→Bool}{n i:Nat}(hi:i<n)(hq:q i=true)(hl:∀j,j<i→q j=false):ixB q n=(i:Int):=by
 have:(List.range n).find? q=some i:=by
  rw[List.find?_range_eq_some]
  exact⟨hq,List.mem_range.2 hi,fun j hj=>by rw[hl j hj];rfl⟩
 unfold ixB
 rw[this]
theorem zh8{q:Nat→Bool}{n:Nat}(hl:∀j,j<n→q j=false):ixB q n= -1:=by
 have:(List.range n).find? q=Option.none:=by
  rw[List.find?_eq_none]
  intro x hx
  rw[hl x (List.mem_range.1 hx)];decide
 unfold ixB
 rw[this]
theorem IxFil_ok{w:World}{a:Option Addr}{n c:Nat}{N:FuncId}{cap:Value}{q:Nat→Bool}(hN:zak Tryz.prog N=true)(hn:n≤1000000000)(hg:∀i,i<n→∃cs:List Value,zar w (adr a (i*2)) 2=some cs∧∀v,Ext w v→Fn Tryz.prog N #[.agg cs.toArray,cap] v (fun u v'=>u= .bool (q i)∧Ext v v')):
  Fn Tryz.prog 39 #[.slice a n c,.func (.func N) #[] #[cap]] w (fun u w'=>u=vi (ixB q n)∧Ext w w'):=by
 refine enter Tryz.func39 Tryz.ntmps39 rfl rfl ?_
 refine go trivial ?_
 refine za3 n (fun i σ v=>(σ 0= .slice a n c∧σ 1= .func (.func N) #[] #[cap]∧σ 7=vi n∧σ 8=vi i)∧Ext w v∧∀j,j<i→q j=false) ?_ ?_ ?_
 ·exact⟨⟨vr0,vr0,vr0,vr0⟩,Keep.refl _ _,fun j h=>by omega⟩
 ·rintro i σ v hi r ⟨⟨s0,s1,s7,s8⟩,hE,hlow⟩
  obtain⟨cs,g0,hF⟩:=hg i hi
  have g:=zah hE g0
  obtain⟨xa,rfl⟩:=Option.isSome_iff_exists.1 (zaA g)
  obtain⟨xi,hxi⟩:∃xi,adr (some xa) (i*2)=some xi:=⟨_,rfl⟩
  rw[hxi]at g
  have hi0:(0:Int)≤(i:Int):=by omega
  have hi1:(i:Int)<(n:Int):=by omega
  have hi2:(i:Int)+1=((i+1:Nat):Int):=by push_cast;rfl
  refine go (an5 s0 s1 s7 s8 r) ?_
  refine rc (an8 s0 s1 s8 g hi0 hi1 hxi hN) (hF v hE) ?_
  rintro _ v1 ⟨rfl,hE1⟩
  cases hq:q i with
  |true=>
   refine rgo (an2 s0 s8) ?_
   refine zaf (.inr rfl) Tryz.ntmps39 rfl (zac ((vr1 s8)) zae) ?_
   exact⟨by rw[zks hi hq hlow];rfl,hE.trans hE1⟩
  |false=>
   refine rgo (an5 s0 s1 s7 s8 hi2) ?_
   refine⟨rfl,⟨(vq1 s0),(vq1 s1),(vq1 s7),(vq1 hi2)⟩,hE.trans hE1,fun j hj=>?_⟩
   by_cases e:j=i
   ·rw[e];exact hq
   ·exact hlow j (by omega)
 ·rintro σ v r ⟨⟨s0,s1,s7,s8⟩,hE,hlow⟩
  refine go (an5 s0 s1 s7 s8 r) ?_
  refine zaf (.inr rfl) Tryz.ntmps39 rfl (zac (vr0) zae) ?_
  exact⟨by rw[zh8 hlow];rfl,hE⟩
theorem IxWrd_ok{w:World}{a:Option Addr}{n c:Nat}{N:FuncId}{q:Nat→Bool}(hN:zak Tryz.prog N=true)(hn:n≤1000000000)(hg:∀i,i<n→∃cs:List Value,zar w (adr a (i*2)) 2=some cs∧∀v,Ext w v→Fn Tryz.prog N #[.agg cs.toArray] v (fun u v'=>u= .bool (q i)∧Ext v v')):
  Fn Tryz.prog 164 #[.slice a n c,.func (.func N) #[] #[]] w (fun u w'=>u=vi (ixB q n)∧Ext w w'):=by
 refine enter Tryz.func164 Tryz.ntmps164 rfl rfl ?_
 refine go trivial ?_
 refine za3 n (fun i σ v=>(σ 0= .slice a n c∧σ 1= .func (.func N) #[] #[]∧σ 7=vi n∧σ 8=vi i)∧Ext w v∧∀j,j<i→q j=false) ?_ ?_ ?_
 ·exact⟨⟨vr0,vr0,vr0,vr0⟩,Keep.refl _ _,fun j h=>by omega⟩
 ·rintro i σ v hi r ⟨⟨s0,s1,s7,s8⟩,hE,hlow⟩
  obtain⟨cs,g0,hF⟩:=hg i hi
  have g:=zah hE g0
  obtain⟨xa,rfl⟩:=Option.isSome_iff_exists.1 (zaA g)
  obtain⟨xi,hxi⟩:∃xi,adr (some xa) (i*2)=some xi:=⟨_,rfl⟩
  rw[hxi]at g
  have hi0:(0:Int)≤(i:Int):=by omega
  have hi1:(i:Int)<(n:Int):=by omega
  have hi2:(i:Int)+1=((i+1:Nat):Int):=by push_cast;rfl
  refine go (an5 s0 s1 s7 s8 r) ?_
  refine rc (an8 s0 s1 s8 g hi0 hi1 hxi hN) (hF v hE) ?_
  rintro _ v1 ⟨rfl,hE1⟩
  cases hq:q i with
  |true=>
   refine rgo (an2 s0 s8) ?_
   refine zaf (.inr rfl) Tryz.ntmps164 rfl (zac ((vr1 s8)) zae) ?_
   exact⟨by rw[zks hi hq hlow];rfl,hE.trans hE1⟩
  |false=>
   refine rgo (an5 s0 s1 s7 s8 hi2) ?_
   refine⟨rfl,⟨(vq1 s0),(vq1 s1),(vq1 s7),(vq1 hi2)⟩,hE.trans hE1,fun j hj=>?_⟩
   by_cases e:j=i
   ·rw[e];exact hq
   ·exact hlow j (by omega)
 ·rintro σ v r ⟨⟨s0,s1,s7,s8⟩,hE,hlow⟩
  refine go (an5 s0 s1 s7 s8 r) ?_
  refine zaf (.inr rfl) Tryz.ntmps164 rfl (zac (vr0) zae) ?_
  exact⟨by rw[zh8 hlow];rfl,hE⟩
theorem zls{w:World}{a:Option Addr}{n c:Nat}{N:FuncId}{q:Nat→Bool}(hN:zak Tryz.prog N=true)(hn:n≤1000000000)(hg:∀i,i<n→∃cs:List Value,zar w (adr a (i*2)) 2=some cs∧∀v,Ext w v→Fn Tryz.prog N #[.agg cs.toArray] v (fun u v'=>u= .bool (q i)∧Ext v v')):
  Fn Tryz.prog 138 #[.slice a n c,.func (.func N) #[] #[]] w (fun u w'=>u= .bool (decide (0≤ixB q n))∧Ext w w'):=by
 refine enter Tryz.func138 Tryz.ntmps138 rfl rfl ?_
 refine go trivial ?_
 refine rc trivial (IxWrd_ok hN hn hg) ?_
 rintro _ w1 ⟨rfl,hE1⟩
 refine rgo trivial ?_
 refine rt0 Tryz.ntmps138 ?_
 exact⟨rfl,hE1⟩
structure LdS where
 path:Lab
 line:Int
 origin:Nm
 owner:Option Nm
 ttl:Option Int
 last:Option Int
 out:List RecL
 reads:List Lab
 many:Int
structure FltL where
 path:Lab
 line:Int
 err:Int
def zd5(cs:List Value)(x:Lab×Lab):Prop:=cs=[vs x.1,vs x.2]
def gR(cs:List Value)(x:RecL×List Value):Prop:=cs=x.2∧cs.length=7∧∀q∈cs,one q=true
theorem zid:zgV 7 gR:=⟨fun h=>h.2.1,fun h=>h.2.2⟩
def MutL(D:Nat→Prop)(b:Nat)(ov rv:Value):Nat→Prop:=fun i=>i=b∨some i=ov.ownBlock∨some i=rv.ownBlock∨D i
def OwnerZ(M:Nat→Prop)(w:World)(v:Value):Option Nm→Prop
 |some n=>Hz M w (fun X=>Row X v (n.map vs))
 |Option.none=>v= .slice Option.none 0 0
theorem OwnerZ.app{M M' T:Nat→Prop}{w x:World}{v:Value}{o:Option Nm}(h:OwnerZ M w v o)(hk:Keep T w x)(hT:∀i,i<w.heap.size→T i→M i)(hM:∀i,i<w.heap.size→M' i→M i):OwnerZ M' x v o:=by
 cases o with
 |none=>exact h
 |some n=>exact Hz.app h hk hT hM
theorem OwnerZ.one{M:Nat→Prop}{w:World}{v:Value}{o:Option Nm}(h:OwnerZ M w v o):one v=true:=by
 cases o with
 |none=>rw[show v=_ from h];rfl
 |some n=>exact(Hz.now h).isOne
def zim(fv ov rv orv owv:Value)(st:LdS):List Value:=[fv,ov,rv,vi st.many,vs st.path,vi st.line,orv,owv,.bool st.owner.isSome,.int .u32 (st.ttl.getD 0),.bool st.ttl.isSome,.int .u32 (st.last.getD 0),.bool st.last.isSome]
structure LX(D:Nat→Prop)(B:Nat)(w:World)(b:Nat)(fs:Value→World→Prop)(st:LdS)(fv ov rv orv owv:Value)(G:List (RecL×List Value)):Prop where
 h:w.heap[b]? =some (.cells (zim fv ov rv orv owv st).toArray 85 (0,0))
 lt:b<B
 le:B≤w.heap.size
 oo:Owns 7 gR B w 36 ov G
 ow:Own B w 9 rv (st.reads.map vs)
 d:∀i,some i=ov.ownBlock→some i≠rv.ownBlock
 dd:∀i,D i→b<i∧i<w.heap.size∧some i≠ov.ownBlock∧some i≠rv.ownBlock
 ol:st.out=G.map Prod.fst
 fr:∀x∈G,Hz (MutL D b ov rv) w (fun X=>RecAt X x.2 x.1)
 ff:Hz (MutL D b ov rv) w (fs fv)
 fo:Hz (MutL D b ov rv) w (fun X=>Row X orv (st.origin.map vs))
 fw:OwnerZ (MutL D b ov rv) w owv st.owner
 ot:NmT st.origin
def LdX(D:Nat→Prop)(B:Nat)(w:World)(b:Nat)(fs:Value→World→Prop)(st:LdS):Prop:=∃fv ov rv orv owv G,LX D B w b fs st fv ov rv orv owv G
def za4(D:Nat→Prop)(b:Nat)(w x:World):Prop:=Keep (fun i=>b≤i∧¬D i) w x
theorem zjF{M:Nat→Prop}{w x:World}{v:Value}{l:List Value}(hr:Row x v l)(hb:BlkB w.heap.size x v)(hM:∀i,M i→i<w.heap.size):Hz M x (fun X=>Row X v l):=fun X hX=>
 hr.blocks fun a n c hv=>hX.block _ (hb a n c hv).2 fun h=>by have:=hM _ h;have:=(hb a n c hv).1;omega
section
variable {D : Nat → Prop} {B b : Nat} {w x : World} {fs : Value → World → Prop} {st : LdS} {fv ov rv orv owv : Value} {G : List (RecL × List Value)}
theorem LX.mut(h:LX D B w b fs st fv ov rv orv owv G):∀i,MutL D b ov rv i→b≤i∧i<w.heap.size:=fun i hi=>by
 have h1:=h.lt
 have h2:=h.le
 rcases hi with hi|hi|hi|hi
 ·omega
 ·have:=h.oo.ge hi;omega
 ·have:=h.ow.ge hi;omega
 ·have:=h.dd i hi;omega
theorem LX.step(h:LX D B w b fs st fv ov rv orv owv G){D':Nat→Prop}(hE:Ext w x)(hD:∀i,D' i→D i∨(w.heap.size≤i∧i<x.heap.size)):LX D' B x b fs st fv ov rv orv owv G:=by
 have hl:=h.lt
 have hle:=h.le
 have hs:=hE.size
 have hM:∀i,i<w.heap.size→MutL D' b ov rv i→MutL D b ov rv i:=fun i hi hm=>by
  rcases hm with e|e|e|e
  ·exact .inl e
  ·exact .inr (.inl e)
  ·exact .inr (.inr (.inl e))
  ·rcases hD i e with e2|e2
   ·exact .inr (.inr (.inr e2))
   ·omega
 have hT:∀i,i<w.heap.size→NoS i→MutL D b ov rv i:=fun i _ h=>h.elim
 refine⟨Ext.at hE h.h,hl,by omega,h.oo.ext hE,h.ow.ext hE,h.d,fun i hi=>?_,h.ol,fun y hy=>Hz.app (h.fr y hy) hE hT hM,Hz.app h.ff hE hT hM,Hz.app h.fo hE hT hM,OwnerZ.app h.fw hE hT hM,h.ot⟩
 rcases hD i hi with e|e
 ·obtain⟨a1,a2,a3,a4⟩:=h.dd i e
  exact⟨a1,by omega,a3,a4⟩
 ·exact⟨by omega,by omega,fun e2=>by have:=(h.oo.ge e2).2;omega,fun e2=>by have:=(h.ow.ge e2).2;omega⟩
theorem LX.ext(h:LX D B w b fs st fv ov rv orv owv G)(hE:Ext w x):LX D B x b fs st fv ov rv orv owv G:=h.step hE fun _ h=> .inl h
theorem LdX.ext(h:LdX D B w b fs st)(hE:Ext w x):LdX D B x b fs st:=by
 obtain⟨fv,ov,rv,orv,owv,G,h⟩:=h
 exact⟨fv,ov,rv,orv,owv,G,h.ext hE⟩
theorem LX.loc(h:LX D B w b fs st fv ov rv orv owv G)(hk:Keep D w x):LX D B x b fs st fv ov rv orv owv G:=by
 have hs:=hk.size
 have hl:=h.lt
 have hle:=h.le
 have hT:∀i,i<w.heap.size→D i→MutL D b ov rv i:=fun i _ h=> .inr (.inr (.inr h))
 have hM:∀i,i<w.heap.size→MutL D b ov rv i→MutL D b ov rv i:=fun _ _ h=>h
 exact⟨(hk.block b (by omega) fun e=>by have:=(h.dd b e).1;omega).trans h.h,hl,by omega,h.oo.keep hk fun i hi e=>(h.dd i e).2.2.1 hi,h.ow.keep hk fun i hi e=>(h.dd i e).2.2.2 hi,h.d,fun i hi=>by
  obtain⟨a1,a2,a3,a4⟩:=h.dd i hi
  exact⟨a1,by omega,a3,a4⟩,h.ol,fun y hy=>Hz.app (h.fr y hy) hk hT hM,Hz.app h.ff hk hT hM,Hz.app h.fo hk hT hM,OwnerZ.app h.fw hk hT hM,h.ot⟩
theorem LX.turn(h:LX D B w b fs st fv ov rv orv owv G){st':LdS}{orv' owv':Value}(hk:Keep (fun i=>i=b) w x)(hb:x.heap[b]? =some (.cells (zim fv ov rv orv' owv' st').toArray 85 (0,0)))(ho:st'.out=st.out)(hr:st'.reads=st.reads)
  (fo':Hz (MutL D b ov rv) w (fun X=>Row X orv' (st'.origin.map vs))) (fw':OwnerZ (MutL D b ov rv) w owv' st'.owner) (ot':NmT st'.origin):LX D B x b fs st' fv ov rv orv' owv' G:=by
 have hs:=hk.size
 have hl:=h.lt
 have hle:=h.le
 have hT:∀i,i<w.heap.size→i=b→MutL D b ov rv i:=fun i _ h=> .inl h
 have hM:∀i,i<w.heap.size→MutL D b ov rv i→MutL D b ov rv i:=fun _ _ h=>h
 exact⟨hb,hl,by omega,h.oo.keep hk fun i hi e=>by have:=(h.oo.ge hi).1;omega,by rw[hr];exact h.ow.keep hk fun i hi e=>by have:=(h.ow.ge hi).1;omega,h.d,fun i hi=>by
  obtain⟨a1,a2,a3,a4⟩:=h.dd i hi
  exact⟨a1,by omega,a3,a4⟩,by rw[ho];exact h.ol,fun y hy=>Hz.app (h.fr y hy) hk hT hM,Hz.app h.ff hk hT hM,Hz.app fo' hk hT hM,OwnerZ.app fw' hk hT hM,ot'⟩
def FltAt(w:World)(v:Value)(f:FltL):Prop:=∃p,v= .pointer (some ⟨p,0,Option.none⟩)∧w.heap[p]? =some (.cells #[vs f.path,vi f.line,vi f.err] 59 (0,0))
theorem fault_no(w:World)(p:Value):Fn Tryz.prog 86 #[p,vi 0] w (fun v w'=>v= .pointer Option.none∧w'=w):=by
 refine enter Tryz.func86 Tryz.ntmps86 rfl rfl ?_
 refine go (show decide ((0:Int)=0)=true from rfl) ?_
 refine rt0 Tryz.ntmps86 ?_
 exact⟨rfl,rfl⟩
theorem fault_ok(h:LdX D B w b fs st){e:Int}(he:¬e=0):Fn Tryz.prog 86 #[.pointer (some ⟨b,0,Option.none⟩),vi e] w (fun v w'=>Ext w w'∧FltAt w' v ⟨st.path,st.line,e⟩):=by
 obtain⟨fv,ov,rv,orv,owv,G,h⟩:=h
 have k4:zad w (some ⟨b,4,Option.none⟩)=some (vs st.path):=zaa h.h rfl
 have k5:zad w (some ⟨b,5,Option.none⟩)=some (vi st.line):=zaa h.h rfl
 refine enter Tryz.func86 Tryz.ntmps86 rfl rfl ?_
 refine go (decide_eq_false he) ?_
 refine zaR (fun _=>false) [(0,true),(1,true),(2,true),(3,true),(4,true),(5,true),(6,true),(7,true),(8,true),(9,true),(10,true),(11,true),(12,false),(13,true)] NoS mixed (by kernel_rfl) ?_;intro gd K x hgd hx hxe hK;have hx0:=zaQ hxe;clear hxe
 have k4x:=zab hx0 k4
 have k5x:=zab hx0 k5
 simp (disch:=first|omega|assumption|rfl) only[go_sem,k4x,k5x,Nat.zero_add,Nat.add_zero]
 refine⟨by kernel_rfl,?_⟩
 rw[show bdV Tryz.prog 59 [(0,vs st.path),(1,vi st.line),(2,vi e)]=some (.agg #[vs st.path,vi st.line,vi e]) from by kernel_rfl]
 simp (disch:=first|omega|assumption|rfl) only[go_sem]
 refine⟨.inr (Ext.alloc x _),?_⟩
 refine hK _ _ ?_;clear hK hgd;clear K;try clear gd
 refine go trivial ?_
 refine rt0 Tryz.ntmps86 ?_
 exact⟨hx0.trans (Ext.alloc x _),x.heap.size,rfl,World.alloc_heap_new x _⟩
theorem someN_ok(w:World)(a:Option Addr)(n c:Nat):Fn Tryz.prog 128 #[.slice a n c] w (fun v w'=>v= .agg #[.slice a n c,.bool true]∧Ext w w'):=by
 refine enter Tryz.func128 Tryz.ntmps128 rfl rfl ?_
 refine go trivial ?_
 refine zam ?_
 intro w1 hE1 hs1 hA
 refine go trivial ?_
 refine rq ?_;intro gd K hgd hK
 try simp only[go_sem]
 refine⟨by kernel_rfl,?_⟩
 rw[show bdV Tryz.prog 79 [(0,.slice a n c),(1,.bool true)]=some (.agg #[.slice a n c,.bool true]) from by kernel_rfl]
 try simp only[go_sem]
 refine zaJ (P:=Tryz.prog) (t:=79) (l:=[.slice a n c,.bool true]) hA rfl (fun v hv=>by simp at hv;rcases hv with rfl|rfl<;>rfl) rfl rfl ?_
 intro w2 hs2 hb2 hk2
 try simp only[go_sem]
 refine hK _ _ ?_;clear hK hgd;clear K;try clear gd
 refine go trivial ?_
 refine zaf (.inr rfl) Tryz.ntmps128 rfl (zaO (x:=⟨w.heap.size,0,Option.none⟩) (k:=2) (vr0) rfl rfl (zal (n:=2) (l:=[.slice a n c,.bool true]) hb2 rfl) zae) ?_
 exact⟨rfl,Keep.to_ext hE1 rfl (fun i hi=>by omega) hk2⟩
theorem zhO(w:World)(t:Int):Fn Tryz.prog 113 #[.int .u32 t] w (fun v w'=>v= .agg #[.int .u32 t,.bool true]∧Ext w w'):=by
 refine enter Tryz.func113 Tryz.ntmps113 rfl rfl ?_
 refine go trivial ?_
 refine zam ?_
 intro w1 hE1 hs1 hA
 refine go trivial ?_
 refine rq ?_;intro gd K hgd hK
 try simp only[go_sem]
 refine⟨by kernel_rfl,?_⟩
 rw[show bdV Tryz.prog 81 [(0,.int .u32 t),(1,.bool true)]=some (.agg #[.int .u32 t,.bool true]) from by kernel_rfl]
 try simp only[go_sem]
 refine zaJ (P:=Tryz.prog) (t:=81) (l:=[.int .u32 t,.bool true]) hA rfl (fun v hv=>by simp at hv;rcases hv with rfl|rfl<;>rfl) rfl rfl ?_
 intro w2 hs2 hb2 hk2
 try simp only[go_sem]
 refine hK _ _ ?_;clear hK hgd;clear K;try clear gd
 refine go trivial ?_
 refine zaf (.inr rfl) Tryz.ntmps113 rfl (zaO (x:=⟨w.heap.size,0,Option.none⟩) (k:=2) (vr0) rfl rfl (zal (n:=2) (l:=[.int .u32 t,.bool true]) hb2 rfl) zae) ?_
 exact⟨rfl,Keep.to_ext hE1 rfl (fun i hi=>by omega) hk2⟩
theorem ttl_ok{w:World}(hW:WX w)(s:Lab)(hs:s.length≤1000000000):Fn Tryz.prog 112 #[vs s] w (fun v w'=>v= .tuple #[.int .u32 (decP 2147483647 s).1,vi (decP 2147483647 s).2]∧Ext w w'):=by
 have hdl:=zcJ 2147483647 s
 refine enter Tryz.func112 Tryz.ntmps112 rfl rfl ?_
 refine go trivial ?_
 refine rc trivial (zbQ hW s 2147483647 (by decide) hs) ?_
 rintro _ w1 ⟨rfl,hE1⟩
 obtain⟨v,hv⟩:∃v,(decP 2147483647 s).1=v:=⟨_,rfl⟩
 rw[hv]at hdl ⊢
 have hw:IntKind.u32.wrap (v:Int)=(v:Int):=by
  show(v:Int) % 4294967296=_
  omega
 refine rgo hw ?_
 refine zaf (.inr rfl) Tryz.ntmps112 rfl (zac ((vr1 hw)) (zac (vr0) zae)) ?_
 exact⟨rfl,hE1⟩
def ownF(st:LdS)(s:Lab):LdS:=if (zaX s st.origin).2=0 then{st with owner:=some (zaX s st.origin).1} else st
theorem zjU(h:LdX D B w b fs st)(s:Lab)(hl:s.length≤500000000):Fn Tryz.prog 110 #[.pointer (some ⟨b,0,Option.none⟩),vs s] w (fun v w'=>v=vi (zaX s st.origin).2∧LdX D B w' b fs (ownF st s)∧za4 D b w w'):=by
 obtain⟨fv,ov,rv,orv,owv,G,h⟩:=h
 have k6:zad w (some ⟨b,6,Option.none⟩)=some orv:=zaa h.h rfl
 have hD:¬D b:=fun e=>by have:=(h.dd b e).1;omega
 refine enter Tryz.func110 Tryz.ntmps110 rfl rfl ?_
 refine go trivial ?_
 refine rc (an3 k6 Nat.zero_add Nat.add_zero) (zcU w s orv st.origin hl h.fo.now h.ot) ?_
 rintro _ w1 ⟨hE1,nv,rfl,hr,hk⟩
 obtain⟨⟨n,e⟩,hne⟩:∃x,zaX s st.origin=x:=⟨_,rfl⟩
 unfold ownF
 rw[hne]at hr ⊢
 have h1:=h.ext hE1
 by_cases he:e=0
 rotate_left
 ·refine rgo (decide_eq_false he) ?_
  refine rt0 Tryz.ntmps110 ?_
  rw[if_neg he]
  exact⟨rfl,⟨fv,ov,rv,orv,owv,G,h1⟩,hE1.mono fun _ _ h=>h.elim⟩
 subst he
 rw[if_pos rfl]
 obtain⟨na,nc,rfl,_⟩:=id hr
 simp only[List.length_map]at hr hk ⊢
 refine rgo (show decide ((0:Int)=0)=true from rfl) ?_
 refine rq ?_;intro gd K hgd hK
 try simp only[go_sem]
 refine Fn.mono (someN_ok w1 na n.length nc) ?_
 rintro _ w2 ⟨rfl,hE2⟩
 have h2:=h1.ext hE2
 try simp (disch:=first|omega|assumption|rfl) only[go_sem,Nat.zero_add]
 refine zdS (P:=Tryz.prog) (t:=79) [fv,ov,rv,vi st.many,vs st.path,vi st.line,orv] [owv,.bool st.owner.isSome] (B:=[.int .u32 (st.ttl.getD 0),.bool st.ttl.isSome,.int .u32 (st.last.getD 0),.bool st.last.isSome]) (l:=[.slice na n.length nc,.bool true]) h2.h rfl (fun v hv=>by simp at hv;rcases hv with rfl|rfl<;>rfl) rfl rfl ?_
 intro w3 hs3 hb3 hk3
 try simp only[go_sem]
 refine hK _ _ ?_;clear hK hgd;clear K;try clear gd
 refine go trivial ?_
 refine rt0 Tryz.ntmps110 ?_
 refine⟨rfl,⟨fv,ov,rv,orv,.slice na n.length nc,G,LX.turn h2 (st':={st with owner:=some n}) hk3 hb3 rfl rfl h2.fo (zjF (w:=w) (hr.ext hE2) (hk.ext hE2.size) fun i hi=>(h.mut i hi).2) h2.ot⟩,?_⟩
 exact((hE1.trans hE2).mono fun _ _ h=>h.elim).trans (hk3.mono fun i _ e=>⟨by omega,by rw[e];exact hD⟩)
theorem zjA(hX:WX w)(h:LdX D B w b fs st)(s:Lab)(hl:s.length≤1000000000):Fn Tryz.prog 109 #[.pointer (some ⟨b,0,Option.none⟩),vs [36,84,84,76],vs s] w (fun v w'=>v=vi (decP 2147483647 s).2∧LdX D B w' b fs (if (decP 2147483647 s).2=0 then{st with ttl:=some (decP 2147483647 s).1} else st)∧za4 D b w w'):=by
 obtain⟨fv,ov,rv,orv,owv,G,h⟩:=h
 have hD:¬D b:=fun e=>by have:=(h.dd b e).1;omega
 refine enter Tryz.func109 Tryz.ntmps109 rfl rfl ?_
 refine go (show decide (([36,84,84,76]:Lab)=[36,84,84,76])=true from rfl) ?_
 refine rc trivial (ttl_ok hX s hl) ?_
 rintro _ w1 ⟨rfl,hE1⟩
 obtain⟨⟨n,e⟩,hne⟩:∃x,decP 2147483647 s=x:=⟨_,rfl⟩
 rw[hne]
 have h1:=h.ext hE1
 by_cases he:e=0
 rotate_left
 ·refine rgo (decide_eq_false he) ?_
  refine rt0 Tryz.ntmps109 ?_
  rw[if_neg he]
  exact⟨rfl,⟨fv,ov,rv,orv,owv,G,h1⟩,hE1.mono fun _ _ h=>h.elim⟩
 subst he
 rw[if_pos rfl]
 refine rgo (show decide ((0:Int)=0)=true from rfl) ?_
 refine rq ?_;intro gd K hgd hK
 try simp only[go_sem]
 refine Fn.mono (zhO w1 n) ?_
 rintro _ w2 ⟨rfl,hE2⟩
 have h2:=h1.ext hE2
 try simp (disch:=first|omega|assumption|rfl) only[go_sem,Nat.zero_add]
 refine zdS (P:=Tryz.prog) (t:=81) [fv,ov,rv,vi st.many,vs st.path,vi st.line,orv,owv,.bool st.owner.isSome] [.int .u32 (st.ttl.getD 0),.bool st.ttl.isSome] (B:=[.int .u32 (st.last.getD 0),.bool st.last.isSome]) (l:=[.int .u32 n,.bool true]) h2.h rfl (fun v hv=>by simp at hv;rcases hv with rfl|rfl<;>rfl) rfl rfl ?_
 intro w3 hs3 hb3 hk3
 try simp only[go_sem]
 refine hK _ _ ?_;clear hK hgd;clear K;try clear gd
 refine go trivial ?_
 refine rt0 Tryz.ntmps109 ?_
 refine⟨rfl,⟨fv,ov,rv,orv,owv,G,LX.turn h2 (st':={st with ttl:=some (n:Int)}) hk3 hb3 rfl rfl h2.fo h2.fw h2.ot⟩,?_⟩
 exact((hE1.trans hE2).mono fun _ _ h=>h.elim).trans (hk3.mono fun i _ e=>⟨by omega,by rw[e];exact hD⟩)
end
def NyC(cs:List Value)(x:Lab×Int):Prop:=cs=[vs x.1,vi x.2]
theorem NyC.shape:zgV 2 NyC:=⟨fun h=>by rw[h];rfl,fun h=>by
 rw[h]
 intro q hq
 rcases List.mem_cons.1 hq with rfl|hq
 ·rfl
 ·rw[List.mem_singleton.1 hq];rfl⟩
def nyTab:List (Lab×Int):=tyTab.map fun x=>(zaT x.2,x.1)
def zeh(k:Lab):List (Lab×Int)→Int×Bool
 | []=>(0,false)
 |x::T=>if x.1=k then(x.2,true) else zeh k T
theorem types_ok(w:World):Fn Tryz.prog 157 #[] w (fun v w'=>Rows 2 NyC w' v nyTab∧Ext w w'):=by
 refine enter Tryz.func157 Tryz.ntmps157 rfl rfl ?_
 refine go trivial ?_
 refine rc trivial (zey w) ?_
 rintro v0 w1 ⟨hR,hE1⟩
 obtain⟨a,c,rfl,hcap,hg⟩:=hR.open
 refine rgo trivial ?_
 refine za3 9 (fun i σ v=>(σ 4= .slice a 9 c∧σ 5=vi (9:Nat)∧σ 6=vi i)∧Ext w1 v∧∃sv,σ 1=sv∧Owns 2 NyC w1.heap.size v 249 sv (nyTab.take i)) ?_ ?_ ?_
 ·exact⟨⟨vr0,vr0,vr0⟩,Keep.refl _ _,_,vr0,Owns.nil _ _ _ _ _⟩
 ·rintro i σ v hi r ⟨⟨s4,s5,s6⟩,hE,sv,s1,hO⟩
  have hi9:i<tyTab.length:=hi
  obtain⟨cs,g0,hcs⟩:=hg i hi9
  have g:=zah hE g0
  obtain⟨⟨k,n⟩,hxx⟩:∃x,tyTab[i]=x:=⟨_,rfl⟩
  rw[hxx]at hcs
  obtain rfl:cs=[vi k,vs n]:=hcs
  have hnl:n.length≤10:=by
   have:∀x∈tyTab,x.2.length≤10:=by decide
   have:=this _ (List.getElem_mem hi9)
   rw[hxx]at this
   exact this
  obtain⟨xa,rfl⟩:=Option.isSome_iff_exists.1 (zaA g)
  obtain⟨xi,hxi⟩:∃xi,adr (some xa) (i*2)=some xi:=⟨_,rfl⟩
  rw[hxi]at g
  have hi0:(0:Int)≤(i:Int):=by omega
  have hi1:(i:Int)<((9:Nat):Int):=by omega
  have hi2:(i:Int)+1=((i+1:Nat):Int):=by push_cast;rfl
  refine go (an4 s4 s5 s6 r) ?_
  refine rq ?_;intro gd K hgd hK
  try simp (disch:=first|omega|assumption|rfl) only[go_sem,s4,s6,hi0,hi1,hxi,g]
  refine zbu (P:=Tryz.prog) (l:=[vi k,vs n]) rfl (fun v hv=>by simp at hv;rcases hv with rfl|rfl<;>rfl) rfl rfl ?_
  intro v1 hE1' hs1 hB
  try simp only[go_sem]
  refine hK _ _ ?_;clear hK hgd;clear K;try clear gd
  have q0:zad v1 (some ⟨v.heap.size,0,Option.none⟩)=some (vi k):=zaa hB rfl
  have q1:zad v1 (some ⟨v.heap.size,1,Option.none⟩)=some (vs n):=zaa hB rfl
  have hO1:=hO.ext hE1'
  have hsE:=hE.size
  refine go (an2 s4 s1) ?_
  refine zaR (fun i=>i==8) [(0,true),(1,true),(2,true),(4,true),(5,true),(3,false),(6,true),(7,false),(8,false),(9,true)] NoS mixed (by kernel_rfl) ?_;intro gd K x hgd hx hxe hK;have hx0:=zaQ hxe;clear hxe
  have q0x:=zab hx0 q0
  have q1x:=zab hx0 q1
  simp (disch:=first|omega|assumption|rfl) only[go_sem,s1,q0x,q1x,Nat.zero_add,Nat.add_zero]
  refine Fn.mono (zf8 x n (by omega)) ?_
  rintro _ y1 ⟨rfl,hy1⟩
  refine⟨.inr hy1.keep,?_⟩
  have q0y:=zab hy1 q0x
  simp (disch:=first|omega|assumption|rfl) only[go_sem,s1,q0y,Nat.add_zero]
  refine⟨by kernel_rfl,?_⟩
  rw[show bdV Tryz.prog 249 [(0,vs (zaT n)),(1,vi k)]=some (.agg #[vs (zaT n),vi k]) from by kernel_rfl]
  simp (disch:=first|omega|assumption|rfl) only[go_sem,s1]
  refine zd4 NyC.shape (l:=[vs (zaT n),vi k]) (a:=(zaT n,k)) rfl rfl rfl rfl rfl (by decide) ?_
  intro y2 hy2 hys2 ho2
  refine⟨.inr hy2.keep,?_⟩
  have hO2:=hO1.ext ((hx0.trans hy1).trans hy2)
  simp (disch:=first|omega|assumption|rfl) only[go_sem,s1]
  refine zdX NyC.shape hO2 ho2.rows rfl rfl rfl rfl rfl rfl (by decide) ((vr1 s1)) (vr0) (by simp[nyTab];omega) (by decide) (by have:=hE1'.size;have:=hx0.size;have:=hy1.size;have:=hy2.size;omega) ?_
  intro sv' y3 ho3 hX3 hk3 hb3
  refine⟨.inl rfl,?_⟩
  simp (disch:=first|omega|assumption|rfl) only[go_sem]
  refine hK _ _ ?_;clear hK hgd;clear K;try clear gd
  have htk:nyTab.take (i+1)=nyTab.take i++ [(zaT n,k)]:=by
   have hl:i<nyTab.length:=by unfold nyTab;rw[List.length_map];exact hi9
   have e9:nyTab[i]'hl=(zaT n,k):=by
    have:=List.getElem_map (fun x:Int×Lab=>(zaT x.2,x.1)) (l:=tyTab) (i:=i) (h:=hl)
    rw[hxx]at this
    exact this
   rw[zai hl,e9]
  refine go (an5 s4 s5 s6 hi2 r) ?_
  refine⟨rfl,⟨(vq1 s4),(vq1 s5),(vq1 hi2)⟩,hX3 w1 ((((hE.trans hE1').trans hx0).trans hy1).trans hy2) (Nat.le_refl _),sv',vr0,by rw[htk];exact ho3⟩
 ·rintro σ v r ⟨⟨s4,s5,s6⟩,hE,sv,s1,hO⟩
  refine go (an5 s4 s5 s6 r s1) ?_
  refine rt0 Tryz.ntmps157 ?_
  have e:nyTab.take 9=nyTab:=List.take_of_length_le (by decide)
  rw[e]at hO
  exact⟨hO.rows,hE1.trans hE⟩
theorem findN_ok{w:World}{v:Value}{T:List (Lab×Int)}(h:Rows 2 NyC w v T)(hT:T.length≤1000)(k:Lab):
  Fn Tryz.prog 156 #[v,vs k] w (fun u w'=>u= .tuple #[vi (zeh k T).1,.bool (zeh k T).2]∧Ext w w'):=by
 obtain⟨a,c,rfl,hcap,hg⟩:=h.open
 refine enter Tryz.func156 Tryz.ntmps156 rfl rfl ?_
 refine go trivial ?_
 refine za3 T.length (fun i σ v=>(σ 1=vs k∧σ 9= .slice a T.length c∧σ 10=vi T.length∧σ 11=vi i)∧Ext w v∧zeh k T=zeh k (T.drop i)) ?_ ?_ ?_
 ·exact⟨⟨vr0,vr0,vr0,vr0⟩,Keep.refl _ _,rfl⟩
 ·rintro i σ v hi r ⟨⟨s1,s9,s10,s11⟩,hE,hf⟩
  obtain⟨cs,g0,hcs⟩:=hg i hi
  have g:=zah hE g0
  obtain⟨⟨n,t⟩,hx⟩:∃x,T[i]=x:=⟨_,rfl⟩
  rw[hx]at hcs
  obtain rfl:cs=[vs n,vi t]:=hcs
  rw[List.drop_eq_getElem_cons hi,hx,zeh]at hf
  obtain⟨xa,rfl⟩:=Option.isSome_iff_exists.1 (zaA g)
  obtain⟨xi,hxi⟩:∃xi,adr (some xa) (i*2)=some xi:=⟨_,rfl⟩
  rw[hxi]at g
  have hi0:(0:Int)≤(i:Int):=by omega
  have hi1:(i:Int)<(T.length:Int):=by omega
  have hi2:(i:Int)+1=((i+1:Nat):Int):=by push_cast;rfl
  refine go (an5 s1 s9 s10 s11 r) ?_
  refine rq ?_;intro gd K hgd hK
  try simp (disch:=first|omega|assumption|rfl) only[go_sem,s9,s11,hi0,hi1,hxi,g]
  refine zbu (P:=Tryz.prog) (l:=[vs n,vi t]) rfl (fun v hv=>by simp at hv;rcases hv with rfl|rfl<;>rfl) rfl rfl ?_
  intro v1 hE1' hs1 hB
  try simp only[go_sem]
  refine hK _ _ ?_;clear hK hgd;clear K;try clear gd
  have q0:zad v1 (some ⟨v.heap.size,0,Option.none⟩)=some (vs n):=zaa hB rfl
  have q1:zad v1 (some ⟨v.heap.size,1,Option.none⟩)=some (vi t):=zaa hB rfl
  by_cases hk:n=k
  ·refine go (an6 s1 q0 q1 Nat.add_zero (decide_eq_true hk) Nat.zero_add) ?_
   refine zaf (.inr rfl) Tryz.ntmps156 rfl (zac (vr0) (zac (vr0) zae)) ?_
   rw[if_pos hk]at hf
   exact⟨by rw[hf];rfl,hE.trans hE1'⟩
  ·refine go (an9 s1 q0 Nat.add_zero (decide_eq_false hk) s9 s10 s11 hi2 r) ?_
   rw[if_neg hk]at hf
   exact⟨rfl,⟨(vq1 s1),(vq1 s9),(vq1 s10),(vq1 hi2)⟩,hE.trans hE1',hf⟩
 ·rintro σ v r ⟨⟨s1,s9,s10,s11⟩,hE,hf⟩
  refine go (an5 s1 s9 s10 s11 r) ?_
  refine zaf (.inr rfl) Tryz.ntmps156 rfl (zac (vr0) (zac (vr0) zae)) ?_
  rw[List.drop_length]at hf
  exact⟨by rw[hf];rfl,hE⟩
def zbL(s:Lab):Int×Int:=
 if (zeh (zaT s) nyTab).2=true then((zeh (zaT s) nyTab).1,0)
 else if ([116,121,112,101]:Lab).isPrefixOf (zaT s)=false∨(decP 65535 (Lib.trimPrefix (zaT s) [116,121,112,101])).2=2 then(0,6)
 else if ¬(decP 65535 (Lib.trimPrefix (zaT s) [116,121,112,101])).2=0∨(decP 65535 (Lib.trimPrefix (zaT s) [116,121,112,101])).1=0 then(0,7)
 else(((decP 65535 (Lib.trimPrefix (zaT s) [116,121,112,101])).1:Nat),0)
theorem zgU{w:World}(hX:WX w)(s:Lab)(hl:s.length≤1000000):Fn Tryz.prog 133 #[vs s] w (fun v w'=>v= .tuple #[vi (zbL s).1,vi (zbL s).2]∧Ext w w'):=by
 have hfl:(zaT s).length≤1000000:=by unfold zaT;rw[List.length_map];exact hl
 have htl:(Lib.trimPrefix (zaT s) [116,121,112,101]).length≤1000000:=by
  unfold Lib.trimPrefix
  split
  ·rw[List.length_drop];omega
  ·exact hfl
 refine enter Tryz.func133 Tryz.ntmps133 rfl rfl ?_
 refine go trivial ?_
 refine rc trivial (zf8 w s (by omega)) ?_
 rintro _ w1 ⟨rfl,hE1⟩
 refine rgo trivial ?_
 refine rc trivial (types_ok w1) ?_
 rintro tv w2 ⟨hR,hE2⟩
 refine rd trivial (findN_ok hR (by decide) (zaT s)) ?_
 rintro _ w3 ⟨rfl,hE3⟩
 have hE:=(hE1.trans hE2).trans hE3
 unfold zbL
 obtain⟨⟨t,z⟩,hz⟩:∃x,zeh (zaT s) nyTab=x:=⟨_,rfl⟩
 rw[hz]
 cases z with
 |true=>
  rw[if_pos rfl]
  refine rgo trivial ?_
  refine zaf (.inr rfl) Tryz.ntmps133 rfl (zac (vr0) (zac (vr0) zae)) ?_
  exact⟨rfl,hE⟩
 |false=>
  rw[if_neg (by simp)]
  refine rgo trivial ?_
  refine rc trivial (zg5 w3 (zaT s) [116,121,112,101]) ?_
  rintro _ w3' ⟨rfl,hw3⟩
  rw[hw3]
  clear hw3 w3'
  refine rgo trivial ?_
  refine rc trivial (zbQ (hX.ext hE) (Lib.trimPrefix (zaT s) [116,121,112,101]) 65535 (by decide) (by omega)) ?_
  rintro _ w4 ⟨rfl,hE4⟩
  have hdl:=zcJ 65535 (Lib.trimPrefix (zaT s) [116,121,112,101])
  obtain⟨⟨n,e⟩,hne⟩:∃x,decP 65535 (Lib.trimPrefix (zaT s) [116,121,112,101])=x:=⟨_,rfl⟩
  obtain⟨p,hp⟩:∃p,([116,121,112,101]:Lab).isPrefixOf (zaT s)=p:=⟨_,rfl⟩
  rw[hne]at hdl ⊢
  rw[hp]
  simp only at hdl ⊢
  have hw:IntKind.i64.wrap (n:Int)=(n:Int):=zcY (by omega) (by omega)
  cases p with
  |false=>
   rw[if_pos (.inl rfl)]
   refine rgo Bool.not_false ?_
   refine zaf (.inr rfl) Tryz.ntmps133 rfl (zac (vr0) (zac (vr0) zae)) ?_
   exact⟨rfl,hE.trans hE4⟩
  |true=>
   by_cases h2:e=2
   ·rw[if_pos (.inr h2)]
    refine rgo (an2 Bool.not_true (decide_eq_true h2)) ?_
    refine zaf (.inr rfl) Tryz.ntmps133 rfl (zac (vr0) (zac (vr0) zae)) ?_
    exact⟨rfl,hE.trans hE4⟩
   rw[if_neg (fun h=>h.elim (fun h=>by cases h) h2)]
   by_cases h0:e=0
   rotate_left
   ·rw[if_pos (.inl h0)]
    refine rgo (an4 Bool.not_true (decide_eq_false h2) (decide_eq_false h0) Bool.not_false) ?_
    refine zaf (.inr rfl) Tryz.ntmps133 rfl (zac (vr0) (zac (vr0) zae)) ?_
    exact⟨rfl,hE.trans hE4⟩
   by_cases hn:n=0
   ·rw[if_pos (.inr hn)]
    refine rgo (an5 Bool.not_true (decide_eq_false h2) (decide_eq_true h0) Bool.not_true (decide_eq_true (show(n:Int)=0 by omega))) ?_
    refine zaf (.inr rfl) Tryz.ntmps133 rfl (zac (vr0) (zac (vr0) zae)) ?_
    exact⟨rfl,hE.trans hE4⟩
   ·rw[if_neg (fun h=>h.elim (fun h=>h h0) hn)]
    refine rgo (an6 Bool.not_true (decide_eq_false h2) (decide_eq_true h0) Bool.not_true (decide_eq_false (show¬(n:Int)=0 by omega)) hw) ?_
    refine zaf (.inr rfl) Tryz.ntmps133 rfl (zac ((vr1 hw)) (zac (vr0) zae)) ?_
    exact⟨rfl,hE.trans hE4⟩
theorem or_ok(w:World)(a b:Int)(p q:Bool):Fn Tryz.prog 135 #[.agg #[.int .u32 a,.bool p],.agg #[.int .u32 b,.bool q]] w (fun v w'=>v=(if p=true then .agg #[.int .u32 a,.bool true] else .agg #[.int .u32 b,.bool q])∧Ext w w'):=by
 refine enter Tryz.func135 Tryz.ntmps135 rfl rfl ?_
 refine go trivial ?_
 refine zf4 ?_
 intro w1 hE1 hs1 hA hB hC
 simp only[World.size_alloc]
 have qa:zar w1 (some ⟨w.heap.size,0,Option.none⟩) 2=some [.int .u32 a,.bool p]:=zal (n:=2) (l:=[.int .u32 a,.bool p]) hA rfl
 have qb:zar w1 (some ⟨w.heap.size+1,0,Option.none⟩) 2=some [.int .u32 b,.bool q]:=zal (n:=2) (l:=[.int .u32 b,.bool q]) hB rfl
 have ka:zad w1 (some ⟨w.heap.size,1,Option.none⟩)=some (.bool p):=zaa hA rfl
 cases p with
 |true=>
  refine go (an2 ka Nat.zero_add) ?_
  refine rq ?_;intro gd K hgd hK
  try simp (disch:=first|omega|assumption|rfl) only[go_sem,qa]
  refine zaJ (P:=Tryz.prog) (t:=81) (l:=[.int .u32 a,.bool true]) hC rfl (fun v hv=>by simp at hv;rcases hv with rfl|rfl<;>rfl) rfl rfl ?_
  intro w2 hs2 hb2 hk2
  try simp only[go_sem]
  refine hK _ _ ?_;clear hK hgd;clear K;try clear gd
  refine go trivial ?_
  refine zaf (.inr rfl) Tryz.ntmps135 rfl (zaO (x:=⟨w.heap.size+1+1,0,Option.none⟩) (k:=2) (vr0) rfl rfl (zal (n:=2) (l:=[.int .u32 a,.bool true]) hb2 rfl) zae) ?_
  exact⟨rfl,Keep.to_ext hE1 rfl (fun i hi=>by omega) hk2⟩
 |false=>
  refine go (an2 ka Nat.zero_add) ?_
  refine rq ?_;intro gd K hgd hK
  try simp (disch:=first|omega|assumption|rfl) only[go_sem,qb]
  refine zaJ (P:=Tryz.prog) (t:=81) (l:=[.int .u32 b,.bool q]) hC rfl (fun v hv=>by simp at hv;rcases hv with rfl|rfl<;>rfl) rfl rfl ?_
  intro w2 hs2 hb2 hk2
  try simp only[go_sem]
  refine hK _ _ ?_;clear hK hgd;clear K;try clear gd
  refine go trivial ?_
  refine zaf (.inr rfl) Tryz.ntmps135 rfl (zaO (x:=⟨w.heap.size+1+1,0,Option.none⟩) (k:=2) (vr0) rfl rfl (zal (n:=2) (l:=[.int .u32 b,.bool q]) hb2 rfl) zae) ?_
  exact⟨rfl,Keep.to_ext hE1 rfl (fun i hi=>by omega) hk2⟩
end Go.Proofs.YtihbdhjibplldaaGreatDoor
