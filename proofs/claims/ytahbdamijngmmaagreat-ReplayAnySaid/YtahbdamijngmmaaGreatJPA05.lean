/-
  Texts of a proof, joined: B0, L2, B1, B2, B3, E9, E10, F2, Y4, F3, F4, Y5, F5.
  Conditions: none.
-/
import Derived.Test.YtahbdamijngmmaaGreatJPA04
import Derived.Test.YtahbdamijngmmaaGreatJPA02
import Derived.Test.YtahbdamijngmmaaGreatProg
import Derived.Shelf.Small.Strs
import Derived.Shelf.Strings.Builder1
import Derived.Test.YtahbdamijngmmaaGreatJPA03
set_option linter.unusedVariables false
set_option linter.unusedSimpArgs false
set_option linter.defProp false
set_option linter.unnecessarySimpa false
set_option maxHeartbeats 8000000
namespace Go.Proofs.YtahbdamijngmmaaGreat
open Go
set_option maxRecDepth 10000
structure Bld(B:Nat)(w:World)(b:Nat)(bs:List UInt8):Prop where
 ex:∃p v,(p= .pointer .none\/p= .pointer (some ⟨b,0,.none⟩))/\w.heap[b]? =some (.cells #[p,v] 282 (0,0))/\Own B w 5 v (bs.map zaf)
theorem zgL{B:Nat}{w:World}{e:TypeId}{v:Value}{l:List Value}(h:Own B w e v l){b:Nat}(hb:some b=v.ownBlock):∃cur fr,w.heap[b]? =some (.cells cur e fr):=by
 rcases h.2 with ⟨rfl,_⟩| ⟨g,cap,cur,rfl,_,hg,_⟩
 ·cases hb
 ·cases hb;exact⟨_,_,hg⟩
theorem bld_ne{B:Nat}{w:World}{v p:Value}{l:List Value}{b:Nat}(h:Own B w 5 v l)(hb:w.heap[b]? =some (.cells #[p,v] 282 (0,0))):some b≠v.ownBlock:=fun he=>by
 obtain⟨cur,fr,h1⟩:=zgL h he;rw[hb]at h1;injection h1 with h1
 injection h1 with _ h2
 revert h2;decide
theorem zlk(l:List UInt8):∀q∈l.map zaf,one q=true:=fun q hq=>by
 obtain⟨c,_,rfl⟩:=List.mem_map.1 hq;rfl
theorem zeN{w:World}{b:Nat}{p v:Value}(hp:p= .pointer .none\/p= .pointer (some ⟨b,0,.none⟩))(hb:w.heap[b]? =some (.cells #[p,v] 282 (0,0))):
  Fn Tryz.prog 208 #[.pointer (some ⟨b,0,.none⟩)] w (fun _ w'=>w'.heap[b]? =some (.cells #[.pointer (some ⟨b,0,.none⟩),v] 282 (0,0))/\Keep (fun i=>i=b) w w'/\w'.heap.size=w.heap.size):=by
 have c0:zad w (some ⟨b,0,.none⟩)=some p:=zab hb rfl;obtain⟨j,hj,hjs⟩:∃j,Tryz.prog.info? 282=some j/\j.size≠0:=by
  have:(Tryz.prog.info? 282).map (·.size)=some 2:=by kernel_rfl
  obtain⟨j,h1,h2⟩:=Option.map_eq_some_iff.1 this;exact⟨j,h1,by rw[h2];decide⟩
 rcases hp with rfl|rfl
 ·refine enter Tryz.func208 Tryz.ntmps208 rfl rfl ?_;refine rqz ?_;intro gd K hgd hK;refine sgz (az2 c0 Nat.add_zero) ?_;apply hK;refine wcz ?_ ?_
  ·intro _;have hsh:w.shape? b=some (282,2):=by simp[World.shape?,hb]
   refine rqz ?_;intro gd K hgd hK;try simp only[go_sem]
   refine zli (by rfl) (Lib.run_to_unsafe w ⟨b,0,.none⟩ (by rfl) (by rfl) hj hjs hsh (Nat.zero_lt_succ 1)) ?_;try simp only[go_sem]
   refine⟨.pointer (some ⟨b,0,.none⟩),w,?_,?_⟩
   ·rw[run_callFunc_extern (show Tryz.prog.funcs[258]? =_ from Tryz.func258) (by kernel_rfl) (by kernel_rfl) (by kernel_rfl) (e:=Extern.AbiNoEscape.same) (by kernel_rfl)];rw[Lib.run_noEscape]
    rfl
   try simp only[go_sem]
   refine zli (by rfl) (Lib.run_from_unsafe w ⟨b,0,.none⟩ (by rfl) (by rfl) hj hsh (by kernel_rfl)) ?_;try simp only[go_sem]
   refine zaU (P:=Tryz.prog) (t:=280) (j:=0) (l:=[.pointer .none,v]) hb (by simp) rfl rfl rfl ?_;intro w1 hs1 hb1 hk1;try simp only[go_sem]
   refine en hK ?_;exact zaC (by simp) rfl ⟨by simpa using hb1,hk1,hs1⟩
  ·intro h;cases h
 ·refine enter Tryz.func208 Tryz.ntmps208 rfl rfl ?_;refine rqz ?_;intro gd K hgd hK;refine sgz (az2 c0 Nat.add_zero) ?_;apply hK;refine wcz ?_ ?_
  ·intro h;cases h
  intro _;refine rqz ?_;intro gd K hgd hK;refine sgz (az2 c0 Nat.add_zero) ?_;refine zhD (by rfl) hj (by rfl) (by rfl) ?_;try simp only[go_sem]
  apply hK;refine wcz ?_ ?_
  ·intro h;cases h
  intro _;repeat refine c_r ?_
  exact zaC (by simp) rfl ⟨hb,Keep.refl _ _,rfl⟩
theorem zdM{B:Nat}{w:World}{b:Nat}{bs s:List UInt8}(h:Bld B w b bs)(hB:B<=w.heap.size)(hlen:bs.length+s.length<=100000000000):
  Fn Tryz.prog 155 #[.pointer (some ⟨b,0,.none⟩),vs s] w (fun _ w'=>Bld B w' b (bs++s)/\Keep (fun i=>i=b\/B<=i) w w'):=by
 obtain⟨p,v,hp,hb,hown⟩:=h.ex;have hne:=bld_ne hown hb;obtain⟨inf,hi,hz,hsz,hby⟩:=info_parts (P:=Tryz.prog) (e:=5) (z:= .int .u8 0) (size:=1) (bytes:=1) (by kernel_rfl);refine enter Tryz.func155 Tryz.ntmps155 rfl rfl ?_;refine gz0 ?_;refine rq ?_;intro gd K hgd hK;try simp only[go_sem]
 refine Fn.mono (zeN hp hb) ?_;rintro _ w1 ⟨hb1,hk1,hs1⟩;try simp only[go_sem]
 apply hK;have hown1:=hown.keep hk1 (fun i hi he=>hne (he▸hi));have c1:zad w1 (some ⟨b,1,.none⟩)=some v:=zab hb1 rfl;refine rqz ?_;intro gd K hgd hK;refine sgz (az2 c1 yn0) ?_;refine op_appS hown1 (by rfl) (by rfl) hi hz hsz hby (by rfl) (by rfl) (by simpa using hlen) (by omega) ?_;intro v2 w2 hown2 hk2;try simp only[go_sem]
 have hb2:=(hk2.block b (Array.getElem?_eq_some_iff.1 hb1).1 hne).trans hb1;have hne2:some b≠v2.ownBlock:=fun he=>by
  obtain⟨cur,fr,h1⟩:=zgL hown2 he;rw[hb2]at h1;injection h1 with h1
  injection h1 with _ h2
  revert h2;decide
 obtain⟨a2,c2,hv2⟩:=hown2.slice;refine zaU (P:=Tryz.prog) (t:=90) (j:=1) (l:=[.pointer (some ⟨b,0,.none⟩),v]) hb2 (by simp) (by rw[hv2];rfl) rfl rfl ?_;intro w3 hs3 hb3 hk3;try simp only[go_sem]
 apply hK;have hown3:=hown2.keep hk3 (fun i hi he=>hne2 (he▸hi));refine gz0 ?_;refine zat (.inr rfl) Tryz.ntmps155 rfl (zam rfl (zam rfl zap)) ?_;refine⟨⟨⟨_,v2,.inr rfl,by simpa using hb3,by rw[List.map_append];exact hown3⟩⟩,?_⟩;exact((hk1.mono (fun i _ h=> .inl h)).trans (hk2.mono (fun i _ h=> .inr (hown1.ge h).1))).trans (hk3.mono (fun i _ h=> .inl h))
theorem zeS{B:Nat}{w:World}{b:Nat}{bs:List UInt8}{c:UInt8}(h:Bld B w b bs)(hB:B<=w.heap.size)(hlen:bs.length+1<=100000000000):
  Fn Tryz.prog 211 #[.pointer (some ⟨b,0,.none⟩),zaf c] w (fun _ w'=>Bld B w' b (bs++ [c])/\Keep (fun i=>i=b\/B<=i) w w'):=by
 obtain⟨p,v,hp,hb,hown⟩:=h.ex;have hne:=bld_ne hown hb;refine enter Tryz.func211 Tryz.ntmps211 rfl rfl ?_;refine gz0 ?_;refine rq ?_;intro gd K hgd hK;try simp only[go_sem]
 refine Fn.mono (zeN hp hb) ?_;rintro _ w1 ⟨hb1,hk1,hs1⟩;try simp only[go_sem]
 apply hK;have hown1:=hown.keep hk1 (fun i hi he=>hne (he▸hi));have c1:zad w1 (some ⟨b,1,.none⟩)=some v:=zab hb1 rfl;refine rqz ?_;intro gd K hgd hK;refine sgz (az2 c1 yn0) ?_;refine zdk (z:= .int .u8 0) (v:=zaf c) (by rfl) (by rfl) (by rfl) (by rfl) (by rfl) ?_;intro x1 hX1 hXs hXo;try simp only[go_sem]
 refine zcv (B:=B) (hown1.ext hX1) hXo.row (by rfl) (by rfl) (by rfl) (by rfl) (by rfl) (by rfl) (by rfl) (by rfl) (zlk [c]) (by simp;omega) (by decide) (by have:=hX1.size;omega) ?_;intro v2 w2 hown2 _ hk2 hfr;try simp only[go_sem]
 have hb2:=(hk2.block b (by have:=(Array.getElem?_eq_some_iff.1 hb1).1;have:=hX1.size;omega) hne).trans (Ext.at hX1 hb1);have hne2:some b≠v2.ownBlock:=fun he=>by
  obtain⟨cur,fr,h1⟩:=zgL hown2 he;rw[hb2]at h1;injection h1 with h1
  injection h1 with _ h2
  revert h2;decide
 obtain⟨a2,c2,hv2⟩:=hown2.slice;refine zaU (P:=Tryz.prog) (t:=90) (j:=1) (l:=[.pointer (some ⟨b,0,.none⟩),v]) hb2 (by simp) (by rw[hv2];rfl) rfl rfl ?_;intro w3 hs3 hb3 hk3;try simp only[go_sem]
 apply hK;have hown3:=hown2.keep hk3 (fun i hi he=>hne2 (he▸hi));refine gz0 ?_;refine zat (.inr rfl) Tryz.ntmps211 rfl (zam rfl zap) ?_;refine⟨⟨⟨_,v2,.inr rfl,by simpa using hb3,by rw[List.map_append];exact hown3⟩⟩,?_⟩;exact(((hk1.mono (fun i _ h=> .inl h)).trans (hX1.mono (fun i _ h=>h.elim))).trans (hk2.mono (fun i _ h=> .inr (hown1.ge h).1))).trans (hk3.mono (fun i _ h=> .inl h))
theorem ziF(w:World)(p:Addr)(n:Nat):Keep (fun i=>i=p.block) w (w.freeze p n):=by
 unfold World.freeze
 split
 ·exact Keep.refl _ _
 ·exact⟨rfl,rfl,rfl,by simp,fun k hk hne=>by
   simp only[Array.getElem?_modify];rw[if_neg (fun h=>hne h.symm)],ynl _⟩
theorem zh5{B:Nat}{w:World}{b:Nat}{bs:List UInt8}(h:Bld B w b bs)(hlen:bs.length<=100000000000):
  Fn Tryz.prog 157 #[.pointer (some ⟨b,0,.none⟩)] w (fun v w'=>v=vs bs/\Keep (fun i=>B<=i) w w'):=by
 obtain⟨p,v,hp,hb,hown⟩:=h.ex;rcases hown.2 with ⟨rfl,hl⟩| ⟨g,cap,cur,rfl,hgB,hg,hn,hcap,hcs,hx⟩
 ·have h0:bs=[]:=by simpa using hl
  subst h0;refine enter Tryz.func157 Tryz.ntmps157 rfl rfl ?_;refine gz0 ?_;refine zaJ (fun _=>false) [(0,true),(1,true),(2,true),(3,true),(5,true),(6,true),(7,true),(8,true),(9,true),(4,false),(10,false),(11,true)] NoS mixed (by kernel_rfl) ?_;intro gd K x hgd hx hxe hK;have hx0:=zez hxe;clear hxe;have c1:zad x (some ⟨b,1,.none⟩)=some (.slice .none 0 0):=zab (Ext.at hx0 hb) rfl;refine sgz (az2 c1 yn0) ?_;refine zcu (u:= .slice .none 0 0) vq0 (Lib.run_unsafeSliceData_nil _ _ _ _ _) ?_;refine⟨.inr (Keep.refl _ _),?_⟩;refine zbK (u:= .pointer .none) (z:=vi 0) vq0 vr0 (Lib.run_unsafeString_none (P:=Tryz.prog) _ _ _ _ _) ?_;refine⟨.inr (Keep.refl _ _),?_⟩;refine en hK ?_;refine zat (.inr rfl) Tryz.ntmps157 rfl (zam vr0 zap) ?_;exact⟨rfl,hx0.mono (fun i _ h=>h.elim)⟩
 by_cases h0:bs=[]
 ·subst h0;refine enter Tryz.func157 Tryz.ntmps157 rfl rfl ?_;refine gz0 ?_;refine zaJ (fun _=>false) [(0,true),(1,true),(2,true),(3,true),(5,true),(6,true),(7,true),(8,true),(9,true),(4,false),(10,false),(11,true)] NoS mixed (by kernel_rfl) ?_;intro gd K x hgd hx hxe hK;have hx0:=zez hxe;clear hxe;have c1:zad x (some ⟨b,1,.none⟩)=some (.slice (some ⟨g,0,.none⟩) 0 cap):=zab (Ext.at hx0 hb) rfl;have hgx:=Ext.at hx0 hg;refine sgz (az2 c1 yn0) ?_;by_cases hc0:cap=0
  ·subst hc0;refine zcu (u:= .slice (some ⟨g,0,.none⟩) 0 0) vq0 (Lib.run_unsafeSliceData_zero (P:=Tryz.prog) _ _ _ 5 (by rfl) _ _ _ (by simp only[World.shape?,hgx];rfl)) ?_;refine⟨.inr (Ext.alloc x _),?_⟩;refine zbK (u:= .pointer (some ⟨x.heap.size,0,.none⟩)) (z:=vi 0) vq0 vr0 (Lib.run_unsafeString_none (P:=Tryz.prog) _ _ _ _ _) ?_;refine⟨.inr (Keep.refl _ _),?_⟩;refine en hK ?_;refine zat (.inr rfl) Tryz.ntmps157 rfl (zam vr0 zap) ?_;exact⟨rfl,(hx0.trans (Ext.alloc x _)).mono (fun i _ h=>h.elim)⟩
  ·refine zcu (u:= .slice (some ⟨g,0,.none⟩) 0 cap) vq0 (Lib.run_unsafeSliceData_row _ _ _ _ _ _ hc0) ?_;refine⟨.inr (Keep.refl _ _),?_⟩;refine zbK (u:= .pointer (some ⟨g,0,.none⟩)) (z:=vi 0) vq0 vr0 (Lib.run_unsafeString_none (P:=Tryz.prog) _ _ _ _ _) ?_;refine⟨.inr (Keep.refl _ _),?_⟩;refine en hK ?_;refine zat (.inr rfl) Tryz.ntmps157 rfl (zam vr0 zap) ?_;exact⟨rfl,hx0.mono (fun i _ h=>h.elim)⟩
 simp only[ylm,Nat.mul_one]at hn hx hb hcs;have hlen0:0<bs.length:=List.length_pos_iff.2 h0;refine enter Tryz.func157 Tryz.ntmps157 rfl rfl ?_;refine gz0 ?_;have hbg:b≠g:=fun he=>by
  subst he;rw[hb]at hg;injection hg with hg
  injection hg with _ h2
  revert h2;decide
 have hc0:cap≠0:=by omega
 refine zaJ (fun _=>false) [(0,true),(1,true),(2,true),(3,true),(5,true),(6,true),(7,true),(8,true),(9,true),(4,false),(10,false),(11,true)] ((fun i=>i=g)) mixed (by kernel_rfl) ?_;intro gd K x hgd hx hxe hK;have hx0:=zez hxe;clear hxe;have c1:zad x (some ⟨b,1,.none⟩)=some (.slice (some ⟨g,0,.none⟩) bs.length cap):=zab (Ext.at hx0 hb) rfl;have hgx:=Ext.at hx0 hg;refine sgz (az2 c1 yn0) ?_;refine⟨fun a ha hb=>(by cases ha;exact hbg hb),fun a ha hb=>(by cases ha;exact hbg hb),?_⟩;refine zcu (u:= .slice (some ⟨g,0,.none⟩) bs.length cap) vq0 (Lib.run_unsafeSliceData_row _ _ _ _ _ _ hc0) ?_;refine⟨.inr (Keep.refl _ _),?_⟩;refine zbK (u:= .pointer (some ⟨g,0,.none⟩)) (z:=vi bs.length) vq0 vq0 (Lib.run_unsafeString_row (P:=Tryz.prog) _ _ _ _ 5 (by rfl) (by rfl) g (cap*1) (by simp[World.shape?,hgx,hcs]) bs h0 (by omega) (by omega) ?_) ?_
 ·intro j y hj;obtain⟨hj1,hj2⟩:=List.getElem?_eq_some_iff.1 hj;have hcell:=hown.row;obtain⟨a,c,e,hc,hgt⟩:=hcell.ext hx0;injection e with e1 e2 e3
  have h2:=hgt j (by simpa using hj1);rw[←e1,List.getElem_map,hj2]at h2;exact h2
 have hfk:Keep (fun i=>i=g) x (x.freeze ⟨g,0,.none⟩ bs.length):=ziF x ⟨g,0,.none⟩ bs.length;refine⟨.inr hfk,?_⟩;refine en hK ?_;refine zat (.inr rfl) Tryz.ntmps157 rfl (zam vr0 zap) ?_;exact⟨rfl,(hx0.mono (fun i _ h=>h.elim)).trans (hfk.mono (fun i _ h=>h▸hgB))⟩
end Go.Proofs.YtahbdamijngmmaaGreat
namespace Go.Proofs
open Go.Shelf
def Tryz.lays137_ren:Go.Shelf.Ren:=⟨fun|137=>210|217=>259|266=>285|n=>n,fun|9=>9|5=>5|3=>3|n=>n,fun|n=>n⟩
theorem Tryz.lays137:Go.Proofs.Lays.n137 Tryz.prog Tryz.lays137_ren:={
 mixed:=by kernel_rfl
 f137:=Tryz.func210.trans (congrArg some (by kernel_rfl))
 f217:=Tryz.func259.trans (congrArg some (by kernel_rfl))
 f266:=Tryz.func285.trans (congrArg some (by kernel_rfl))
 t3:=Tryz.underlying3
 a3:=Tryz.isAgg3
 z3:=Tryz.sizeOf3
 v3:=Tryz.zeroValue3
 t5:=Tryz.underlying5
 a5:=Tryz.isAgg5
 z5:=Tryz.sizeOf5
 v5:=Tryz.zeroValue5
 t9:=Tryz.underlying9
 a9:=Tryz.isAgg9
 z9:=Tryz.sizeOf9
 v9:=Tryz.zeroValue9}
end Go.Proofs
namespace Go.Proofs.YtahbdamijngmmaaGreat
open Go
set_option maxRecDepth 10000
def escB(c:UInt8):List UInt8:=[92,UInt8.ofNat (48+c.toNat / 100),UInt8.ofNat (48+c.toNat / 10 % 10),UInt8.ofNat (48+c.toNat % 10)]
def marksL:List UInt8:=[46,92,34,40,41,59,64,36]
def labB(c:UInt8):List UInt8:=if c.toNat<=32\/127<=c.toNat then escB c else if marksL.contains c then [92,c] else [c]
def za2(l:Lab):List UInt8:=l.flatMap labB
def zaL(n:Nm):List UInt8:=if n=[] then [46] else n.flatMap fun l=>za2 l++ [46]
theorem zcx{k:Nat}(h:k<256):zaf (UInt8.ofNat k)= .int .u8 (k:Int):=by
 unfold zaf;rw[UInt8.toNat_ofNat_of_lt' (by simpa [UInt8.size] using h)]
theorem zgU(l:List UInt8)(c:UInt8):decide (0<=Lib.indexByte l c)=l.contains c:=by
 induction l with
 |nil=>rfl
 |cons b l ih=>
  unfold Lib.indexByte;rw[List.contains_cons];by_cases h:b==c
  ·rw[if_pos h];have h':b=c:=by simpa using h
   subst h';simp
  ·rw[if_neg h];have:(c==b)=false:=by
    have h':¬b=c:=by simpa using h
    exact beq_eq_false_iff_ne.2 (fun e=>h' e.symm)
   rw[this,Bool.false_or,←ih];have hge:=Lib.indexByte_ge l c;by_cases h2:(Lib.indexByte l c== -1)=true
   ·rw[if_pos h2];have h3:Lib.indexByte l c= -1:=by simpa using h2
    rw[h3]
   ·rw[if_neg h2];have h3:Lib.indexByte l c≠ -1:=by simpa using h2
    exact decide_eq_decide.2 ⟨fun _=>by omega,fun _=>by omega⟩
theorem labB_len(c:UInt8):(labB c).length<=4:=by
 unfold labB escB;by_cases h1:c.toNat<=32\/127<=c.toNat
 ·rw[if_pos h1];exact ynl _
 ·rw[if_neg h1];by_cases h2:marksL.contains c=true
  ·rw[if_pos h2];exact(by decide:2<=4)
  ·rw[if_neg h2];exact(by decide:1<=4)
theorem zcF(l:Lab):(za2 l).length<=4*l.length:=by
 induction l with
 |nil=>simp[za2]
 |cons c l ih=>
  have:=labB_len c;unfold za2 at*;rw[List.flatMap_cons,List.length_append,List.length_cons];omega
theorem zmE(w:World)(c:UInt8):Fn Tryz.prog 209 #[zaf c] w (fun v w'=>v=vs (escB c)/\Ext w w'):=by
 have hc:c.toNat<256:=c.toNat_lt;obtain⟨n,hn⟩:∃n,c.toNat=n:=⟨_,rfl⟩;have e0:zaf c= .int .u8 (n:Int):=by unfold zaf;rw[hn]
 rw[e0];rw[hn]at hc;have h100:¬(100:Int)=0:=by decide
 have h10:¬(10:Int)=0:=by decide
 have e1:((n:Nat):Int).tdiv 100=((n / 100:Nat):Int):=by rw[Int.tdiv_eq_ediv_of_nonneg (by omega)];omega
 have e2:((n:Nat):Int).tdiv 10=((n / 10:Nat):Int):=by rw[Int.tdiv_eq_ediv_of_nonneg (by omega)];omega
 have e3:((n / 10:Nat):Int).tmod 10=((n / 10 % 10:Nat):Int):=by rw[Int.tmod_eq_emod_of_nonneg (by omega)];omega
 have e4:((n:Nat):Int).tmod 10=((n % 10:Nat):Int):=by rw[Int.tmod_eq_emod_of_nonneg (by omega)];omega
 have w1:IntKind.u8.wrap ((n / 100:Nat):Int)=((n / 100:Nat):Int):=zfd (by omega) (by omega);have w2:IntKind.u8.wrap ((n / 10:Nat):Int)=((n / 10:Nat):Int):=zfd (by omega) (by omega);have w3:IntKind.u8.wrap (48+((n / 100:Nat):Int))=((48+n / 100:Nat):Int):=by rw[zfd (by omega) (by omega)];push_cast;rfl
 have w4:IntKind.u8.wrap (48+((n / 10 % 10:Nat):Int))=((48+n / 10 % 10:Nat):Int):=by rw[zfd (by omega) (by omega)];push_cast;rfl
 have w5:IntKind.u8.wrap (48+((n % 10:Nat):Int))=((48+n % 10:Nat):Int):=by rw[zfd (by omega) (by omega)];push_cast;rfl
 have hl:escB c=[92,UInt8.ofNat (48+n / 100),UInt8.ofNat (48+n / 10 % 10),UInt8.ofNat (48+n % 10)]:=by unfold escB;rw[hn]
 refine enter Tryz.func209 Tryz.ntmps209 rfl rfl ?_;refine gz0 ?_;refine rq ?_;intro gd K hgd hK;try simp (disch:=assumption) only[go_sem,b_quo,b_rem,e1,e2,e3,e4,w1,w2,↓w3,↓w4,↓w5]
 refine zbx (z:= .int .u8 0) (l:=(escB c).map zaf) (by rw[hl];rfl) ?_ (by rfl) (by rfl) (by rfl) (by rfl) (fun v hv=>?_) (by rw[hl];simp) ?_
 ·rw[hl];simp only[List.map_cons,List.map_nil];rw[zcx (by omega),zcx (by omega),zcx (by omega)];rfl
 ·obtain⟨d,_,rfl⟩:=List.mem_map.1 hv;rfl
 intro x1 hX1 hXs hXo;try simp only[go_sem]
 have hlen4:(escB c).length=4:=rfl;refine zbh (l:=escB c) rfl rfl rfl vr0 (fun j hj=>?_) ?_
 ·obtain⟨a,c2,e,hc2,hgt⟩:=hXo.row;injection e with e1
  have h2:=hgt j (by simpa using hj);rw[←e1,List.getElem_map]at h2;exact h2
 try simp only[go_sem]
 refine en hK ?_;refine rt0 Tryz.ntmps209 ?_;exact⟨rfl,hX1⟩
theorem zii(w:World)(c:UInt8):Fn Tryz.prog 210 #[vs marksL,zaf c] w (fun v w'=>v=vi (Lib.indexByte marksL c)/\w'=w):=
 Fn.of_calls (Calls.mono (Any.strings_IndexByte Tryz.lays137 ⟨marksL.toArray⟩ (c.toNat:Int) w) fun _ _ ⟨he,hw⟩=>⟨_,he,by simp,hw⟩)
theorem Bld.ext'{B:Nat}{w x:World}{b:Nat}{bs:List UInt8}(h:Bld B w b bs)(hE:Ext w x):Bld B x b bs:=by
 obtain⟨p,v,hp,hb,hown⟩:=h.ex;exact⟨p,v,hp,hE.at hb,hown.ext hE⟩
theorem LText_ok(w:World)(l:Lab)(hl:l.length<=1000000000):Fn Tryz.prog 156 #[vs l] w (fun v w'=>v=vs (za2 l)/\Ext w w'):=by
 refine enter Tryz.func156 Tryz.ntmps156 rfl rfl ?_;refine gz0 ?_;refine zax ?_;intro w1 hE1 hs1 hA;refine rqz ?_;intro gd K hgd hK;try simp only[go_sem]
 refine Fn.mono (zhC _ _ (by omega)) ?_;rintro _ w3 ⟨hE3,cap,rfl,hit⟩;try simp only[go_sem]
 apply hK;have hA3:=hE3.at hA;have s3:=hE3.size;repeat refine c_r ?_
 refine zdW (g:=207) (cap:=cap) vq0 rfl (hit (fun b=>b=w.heap.size) (fun b hb=>by omega)) (Keep.refl _ _) (ynl _) (fun b hb=>by omega)
  (fun x A args h=>by rw[h];rfl)
  (fun pre A=>Ext w A/\Bld (w3.heap.size+2) A w.heap.size (za2 (l.take pre.length)))
  (fun _ _ _=>False) ?_ (fun _ _ _ _ h _=>h.elim) ?_ ?_ ?_ (fun _ _ _ _ _ _ _ h _=>h.elim)
 ·rintro pre A B ⟨h1,p,v,hp,hb,hown⟩ hk;refine⟨Keep.to_ext h1 rfl (fun b hb=>by unfold two at hb;omega) hk,p,v,hp,(hk.block _ (Array.getElem?_eq_some_iff.1 hb).1 (by unfold two;omega)).trans hb,hown.keep hk (fun b hb h=>by have:=(hown.ge hb).1;unfold two at h;omega)⟩
 ·exact⟨hE1.trans hE3,_,_,.inl rfl,hA3,Own.nil _ _ _⟩
 ·rintro lp pre x suf A args hxs hszA ⟨hEA,hB⟩ rfl;obtain⟨hk,rfl⟩:=zeG hxs
  dsimp only
  refine rq ?_;intro gd K hgd hK;try simp only[go_sem]
  apply hK;refine zas ?_;refine⟨rfl,KeepB.refl _ _ _,fun A2 hA2=>?_⟩;obtain⟨c,hc⟩:∃c,l[pre.length]=c:=⟨_,rfl⟩;rw[hc];have hK2:Bld (w3.heap.size+2) A2 w.heap.size (za2 (l.take pre.length)):=by
   obtain⟨p,v,hp,hb,hown⟩:=hB;exact⟨p,v,hp,(hA2.block _ (Array.getElem?_eq_some_iff.1 hb).1 (by unfold two;omega)).trans hb,hown.keep hA2 (fun b hb h=>by have:=(hown.ge hb).1;unfold two at h;omega)⟩
  have hE2:Ext w A2:=Keep.to_ext hEA rfl (fun b hb=>by unfold two at hb;omega) hA2;have hsA2:=hA2.size;have htl:(za2 (l.take pre.length)).length<=4*l.length:=by
   have h1:=zcF (l.take pre.length);rw[List.length_take]at h1;omega
  have htk:za2 (l.take (pre.length+1))=za2 (l.take pre.length)++labB c:=by
   rw[zal hk,hc];unfold za2;rw[List.flatMap_append];simp
  have fin:∀{z:World} {bs:List UInt8},bs=labB c->Bld (w3.heap.size+2) z w.heap.size (za2 (l.take pre.length)++bs)->Keep (fun i=>i=w.heap.size\/w3.heap.size+2<=i) A2 z->
    (Ext w z/\Bld (w3.heap.size+2) z w.heap.size (za2 (l.take (pre++ [(c,pre.length)]).length)))/\KeepB (w3.heap.size+2) (fun b=>b=w.heap.size) A2 z:=fun {z bs} hbs hBz hkz=>by
   refine⟨⟨Keep.to_ext hE2 rfl (fun b hb=>by omega) hkz,?_⟩,hkz.toB (by omega) (fun i hi h=>by omega)⟩;rw[List.length_append,List.length_singleton,htk,←hbs];exact hBz
  repeat refine c_r ?_
  refine zaw (Q:=fun e σ' ds' v'=>e= .normal/\ds'=[]/\v'=A2/\σ' 5=zaf c/\σ' 3= .pointer (some ⟨w.heap.size,0,.none⟩)/\σ' 10= .bool (decide (c.toNat<=32\/127<=c.toNat))) ?_ ?_
  ·refine rq ?_;intro gd K hgd hK;have hg2:=gk 2 13 hgd rfl;by_cases c1:(c.toNat:Int)<=32
   ·try simp (disch:=first|omega|assumption|rfl) only[go_sem,zaf,yet c1,↓hg2]
    apply hK;refine⟨rfl,rfl,rfl,by simp only[go_sem,zaf],vq0,?_⟩;rw[show decide (c.toNat<=32\/127<=c.toNat)=true from yet (.inl (by omega))];simp only[go_sem]
   ·try simp (disch:=first|omega|assumption|rfl) only[go_sem,zaf,yef c1,↓hg2]
    apply hK;refine⟨rfl,rfl,rfl,by simp only[go_sem,zaf],vq0,?_⟩;rw[show decide (c.toNat<=32\/127<=c.toNat)=decide ((127:Int)<=(c.toNat:Int)) from decide_eq_decide.2 ⟨fun h=>by omega,fun h=> .inr (by omega)⟩];simp only[go_sem]
  rintro _ σ1 _ v1 ⟨rfl,rfl,hv1,h5,h3,h10⟩;rw[hv1];clear hv1 v1;repeat refine c_r ?_
  refine zay (t:=decide (c.toNat<=32\/127<=c.toNat)) ((vq1 h10)) ?_ ?_
  ·intro hcc;simp only[ydT]at hcc;have hlb:labB c=escB c:=by unfold labB;rw[if_pos hcc]
   refine rqz ?_;intro gd K hgd hK;refine sgz (az2 h5 h3) ?_;refine Fn.mono (zmE A2 c) ?_;rintro _ z1 ⟨rfl,hz1⟩;refine sgz h3 ?_;have hBz:=hK2.ext' hz1;refine Fn.mono (zdM hBz (by have:=hz1.size;omega) (by have:(escB c).length=4:=rfl;omega)) ?_;rintro _ z2 ⟨hBz2,hkz2⟩;try simp only[go_sem]
   refine en hK ?_;exact fin hlb.symm hBz2 ((hz1.mono (fun i _ h=>h.elim)).trans hkz2)
  ·intro hcc;simp only[ydF]at hcc;refine rqz ?_;intro gd K hgd hK;refine sgz h5 ?_;refine Fn.mono (zii A2 c) ?_;rintro _ y0 ⟨rfl,hy0⟩;try simp only[go_sem]
   rw[hy0];clear hy0 y0;apply hK;have hhas:=zgU marksL c;have tail:∀{z:World} {σ':Sto} {bs:List UInt8},bs++ [c]=labB c->Bld (w3.heap.size+2) z w.heap.size (za2 (l.take pre.length)++bs)->Keep (fun i=>i=w.heap.size\/w3.heap.size+2<=i) A2 z->σ' 5=zaf c->σ' 3= .pointer (some ⟨w.heap.size,0,.none⟩)->bs.length<=4->
     Fn Tryz.prog 211 #[.pointer (some ⟨w.heap.size,0,.none⟩),zaf c] z (fun _ z'=>(Ext w z'/\Bld (w3.heap.size+2) z' w.heap.size (za2 (l.take (pre++ [(c,pre.length)]).length)))/\KeepB (w3.heap.size+2) (fun b=>b=w.heap.size) A2 z'):=fun {z σ' bs} hbs hBz hkz _ _ hb4=>by
    refine Fn.mono (zeS hBz (by have:=hkz.size;omega) (by simp;omega)) ?_;rintro _ z' ⟨h1,h2⟩;exact fin hbs (by rw[←yla];exact h1) (hkz.trans h2)
   repeat refine c_r ?_
   refine zay (t:=marksL.contains c) (by rw[←hhas];simp only[go_sem]) ?_ ?_
   ·intro hm;have hlb:labB c=[92,c]:=by unfold labB;rw[if_neg hcc,if_pos hm]
    refine rqz ?_;intro gd K hgd hK;refine sgz h3 ?_;refine Fn.mono (zeS (c:=92) hK2 (by omega) (by omega)) ?_;rintro _ z1 ⟨hBz1,hkz1⟩;try simp only[go_sem]
    apply hK;refine rqz ?_;intro gd K hgd hK;refine sgz (az2 h3 h5) ?_;refine Fn.mono (tail (σ':=σ1) (bs:=[92]) hlb.symm hBz1 hkz1 h5 h3 (by decide)) ?_;rintro _ z2 hz2;try simp only[go_sem]
    refine en hK ?_;exact hz2
   ·intro hm;have hlb:labB c=[c]:=by unfold labB;rw[if_neg hcc,if_neg (by rw[hm];exact Bool.false_ne_true)]
    refine rqz ?_;intro gd K hgd hK;refine sgz (az2 h3 h5) ?_;refine Fn.mono (tail (σ':=σ1) (bs:=[]) hlb.symm (by simpa using hK2) (Keep.refl _ _) h5 h3 (by decide)) ?_;rintro _ z2 hz2;try simp only[go_sem]
    refine en hK ?_;exact hz2
 ·intro A hszA ⟨hEA,hB⟩ hD;rw[List.take_of_length_le (by simp)]at hB;have hlt:=zcF l;refine rqz ?_;intro gd K hgd hK;try simp only[go_sem]
  refine Fn.mono (zh5 hB (by omega)) ?_;rintro _ z ⟨rfl,hkz⟩;try simp only[go_sem]
  refine en hK ?_;refine zd6 (v:=vs (za2 l)) (.inr rfl) (by rfl) Tryz.ntmps156 vq0 ((hkz.block _ (by omega) (by omega)).trans hD) ?_;intro Z hkZ hsZ;exact⟨rfl,Keep.to_ext (Keep.to_ext hEA rfl (fun b hb=>by omega) hkz) rfl (fun b hb=>by omega) hkZ⟩
theorem zd2(n:Nm):(n.flatMap fun l=>za2 l++ [46]).length<=4*(n.map List.length).sum+n.length:=by
 induction n with
 |nil=>simp
 |cons l n ih=>
  have:=zcF l;rw[List.flatMap_cons,List.length_append,List.map_cons,List.sum_cons,List.length_cons];simp only[List.length_append,List.length_singleton];omega
theorem zhd(w:World)(nv:Value)(n:Nm)(hn:Row w nv (n.map vs))(hl:∀l∈n,l.length<=1000000)(hnl:n.length<=1000):
  Fn Tryz.prog 104 #[nv] w (fun v w'=>v=vs (zaL n)/\Ext w w'):=by
 obtain⟨an,cn,rfl,hcn,hgn⟩:=hn;simp only[ylm]at hcn hgn;rw[ylm];refine enter Tryz.func104 Tryz.ntmps104 rfl rfl ?_;refine gz0 ?_;refine wc0 ?_ ?_
 ·intro h0;simp only[ydT]at h0;have hn0:n=[]:=List.length_eq_zero_iff.1 (by omega);refine gz0 ?_;refine rt0 Tryz.ntmps104 ?_;exact⟨by unfold zaL;rw[if_pos hn0],Keep.refl _ _⟩
 intro h0;simp only[ydF]at h0;have hn0:n≠ []:=fun h=>h0 (by rw[h];rfl);refine gz0 ?_;refine zax ?_;intro w1 hE1 hs1 hA;refine gz0 ?_;refine zao (fun m σ ds A=>ds=[]/\∃(i:Nat),i+m=n.length/\σ 11=vi i/\σ 10=vi n.length/\σ 9= .slice an n.length cn/\σ 3= .pointer (some ⟨w.heap.size,0,.none⟩)/\Ext w A/\w1.heap.size<=A.heap.size/\Bld w1.heap.size A w.heap.size ((n.take i).flatMap fun l=>za2 l++ [46])) n.length ?_ ?_
 ·exact⟨rfl,0,by omega,vr0,vq0,vq0,vq0,hE1,ynl _,_,_,.inl rfl,hA,Own.nil _ _ _⟩
 rintro m σ ds A ⟨rfl,i,him,h11,h10,h9,h3,hEA,hsA,hB⟩;refine rqz ?_;intro gd K hgd hK;simp (disch:=first|omega|assumption|rfl) only[go_sem,h11,h10];refine hK _ _ ?_;clear hK hgd;clear K gd;refine wcz ?_ ?_
 ·intro hlt;simp only[ydT]at hlt;have hi:i<n.length:=by omega
  have hi0:=cj i;have hi1:(i:Int)<(n.length:Int):=by omega
  have hi1':=ci i;have hg:=zaa hEA (hgn i (by simpa using hi));rw[List.getElem_map]at hg;obtain⟨l,hle⟩:∃l,n[i]=l:=⟨_,rfl⟩;rw[hle]at hg;have hmem:l∈n:=hle▸List.getElem_mem hi;obtain⟨xn,rfl⟩:=yxs (zag hg);have hpl:((n.take i).flatMap fun l=>za2 l++ [46]).length<=5000000000:=by
   have h1:=zd2 (n.take i);have h2:((n.take i).map List.length).sum<=1000000*n.length:=by
    have:∀(k:Nm),(∀l∈k,l.length<=1000000)->(k.map List.length).sum<=1000000*k.length:=fun k=>by
     induction k with
     |nil=>intro _;simp
     |cons x k ih=>
      intro h;have h3:=ih (fun l hl=>h l (List.mem_cons_of_mem _ hl));have h4:=h x (List.mem_cons_self ..);rw[List.map_cons,List.sum_cons,List.length_cons];omega
    have h3:=this (n.take i) (fun l hl'=>hl l (List.mem_of_mem_take hl'));rw[List.length_take]at h3;omega
   rw[List.length_take]at h1;omega
  have htl:=zcF l;have hll:=hl l hmem;have hadd:(za2 l).length+([46]:List UInt8).length<=9223372036854775807:=by rw[List.length_singleton];omega
  refine rqz ?_;intro gd K hgd hK;simp (disch:=first|omega|assumption|rfl) only[go_sem,h9,h11,hi0,hi1,hg];refine hK _ _ ?_;clear hK hgd;clear K gd;refine rqz ?_;intro gd K hgd hK;try simp only[go_sem]
  refine Fn.mono (LText_ok A l (by omega)) ?_;rintro _ A1 ⟨rfl,hE2⟩;refine sgz h3 ?_;refine Fn.mono (zdM (s:=za2 l++ [46]) (hB.ext' hE2) (by have:=hE2.size;omega) (by rw[List.length_append,List.length_singleton];omega)) ?_;rintro _ A2 ⟨hB2,hk2⟩;try simp only[go_sem]
  apply hK;refine rqz ?_;intro gd K hgd hK;simp (disch:=first|omega|assumption|rfl) only[go_sem,h11,hi1'];refine hK _ _ ?_;clear hK hgd;clear K gd;repeat refine c_r ?_
  refine⟨m - 1,by omega,rfl,i+1,by omega,vq0,vq1 h10,vq1 h9,vq1 h3,Keep.to_ext (hEA.trans hE2) rfl (fun b hb=>by omega) hk2,by have:=hE2.size;have:=hk2.size;omega,?_⟩;rw[zal hi,List.flatMap_append,hle];simpa using hB2
 ·intro hge;simp only[ydF]at hge;rw[List.take_of_length_le (by omega)]at hB;have hpl:(n.flatMap fun l=>za2 l++ [46]).length<=5000000000:=by
   have h1:=zd2 n;have:∀(k:Nm),(∀l∈k,l.length<=1000000)->(k.map List.length).sum<=1000000*k.length:=fun k=>by
    induction k with
    |nil=>intro _;simp
    |cons x k ih=>
     intro h;have h3:=ih (fun l hl=>h l (List.mem_cons_of_mem _ hl));have h4:=h x (List.mem_cons_self ..);rw[List.map_cons,List.sum_cons,List.length_cons];omega
   have h3:=this n hl;omega
  refine rqz ?_;intro gd K hgd hK;refine sgz h3 ?_;refine Fn.mono (zh5 hB (by omega)) ?_;rintro _ z ⟨rfl,hkz⟩;try simp only[go_sem]
  refine en hK ?_;refine rt0 Tryz.ntmps104 ?_;exact⟨by unfold zaL;rw[if_neg hn0],Keep.to_ext hEA rfl (fun b hb=>by omega) hkz⟩
theorem ziR(w:World)(c:UInt8)(l:List UInt8)(hl:l.length<=1000000):Fn Tryz.prog 212 #[zaf c,vs l] w (fun v w'=>v= .bool (l.contains c)/\Ext w w'):=by
 refine enter Tryz.func212 Tryz.ntmps212 rfl rfl ?_;refine gz0 ?_;refine zao (fun m σ ds A=>ds=[]/\∃(i:Nat),i+m=l.length/\σ 5=vi i/\σ 1=vs l/\σ 0=zaf c/\Ext w A/\∀j (h:j<l.length),j<i->l[j]≠c) l.length ?_ ?_
 ·exact⟨rfl,0,by omega,vr0,vq0,vq0,Keep.refl _ _,fun j h hj=>absurd hj (by omega)⟩
 rintro m σ ds A ⟨rfl,i,him,h5,h1,h0,hEA,hlow⟩;refine gz (az2 h5 h1) ?_;refine wc0 ?_ ?_
 ·intro hlt;simp only[ydT]at hlt;have hi:i<l.length:=by omega
  have hi0:=cj i;have hi1:(i:Int)<(l.length:Int):=by omega
  have hi1':=ci i;refine rqz ?_;intro gd K hgd hK;simp (disch:=first|omega|assumption|rfl) only[go_sem,h1,h5,h0,hi0,hi1,zaf];refine hK _ _ ?_;clear hK hgd;clear K gd;refine wcz ?_ ?_
  ·intro heq;simp only[ydT]at heq;have hc:l[i]=c:=UInt8.toNat_inj.1 (by omega);refine gz0 ?_;refine rt0 Tryz.ntmps212 ?_;refine⟨?_,hEA⟩;rw[show l.contains c=true from by rw[List.contains_iff_mem,←hc];exact List.getElem_mem hi]
  ·intro hne;simp only[ydF]at hne;refine gz (az2 h5 hi1') ?_;refine⟨m - 1,by omega,rfl,i+1,by omega,vq0,vq1 h1,vq1 h0,hEA,fun j hj hji=>?_⟩;by_cases hj2:j=i
   ·subst hj2;exact fun h=>hne (by rw[h])
   ·exact hlow j hj (by omega)
 ·intro hge;simp only[ydF]at hge;refine gz0 ?_;refine rt0 Tryz.ntmps212 ?_;refine⟨?_,hEA⟩;rw[show l.contains c=false from by
   rw[←Bool.not_eq_true,List.contains_iff_mem];intro hm;obtain⟨j,hj,e⟩:=List.getElem_of_mem hm;exact hlow j hj (by omega) e]
theorem ziT(w:World)(c:UInt8):Fn Tryz.prog 213 #[zaf c] w (fun v w'=>v=vs (escB c)/\Ext w w'):=by
 have hc:c.toNat<256:=c.toNat_lt;obtain⟨n,hn⟩:∃n,c.toNat=n:=⟨_,rfl⟩;have e0:zaf c= .int .u8 (n:Int):=by unfold zaf;rw[hn]
 rw[e0];rw[hn]at hc;have h100:¬(100:Int)=0:=by decide
 have h10:¬(10:Int)=0:=by decide
 have e1:((n:Nat):Int).tdiv 100=((n / 100:Nat):Int):=by rw[Int.tdiv_eq_ediv_of_nonneg (by omega)];omega
 have e2:((n:Nat):Int).tdiv 10=((n / 10:Nat):Int):=by rw[Int.tdiv_eq_ediv_of_nonneg (by omega)];omega
 have e3:((n / 10:Nat):Int).tmod 10=((n / 10 % 10:Nat):Int):=by rw[Int.tmod_eq_emod_of_nonneg (by omega)];omega
 have e4:((n:Nat):Int).tmod 10=((n % 10:Nat):Int):=by rw[Int.tmod_eq_emod_of_nonneg (by omega)];omega
 have w1:IntKind.u8.wrap ((n / 100:Nat):Int)=((n / 100:Nat):Int):=zfd (by omega) (by omega);have w2:IntKind.u8.wrap ((n / 10:Nat):Int)=((n / 10:Nat):Int):=zfd (by omega) (by omega);have w3:IntKind.u8.wrap (48+((n / 100:Nat):Int))=((48+n / 100:Nat):Int):=by rw[zfd (by omega) (by omega)];push_cast;rfl
 have w4:IntKind.u8.wrap (48+((n / 10 % 10:Nat):Int))=((48+n / 10 % 10:Nat):Int):=by rw[zfd (by omega) (by omega)];push_cast;rfl
 have w5:IntKind.u8.wrap (48+((n % 10:Nat):Int))=((48+n % 10:Nat):Int):=by rw[zfd (by omega) (by omega)];push_cast;rfl
 obtain⟨D,hD⟩:∃D,D=[UInt8.ofNat (48+n / 100),UInt8.ofNat (48+n / 10 % 10),UInt8.ofNat (48+n % 10)]:=⟨_,rfl⟩;have hl:escB c=[92]++D:=by unfold escB;rw[hn,hD];rfl
 have hDl:D.length=3:=by rw[hD];rfl
 refine enter Tryz.func213 Tryz.ntmps213 rfl rfl ?_;refine gz0 ?_;refine rq ?_;intro gd K hgd hK;try simp (disch:=assumption) only[go_sem,b_quo,b_rem,e1,e2,e3,e4,w1,w2,↓w3,↓w4,↓w5]
 refine zbx (z:= .int .u8 0) (l:=D.map zaf) (by rw[hD];rfl) ?_ (by rfl) (by rfl) (by rfl) (by rfl) (fun v hv=>?_) (by rw[hD];simp) ?_
 ·rw[hD];simp only[List.map_cons,List.map_nil];rw[zcx (by omega),zcx (by omega),zcx (by omega)];rfl
 ·obtain⟨d,_,rfl⟩:=List.mem_map.1 hv;rfl
 intro x1 hX1 hXs hXo;try simp only[go_sem]
 refine zbh (l:=D) (a:=some ⟨w.heap.size,0,.none⟩) (c:=3) rfl rfl rfl (by rw[hDl];first| (simp only[go_sem];done)| (simp only[go_sem];rfl)) (fun j hj=>?_) ?_
 ·obtain⟨a,c2,e,hc2,hgt⟩:=hXo.row;injection e with e1
  have h2:=hgt j (by simpa using hj);rw[←e1,List.getElem_map]at h2;exact h2
 have hadd:([92]:List UInt8).length+D.length<=9223372036854775807:=by rw[hDl];decide
 simp (disch:=assumption) only[go_sem];refine en hK ?_;refine rt0 Tryz.ntmps213 ?_;exact⟨by rw[hl];rfl,hX1⟩
theorem zjk(c:UInt8):labB c=if marksL.contains c then [92,c] else if 33<=c.toNat/\c.toNat<=126 then [c] else escB c:=by
 unfold labB;by_cases hm:marksL.contains c=true
 ·have hmem:c∈marksL:=by simpa using hm
  have hr:¬(c.toNat<=32\/127<=c.toNat):=by
   simp only[marksL,List.mem_cons,List.not_mem_nil,or_false]at hmem;rcases hmem with rfl|rfl|rfl|rfl|rfl|rfl|rfl|rfl<;>decide
  rw[if_neg hr,if_pos hm,if_pos hm]
 ·by_cases hr:c.toNat<=32\/127<=c.toNat
  ·rw[if_pos hr,if_neg hm,if_neg (by omega)]
  ·rw[if_neg hr,if_neg hm,if_neg hm,if_pos (by omega)]
theorem zhb(w:World)(l:Lab)(hl:l.length<=1000000000):Fn Tryz.prog 158 #[vs l] w (fun v w'=>v=vs (za2 l)/\Ext w w'):=by
 refine enter Tryz.func158 Tryz.ntmps158 rfl rfl ?_;refine gz0 ?_;refine zao (fun m σ ds A=>ds=[]/\∃(i:Nat),i+m=l.length/\σ 4=vi i/\σ 0=vs l/\σ 3=vs (za2 (l.take i))/\Ext w A) l.length ?_ ?_
 ·exact⟨rfl,0,by omega,vr0,vq0,vr0,Keep.refl _ _⟩
 rintro m σ ds A ⟨rfl,i,him,h4,h0,h3,hEA⟩;refine gz (az2 h4 h0) ?_;refine wc0 ?_ ?_
 ·intro hlt;simp only[ydT]at hlt;have hi:i<l.length:=by omega
  have hi0:=cj i;have hi1:(i:Int)<(l.length:Int):=by omega
  have hi1':=ci i;obtain⟨c,hc⟩:∃c,l[i]=c:=⟨_,rfl⟩;have hin:(i:Int).toNat<l.length:=by omega
  have htk:za2 (l.take (i+1))=za2 (l.take i)++labB c:=by
   rw[zal hi,hc];unfold za2;rw[List.flatMap_append];simp
  have hlen:=zcF (l.take i);rw[List.length_take]at hlen;have hsl:(l.drop i).take (i+1 - i)=[c]:=by
   rw[List.drop_eq_getElem_cons hi,hc,show i+1 - i=1 from by omega];rfl
  have b0:(0:Int)<=((i+1:Nat):Int):=by omega
  have b1:(i:Int)<=((i+1:Nat):Int):=by omega
  have b2:((i+1:Nat):Int)<=(l.length:Int):=by omega
  have a1:(za2 (l.take i)).length+([92]:List UInt8).length<=9223372036854775807:=by simp;omega
  have a2:(za2 (l.take i)++ [92]).length+([c]:List UInt8).length<=9223372036854775807:=by simp;omega
  have a3:(za2 (l.take i)).length+([c]:List UInt8).length<=9223372036854775807:=by simp;omega
  have a4:(za2 (l.take i)).length+(escB c).length<=9223372036854775807:=by have:(escB c).length=4:=rfl;omega
  have hbc:zaf c= .int .u8 (c.toNat:Int):=rfl;have hlr:=zjk c;refine rqz ?_;intro gd K hgd hK;refine sgz (az6 h0 h4 hi0 hi1 Int.toNat_natCast hc) ?_;refine Fn.mono (ziR A c marksL (by decide)) ?_;rintro _ A1 ⟨rfl,hE1⟩;try simp only[go_sem]
  apply hK;have hEA1:=hEA.trans hE1;refine wcz ?_ ?_
  ·intro hm;rw[if_pos hm]at hlr;refine rqz ?_;intro gd K hgd hK;simp (disch:=first|assumption|omega) only[go_sem,h0,h4,h3,hi1',Int.toNat_natCast,hsl];apply hK;refine gz (az2 h4 hi1') ?_;refine⟨m - 1,by omega,rfl,i+1,by omega,vq0,vq1 h0,?_,hEA1⟩;rw[htk,hlr];simp only[go_sem];simp
  ·intro hm;rw[if_neg (by rw[hm];exact Bool.false_ne_true)]at hlr;repeat refine c_r ?_
   refine zaw (Q:=fun e σ' ds' v'=>e= .normal/\ds'=[]/\v'=A1/\σ' 4=vi i/\σ' 0=vs l/\σ' 3=vs (za2 (l.take i))/\σ' 30= .bool (decide (33<=c.toNat/\c.toNat<=126))) ?_ ?_
   ·refine rq ?_;intro gd K hgd hK;have hg4:=gk 4 35 hgd rfl;by_cases c1:(33:Int)<=(c.toNat:Int)
    ·try simp (disch:=first|omega|assumption|rfl) only[go_sem,h0,h4,hi0,hi1,Int.toNat_natCast,hc,yet c1,↓hg4]
     apply hK;refine⟨rfl,rfl,rfl,vq1 h4,vq1 h0,vq1 h3,?_⟩;rw[show decide (33<=c.toNat/\c.toNat<=126)=decide ((c.toNat:Int)<=126) from decide_eq_decide.2 ⟨fun h=>by omega,fun h=>⟨by omega,by omega⟩⟩];simp only[go_sem]
    ·try simp (disch:=first|omega|assumption|rfl) only[go_sem,h0,h4,hi0,hi1,Int.toNat_natCast,hc,yef c1,↓hg4]
     apply hK;refine⟨rfl,rfl,rfl,vq1 h4,vq1 h0,vq1 h3,?_⟩;rw[show decide (33<=c.toNat/\c.toNat<=126)=false from yef (fun h=>c1 (by omega))];simp only[go_sem]
   clear h4 h0 h3;rintro _ σ1 _ v1 ⟨rfl,rfl,hv1,h4,h0,h3,h30⟩;rw[hv1];clear hv1 v1;repeat refine c_r ?_
   refine zay (t:=decide (33<=c.toNat/\c.toNat<=126)) ((vq1 h30)) ?_ ?_
   ·intro hr;simp only[ydT]at hr;rw[if_pos hr]at hlr;refine rqz ?_;intro gd K hgd hK;simp (disch:=first|assumption|omega) only[go_sem,h0,h4,h3,hi1',Int.toNat_natCast,hsl];apply hK;refine gz (az2 h4 hi1') ?_;refine⟨m - 1,by omega,rfl,i+1,by omega,vq0,vq1 h0,?_,hEA1⟩;rw[htk,hlr];simp only[go_sem]
   ·intro hr;simp only[ydF]at hr;rw[if_neg hr]at hlr;refine rqz ?_;intro gd K hgd hK;refine sgz (az7 h0 h4 h3 hi0 hi1 Int.toNat_natCast hc) ?_;refine Fn.mono (ziT A1 c) ?_;rintro _ A2 ⟨rfl,hE2⟩;simp (disch:=first|assumption|omega) only[go_sem];apply hK;refine gz (az2 h4 hi1') ?_;refine⟨m - 1,by omega,rfl,i+1,by omega,vq0,vq1 h0,?_,hEA1.trans hE2⟩;rw[htk,hlr];simp only[go_sem]
 ·intro hge;simp only[ydF]at hge;rw[List.take_of_length_le (by omega)]at h3;refine gz h3 ?_;refine rt1 h3 Tryz.ntmps158 ?_;exact⟨rfl,hEA⟩
theorem zb9(w:World)(nv:Value)(n:Nm)(hn:Row w nv (n.map vs))(hl:∀l∈n,l.length<=1000000)(hnl:n.length<=1000):
  Fn Tryz.prog 107 #[nv] w (fun v w'=>v=vs (zaL n)/\Ext w w'):=by
 obtain⟨an,cn,rfl,hcn,hgn⟩:=hn;simp only[ylm]at hcn hgn;rw[ylm];refine enter Tryz.func107 Tryz.ntmps107 rfl rfl ?_;refine gz0 ?_;refine wc0 ?_ ?_
 ·intro h0;simp only[ydT]at h0;have hn0:n=[]:=List.length_eq_zero_iff.1 (by omega);refine gz0 ?_;refine rt0 Tryz.ntmps107 ?_;exact⟨by unfold zaL;rw[if_pos hn0],Keep.refl _ _⟩
 intro h0;simp only[ydF]at h0;have hn0:n≠ []:=fun h=>h0 (by rw[h];rfl);refine gz0 ?_;refine zao (fun m σ ds A=>ds=[]/\∃(i:Nat),i+m=n.length/\σ 4=vi i/\σ 0= .slice an n.length cn/\σ 3=vs ((n.take i).flatMap fun l=>za2 l++ [46])/\Ext w A) n.length ?_ ?_
 ·exact⟨rfl,0,by omega,vr0,vq0,vr0,Keep.refl _ _⟩
 rintro m σ ds A ⟨rfl,i,him,h4,h0',h3,hEA⟩;refine gz (az2 h4 h0') ?_;refine wc0 ?_ ?_
 ·intro hlt;simp only[ydT]at hlt;have hi:i<n.length:=by omega
  have hi0:=cj i;have hi1:(i:Int)<(n.length:Int):=by omega
  have hi1':=ci i;have hg:=zaa hEA (hgn i (by simpa using hi));rw[List.getElem_map]at hg;obtain⟨l,hle⟩:∃l,n[i]=l:=⟨_,rfl⟩;rw[hle]at hg;have hmem:l∈n:=hle▸List.getElem_mem hi;obtain⟨xn,rfl⟩:=yxs (zag hg);have hpl:((n.take i).flatMap fun l=>za2 l++ [46]).length<=5000000000:=by
   have h1:=zd2 (n.take i);have:∀(k:Nm),(∀l∈k,l.length<=1000000)->(k.map List.length).sum<=1000000*k.length:=fun k=>by
    induction k with
    |nil=>intro _;simp
    |cons x k ih=>
     intro h;have h3:=ih (fun l hl=>h l (List.mem_cons_of_mem _ hl));have h4:=h x (List.mem_cons_self ..);rw[List.map_cons,List.sum_cons,List.length_cons];omega
   have h3:=this (n.take i) (fun l hl'=>hl l (List.mem_of_mem_take hl'));rw[List.length_take]at h1 h3;omega
  have htl:=zcF l;have hll:=hl l hmem;have a1:((n.take i).flatMap fun l=>za2 l++ [46]).length+(za2 l).length<=9223372036854775807:=by omega
  have a2:(((n.take i).flatMap fun l=>za2 l++ [46])++za2 l).length+([46]:List UInt8).length<=9223372036854775807:=by rw[List.length_append,List.length_singleton];omega
  refine rqz ?_;intro gd K hgd hK;refine sgz (az6 h0' h3 h4 hi0 hi1 hg) ?_;refine Fn.mono (zhb A l (by omega)) ?_;rintro _ A1 ⟨rfl,hE2⟩;simp (disch:=first|assumption|omega) only[go_sem];apply hK;refine gz (az2 h4 hi1') ?_;refine⟨m - 1,by omega,rfl,i+1,by omega,vq0,vq1 h0',?_,hEA.trans hE2⟩;rw[zal hi,List.flatMap_append,hle];simp only[go_sem];simp
 ·intro hge;simp only[ydF]at hge;rw[List.take_of_length_le (by omega)]at h3;refine gz h3 ?_;refine rt1 h3 Tryz.ntmps107 ?_;exact⟨by unfold zaL;rw[if_neg hn0],hEA⟩
theorem zet{a b:Nat}(ha:a<256)(hb:b<256)(h:UInt8.ofNat a=UInt8.ofNat b):a=b:=by
 have:=congrArg UInt8.toNat h
 rwa [UInt8.toNat_ofNat_of_lt' (by simpa [UInt8.size] using ha),UInt8.toNat_ofNat_of_lt' (by simpa [UInt8.size] using hb)]at this
theorem zex(c:UInt8):labB c=escB c\/(labB c=[92,c]/\c∈marksL)\/(labB c=[c]/\c≠92/\c≠46):=by
 rw[zjk];by_cases hm:marksL.contains c=true
 ·rw[if_pos hm];exact .inr (.inl ⟨rfl,by simpa using hm⟩)
 ·rw[if_neg hm];by_cases hr:33<=c.toNat/\c.toNat<=126
  ·rw[if_pos hr];refine .inr (.inr ⟨rfl,?_,?_⟩)
   ·rintro rfl;exact hm (by decide)
   ·rintro rfl;exact hm (by decide)
  ·rw[if_neg hr];exact .inl rfl
theorem zjv{c d:UInt8}(hd:d∈marksL):UInt8.ofNat (48+c.toNat / 100)≠d:=by
 intro h;have hc:c.toNat<256:=c.toNat_lt;have:=congrArg UInt8.toNat h;rw[UInt8.toNat_ofNat_of_lt' (by simp[UInt8.size];omega)]at this;simp only[marksL,List.mem_cons,List.not_mem_nil,or_false]at hd;rcases hd with rfl|rfl|rfl|rfl|rfl|rfl|rfl|rfl<;>(revert this;simp;omega)
theorem labB_inj{c d:UInt8}{x y:List UInt8}(h:labB c++x=labB d++y):c=d/\x=y:=by
 have hc:c.toNat<256:=c.toNat_lt;have hd:d.toNat<256:=d.toNat_lt;rcases zex c with h1| ⟨h1,m1⟩| ⟨h1,n1,k1⟩<;>rcases zex d with h2| ⟨h2,m2⟩| ⟨h2,n2,k2⟩<;>rw[h1,h2]at h
 ·unfold escB at h;simp only[List.cons_append,List.nil_append,List.cons.injEq,true_and]at h;obtain⟨e1,e2,e3,e4⟩:=h;have e1:=zet (by omega) (by omega) e1;have e2:=zet (by omega) (by omega) e2;have e3:=zet (by omega) (by omega) e3;exact⟨UInt8.toNat_inj.1 (by omega),e4⟩
 ·unfold escB at h;simp only[List.cons_append,List.nil_append,List.cons.injEq,true_and]at h;exact absurd h.1 (zjv m2)
 ·unfold escB at h;simp only[List.cons_append,List.nil_append,List.cons.injEq]at h;exact absurd h.1.symm n2
 ·unfold escB at h;simp only[List.cons_append,List.nil_append,List.cons.injEq,true_and]at h;exact absurd h.1.symm (zjv m1)
 ·simp only[List.cons_append,List.nil_append,List.cons.injEq,true_and]at h;exact h
 ·simp only[List.cons_append,List.nil_append,List.cons.injEq]at h;exact absurd h.1.symm n2
 ·unfold escB at h;simp only[List.cons_append,List.nil_append,List.cons.injEq]at h;exact absurd h.1 n1
 ·simp only[List.cons_append,List.nil_append,List.cons.injEq]at h;exact absurd h.1 n1
 ·simp only[List.cons_append,List.nil_append,List.cons.injEq]at h;exact h
theorem zgR{c:UInt8}{x y:List UInt8}(h:labB c++x=46::y):False:=by
 rcases zex c with h1| ⟨h1,_⟩| ⟨h1,_,k1⟩<;>rw[h1]at h
 ·unfold escB at h;simp at h
 ·simp at h
 ·simp at h;exact k1 h.1
theorem zhi:∀{l m:Lab} {x y:List UInt8},za2 l++46::x=za2 m++46::y->l=m/\x=y
 | [],[],x,y,h=>by simpa [za2] using h
 | [],d::m,x,y,h=>by
  unfold za2 at h;rw[List.flatMap_cons,yla]at h;exact(zgR h.symm).elim
 |c::l,[],x,y,h=>by
  unfold za2 at h;rw[List.flatMap_cons,yla]at h;exact(zgR h).elim
 |c::l,d::m,x,y,h=>by
  unfold za2 at h;rw[List.flatMap_cons,List.flatMap_cons,yla,yla]at h;obtain⟨rfl,h2⟩:=labB_inj h;obtain⟨rfl,h3⟩:=zhi (l:=l) (m:=m) h2;exact⟨rfl,h3⟩
theorem zhj:∀{a b:Nm},(a.flatMap fun l=>za2 l++ [46])=(b.flatMap fun l=>za2 l++ [46])->a=b
 | [],[],_=>rfl
 | [],m::b,h=>by simp at h
 |l::a,[],h=>by simp at h
 |l::a,m::b,h=>by
  rw[List.flatMap_cons,List.flatMap_cons,yla,yla]at h;obtain⟨rfl,h2⟩:=zhi h;rw[zhj h2]
theorem zkG{a b:Nm}(ha:∀l∈a,l≠ [])(hb:∀l∈b,l≠ [])(h:zaL a=zaL b):a=b:=by
 have one:∀{c:Nm},(∀l∈c,l≠ [])->c≠ []->(c.flatMap fun l=>za2 l++ [46])≠ [46]:=fun {c} hc h0 he=>by
  cases c with
  |nil=>exact h0 rfl
  |cons l c=>
   have hl:=hc l (List.mem_cons_self ..);cases l with
   |nil=>exact hl rfl
   |cons d l=>
    rw[List.flatMap_cons]at he;unfold za2 at he;rw[List.flatMap_cons,yla,yla]at he;exact zgR he
 unfold zaL at h;by_cases h1:a=[]
 ·by_cases h2:b=[]
  ·rw[h1,h2]
  ·rw[if_pos h1,if_neg h2]at h;exact absurd h.symm (one hb h2)
 ·by_cases h2:b=[]
  ·rw[if_neg h1,if_pos h2]at h;exact absurd h (one ha h1)
  ·rw[if_neg h1,if_neg h2]at h;exact zhj h
def zaZ(had:List (List UInt8)):List Nm->List Nm
 | []=>[]
 |h::l=>if had.contains (zaL h) then zaZ had l else h::zaZ (zaL h::had) l
def zbo(t:Int)(ds:List DatL):List Nm:=zaZ [] (zaz t ds)
structure NmG(n:Nm):Prop where
 ne:∀l∈n,l≠ []
 lb:∀l∈n,l.length<=1000000
 len:n.length<=1000
theorem NmG.m{n:Nm}(h:NmG n):NmM n:=⟨h.lb,by have:=h.len;omega⟩
def encH(w0:World)(_:Nat)(x:Nm)(_:Nat->Prop)(_:World)(args:Array Value):Prop:=∃v,args=#[v]/\Row w0 v (x.map vs)
theorem ziA{M:List (Lab×Value)}{t k:Lab}{v:Value}(h:M.lookup t= .none):(M++ [(t,v)]).lookup k=if k==t then some v else M.lookup k:=by
 induction M with
 |nil=>
  simp only[List.nil_append,List.lookup_cons,List.lookup_nil]
  split<;>simp_all
 |cons p M ih=>
  obtain⟨q,u⟩:=p;simp only[List.lookup_cons]at h
  split at h
  ·cases h
  ·rename_i hne;simp only[List.cons_append,List.lookup_cons];by_cases hk:(k==q)=true
   ·simp only[hk];have hkq:k=q:=by simpa using hk
    have:(k==t)=false:=by
     rw[hkq];exact beq_eq_false_iff_ne.2 (fun e=>by rw[e]at hne;simp at hne)
    rw[this];rfl
   ·have hk':(k==q)=false:=by simpa using hk
    simp only[hk'];exact ih h
theorem zlH{w0 W0:World}{C:Nat->Prop}{bs:Nat}{ow tl dv:Value}{t:Int}{ds:List DatL}(hE0:Ext w0 W0)(hb:W0.heap[bs]? =some (.cells #[ow,vi t,tl,dv] 340 (0,0)))(how:one ow=true)(htl:one tl=true)(hd:Rows 5 (DatAt w0) W0 dv ds)
  (hC:∀b,C b->w0.heap.size<=b/\b<W0.heap.size) (hlen:ds.length<=1000000000) (hgood:∀n∈zaz t ds,NmG n):
  IterU Tryz.prog 282 #[.pointer (some ⟨bs,0,.none⟩)] W0 W0.heap.size C 1 (fun pre x=>∃suf,zbo t ds=pre++x::suf) (fun xs=>xs=zbo t ds) (encH w0):=by
 intro lp J Jx W hW hnW hJ hJx hY h0;have hs0:=hE0.size;refine enter Tryz.func282 Tryz.ntmps282 rfl rfl ?_;refine gz0 ?_;have hm0:=new_map W;have hEm:=Ext.alloc W (.map #[] 0);have hsm:=zai W (.map #[] 0);revert hm0 hEm hsm;generalize W.alloc (.map #[] 0)=W1;intro hm0 hEm hsm;have hb1:=Ext.at (hW.trans hEm) hb;have d4:=zae (n:=4) (l:=[ow,vi t,tl,dv]) hb1 rfl;refine rqz ?_;intro gd K hgd hK;refine sgz d4 ?_;refine Fn.mono (zgy (hE0.trans (hW.trans hEm)) how htl (hd.ext (hW.trans hEm)) hlen) ?_;rintro tv X ⟨hEX,htv,htb⟩;obtain⟨aT,cT,rfl,hcT,hgT⟩:=htv.open;obtain⟨L,hL⟩:∃L,zaz t ds=L:=⟨_,rfl⟩;have hH:zbo t ds=zaZ [] L:=by unfold zbo;rw[hL]
 rw[hL]at htv htb hcT hgood ⊢;simp only[hL]at hgT;try simp only[go_sem]
 apply hK;have hLl:L.length<=1000000000:=by
  rw[←hL];unfold zaz
  split
  ·have:=List.length_filterMap_le (fun d:DatL=>d.names.head?) ds;omega
  ·simp
 have hEWX:=hEm.trans hEX;have hmX:MapAt X W.heap.size []:=hm0.block (hEX.block _ (by omega) (fun h=>h));have hsX:=hEX.size;repeat refine c_r ?_
 refine zao (fun m σ ds' v=>ds'=[]/\∃(i:Nat) (pre:List Nm) (U:Nat->Prop) (had:List (List UInt8)) (M:List (Lab×Value)),i+m=L.length/\zaZ [] L=pre++zaZ had (L.drop i)/\σ 11=vi i/\σ 10=vi L.length/\σ 9= .slice aT L.length cT/\σ 0= .func (.yield lp) #[] #[]/\σ 3= .map (some W.heap.size)/\
  J pre U v/\(∀b,U b->X.heap.size<=b)/\X.heap.size<=v.heap.size/\KeepB W0.heap.size C W v/\Ext w0 v/\MapAt v W.heap.size M/\(∀k,M.lookup k=if had.contains k then some (.bool true) else .none)/\Rows 1 (NmC w0) v (.slice aT L.length cT) L) L.length ?_ ?_
 ·refine⟨rfl,0,[],NoS,[],[],by omega,rfl,vr0,vq0,vq0,vq0,vq0,hJ _ _ _ _ h0 (hEWX.mono (fun _ _ h=>h.elim)),fun b h=>h.elim,ynl _,hEWX.toB (by omega) (fun _ _ h=>h.elim),hE0.trans (hW.trans hEWX),hmX,fun k=>by simp,htv⟩
 rintro m σ ds' v ⟨rfl,i,pre,U,had,M,him,hpre,h11,h10,h9,hf0,h3,hj,hU,hsv,hKB,hEv,hM,hMl,hrow⟩;refine rqz ?_;intro gd K hgd hK;simp (disch:=first|omega|assumption|rfl) only[go_sem,h11,h10];refine hK _ _ ?_;clear hK hgd;clear K gd;refine wcz ?_ ?_
 ·intro hlt;simp only[ydT]at hlt;have hi:i<L.length:=by omega
  have hi0:=cj i;have hi1:(i:Int)<(L.length:Int):=by omega
  have hi1':=ci i;obtain⟨h,hh⟩:∃h,L[i]=h:=⟨_,rfl⟩;have hgh:NmG h:=hh▸hgood _ (List.getElem_mem hi);obtain⟨cs,hcs,hv,rfl,hvr⟩:=hrow.get hi;rw[hh]at hvr;have hcell:zad v (adr aT i)=some hv:=by
   have:=zah hcs (j:=0) rfl
   rwa [Nat.mul_one,zaj]at this
  obtain⟨xT,rfl⟩:=yxs (zag hcell);have hdr:L.drop i=h::L.drop (i+1):=by rw[List.drop_eq_getElem_cons hi,hh]
  rw[hdr]at hpre;refine rqz ?_;intro gd K hgd hK;simp (disch:=first|omega|assumption|rfl) only[go_sem,h9,h11,hi0,hi1,hcell];refine hK _ _ ?_;clear hK hgd;clear K gd;refine rqz ?_;intro gd K hgd hK;try simp only[go_sem]
  refine Fn.mono (zhd v hv h (hvr.ext hEv) hgh.lb hgh.len) ?_;rintro _ v1 ⟨rfl,hE1⟩;try simp only[go_sem]
  apply hK;have hs1:=hE1.size;have hj1:=hJ _ _ _ _ hj (hE1.mono (fun _ _ h=>h.elim));have hK1:KeepB W0.heap.size C W v1:=hKB.trans (hE1.toB (by omega) (fun _ _ h=>h.elim));have hM1:MapAt v1 W.heap.size M:=hM.block (hE1.block _ (by omega) (fun h=>h));have hrow1:=hrow.ext hE1;have hEv1:=hEv.trans hE1;have hlk:=hM1.lk (P:=Tryz.prog) (t:=202) (kt:=9) (et:=4) (z:= .bool false) rfl rfl rfl (zaL h);rw[hMl]at hlk
  -- the next round
  have next:∀{z:World} {σ':Sto} {pre':List Nm} {U':Nat->Prop} {had':List (List UInt8)} {M':List (Lab×Value)},zaZ [] L=pre'++zaZ had' (L.drop (i+1))->J pre' U' z->(∀b,U' b->X.heap.size<=b)->X.heap.size<=z.heap.size->KeepB W0.heap.size C W z->Ext w0 z->MapAt z W.heap.size M'->
    (∀k,M'.lookup k=if had'.contains k then some (.bool true) else .none)->Rows 1 (NmC w0) z (.slice (some xT) L.length cT) L->σ' 11=vi ((i+1:Nat):Int)->σ' 10=vi L.length->σ' 9= .slice (some xT) L.length cT->σ' 0= .func (.yield lp) #[] #[]->σ' 3= .map (some W.heap.size)->
    ∃m',m'<m/\([]:List Deferred)=[]/\∃(i:Nat) (pre:List Nm) (U:Nat->Prop) (had:List (List UInt8)) (M:List (Lab×Value)),i+m'=L.length/\zaZ [] L=pre++zaZ had (L.drop i)/\σ' 11=vi i/\σ' 10=vi L.length/\σ' 9= .slice (some xT) L.length cT/\σ' 0= .func (.yield lp) #[] #[]/\σ' 3= .map (some W.heap.size)/\
     J pre U z/\(∀b,U b->X.heap.size<=b)/\X.heap.size<=z.heap.size/\KeepB W0.heap.size C W z/\Ext w0 z/\MapAt z W.heap.size M/\(∀k,M.lookup k=if had.contains k then some (.bool true) else .none)/\Rows 1 (NmC w0) z (.slice (some xT) L.length cT) L:=
   fun a1 a2 a3 a4 a5 a6 a7 a8 a9 b1 b2 b3 b4 b5=>⟨m - 1,by omega,rfl,i+1,_,_,_,_,by omega,a1,b1,b2,b3,b4,b5,a2,a3,a4,a5,a6,a7,a8,a9⟩
  by_cases hcon:had.contains (zaL h)=true
  ·rw[if_pos hcon]at hlk;have hskip:zaZ had (h::L.drop (i+1))=zaZ had (L.drop (i+1)):=by
    show(if had.contains (zaL h) then _ else _)=_;rw[if_pos hcon]
   rw[hskip]at hpre;refine rqz ?_;intro gd K hgd hK;have hg4:=gk 4 21 hgd rfl;rw[Option.getD_some]at hlk;try simp (disch:=first|omega|assumption|rfl) only[go_sem,h3,↓hg4]
   refine zhz vq0 vq0 hlk ?_;try simp (disch:=first|omega|assumption|rfl) only[go_sem,↓hg4]
   apply hK;refine wcz ?_ ?_
   ·intro h;cases h
   intro _;refine rqz ?_;intro gd K hgd hK;refine sgz h3 ?_;refine zj1 (v:= .bool true) (l:=M) (key:=zaL h) rfl rfl vq0 vq0 vq0 hM1 (by rw[hMl,if_pos hcon]) ?_;intro z hMz hkz hsz;try simp only[go_sem]
   apply hK;refine rqz ?_;intro gd K hgd hK;simp (disch:=first|omega|assumption|rfl) only[go_sem,h11,hi1'];refine hK _ _ ?_;clear hK hgd;clear K gd;repeat refine c_r ?_
   refine next hpre (hJ _ _ _ _ hj1 (hkz.mono (fun b _ h=>by unfold span;omega))) hU (by omega) (hK1.trans (hkz.toB (by omega) (fun b hb h=>by omega))) (Keep.to_ext hEv1 rfl (fun b hb=>by omega) hkz) hMz hMl (hrow1.keep hkz (htb.ext (by omega)) (fun b hb _=>by omega)) vq0 ((vq1 h10)) ((vq1 h9)) ((vq1 hf0)) ((vq1 h3))
  ·rw[if_neg hcon,Option.getD_none]at hlk;have hno:M.lookup (zaL h)= .none:=by rw[hMl,if_neg hcon]
   have hcf:had.contains (zaL h)=false:=by simpa using hcon
   have hgo:zaZ had (h::L.drop (i+1))=h::zaZ (zaL h::had) (L.drop (i+1)):=by
    show(if had.contains (zaL h) then _ else _)=_;rw[if_neg hcon]
   rw[hgo]at hpre;have hsuf:∃suf,zbo t ds=pre++h::suf:=⟨_,by rw[hH,hpre]⟩;refine rqz ?_;intro gd K hgd hK;have hg4:=gk 4 21 hgd rfl;try simp (disch:=first|omega|assumption|rfl) only[go_sem,h3,↓hg4]
   refine zhz vq0 vq0 hlk ?_;try simp (disch:=first|omega|assumption|rfl) only[go_sem,h3,hf0,↓hg4]
   refine Yld.mono (hY pre U h v1 _ hsuf hj1 (by omega) hK1 ⟨hv,rfl,hvr⟩) ?_;rintro u z (⟨rfl,U',hj',hU',hkr⟩| ⟨rfl,hjx⟩)
   ·try simp (disch:=first|omega|assumption|rfl) only[go_sem,↓hg4]
    apply hK;have hzs:=hkr.size;have hCb:∀b,W.heap.size<=b->b<X.heap.size->¬(C b\/U b):=fun b h1 h2 h3=>by
     rcases h3 with h3|h3
     ·have:=hC b h3;omega
     ·have:=hU b h3;omega
    have hMz:MapAt z W.heap.size M:=hM1.block (hkr.block _ (by omega) (.inr (ynl _)) (hCb _ (ynl _) (by omega)));have hrowz:Rows 1 (NmC w0) z (.slice (some xT) L.length cT) L:=hrow1.blocks fun a n c hv=>by
     have h1:=htb a n c hv;exact hkr.block _ (by omega) (.inr (by omega)) (hCb _ (by omega) h1.2)
    have hKz:KeepB W0.heap.size C W z:=hK1.trans ⟨hkr.os,hkr.tape,hkr.output,hkr.size,fun b hb hc=>hkr.block b (by omega) (.inl hb) (fun h=>by
     rcases h with h|h
     ·exact hc h
     ·have:=hU b h;omega),hkr.drawn⟩
    have hEz:Ext w0 z:=zdf (hE0.trans hW) hKz hs0 (fun b hb=>(hC b hb).1);refine wcz ?_ ?_
    ·intro h;cases h
    intro _;refine rqz ?_;intro gd K hgd hK;refine sgz h3 ?_;refine zhy (v:= .bool true) (l:=M) (key:=zaL h) rfl rfl vq0 vq0 vq0 hMz hno ?_;intro z2 hMz2 hkz hsz;try simp only[go_sem]
    apply hK;refine rqz ?_;intro gd K hgd hK;simp (disch:=first|omega|assumption|rfl) only[go_sem,h11,hi1'];refine hK _ _ ?_;clear hK hgd;clear K gd;repeat refine c_r ?_
    refine next (pre':=pre++ [h]) (had':=zaL h::had) (by rw[hpre];simp) (hJ _ _ _ _ hj' (hkz.mono (fun b _ h=>by unfold span;omega))) (fun b hb=>by
     rcases hU' b hb with h|h
     ·exact hU b h
     ·omega) (by omega) (hKz.trans (hkz.toB (by omega) (fun b hb h=>by omega))) (Keep.to_ext hEz rfl (fun b hb=>by omega) hkz) hMz2 (fun k=>?_) (hrowz.keep hkz (htb.ext (by omega)) (fun b hb _=>by omega)) vq0 ((vq1 h10)) ((vq1 h9)) ((vq1 hf0)) ((vq1 h3))
    rw[ziA hno,hMl,List.contains_cons];by_cases hk:(k==zaL h)=true
    ·rw[if_pos hk,hk];rfl
    ·rw[if_neg hk];have:(k==zaL h)=false:=by simpa using hk
     rw[this,Bool.false_or]
   ·try simp (disch:=first|omega|assumption|rfl) only[go_sem,↓hg4]
    apply hK;refine wcz ?_ ?_
    ·intro _;repeat refine c_r ?_
     refine zaC (by simp) rfl (.inr ⟨_,_,hsuf,hjx⟩)
    ·intro h;cases h
 ·intro hge;simp only[ydF]at hge;rw[List.drop_eq_nil_of_le (by omega)]at hpre;have hfin:pre=zbo t ds:=by rw[hH,hpre];simp[zaZ]
  repeat refine c_r ?_
  refine zaC (by simp) rfl (.inl ⟨_,U,rfl,hfin▸hj⟩)
theorem zjn{w:World}{ow tl dv:Value}{t:Int}:
  Fn Tryz.prog 246 #[.agg #[ow,vi t,tl,dv]] w (fun v w'=>v= .func (.func 282) #[] #[.pointer (some ⟨w.heap.size,0,.none⟩)]/\Ext w w'/\w'.heap.size=w.heap.size+1/\w'.heap[w.heap.size]? =some (.cells #[ow,vi t,tl,dv] 340 (0,0))):=by
 refine enter Tryz.func246 Tryz.ntmps246 rfl rfl ?_;repeat refine c_r ?_
 refine rg0 ?_;repeat refine c_r ?_
 refine zax ?_;intro w1 hE1 hs1 hA;refine rg0 ?_;repeat refine c_r ?_
 refine rt0 Tryz.ntmps246 ?_;exact⟨rfl,hE1,hs1,hA⟩
structure ResL where
 kind:Int
 data:List DatL
 name:Nm
 wild:Bool
 glue:List (Nm×List DatL)
def GlC(w0 w:World)(cs:List Value)(x:Nm×List DatL):Prop:=∃hv dv,cs=[hv,dv]/\Row w0 hv (x.1.map vs)/\Rows 5 (DatAt w0) w dv x.2
structure ResAt(w0 w:World)(cs:List Value)(r:ResL):Prop where
 ex:∃dv nv gv,cs=[vi r.kind,dv,nv,.bool r.wild,gv]/\Rows 5 (DatAt w0) w dv r.data/\Row w nv (r.name.map vs)/\Rows 2 (GlC w0 w) w gv r.glue
theorem ResAt.ext{w0 w x:World}{cs:List Value}{r:ResL}(h:ResAt w0 w cs r)(hE:Ext w x):ResAt w0 x cs r:=by
 obtain⟨dv,nv,gv,e,h1,h2,h3⟩:=h.ex;refine⟨dv,nv,gv,e,h1.ext hE,h2.ext hE,(h3.ext hE).to fun cs x hx=>?_⟩;obtain⟨hv,dv,e,g1,g2⟩:=hx;exact⟨hv,dv,e,g1,g2.ext hE⟩
def GlB(w0:World)(B:Nat)(w:World)(cs:List Value)(x:Nm×List DatL):Prop:=∃hv dv,cs=[hv,dv]/\Row w0 hv (x.1.map vs)/\Rows 5 (DatAt w0) w dv x.2/\BlkB B w dv
structure ResB(w0:World)(B:Nat)(w:World)(cs:List Value)(r:ResL):Prop where
 ex:∃dv nv gv,cs=[vi r.kind,dv,nv,.bool r.wild,gv]/\Rows 5 (DatAt w0) w dv r.data/\BlkB B w dv/\((Row w nv (r.name.map vs)/\BlkB B w nv)\/Row w0 nv (r.name.map vs))/\Rows 2 (GlB w0 B w) w gv r.glue/\BlkB B w gv
theorem ResB.keep{w0 w x:World}{B:Nat}{cs:List Value}{r:ResL}(h:ResB w0 B w cs r){S:Nat->Prop}(hk:Keep S w x)(hS:∀b,B<=b->b<w.heap.size->¬S b):ResB w0 B x cs r:=by
 obtain⟨dv,nv,gv,e,h1,h2,h3,h4,h5⟩:=h.ex;refine⟨dv,nv,gv,e,h1.keep hk h2 hS,h2.ext hk.size,?_,(h4.keep hk h5 hS).to fun cs y hy=>?_,h5.ext hk.size⟩
 ·rcases h3 with ⟨h3,h6⟩|h3
  ·exact .inl ⟨h3.blocks fun a n c hv=>hk.block _ (h6 a n c hv).2 (hS _ (h6 a n c hv).1 (h6 a n c hv).2),h6.ext hk.size⟩
  ·exact .inr h3
 ·obtain⟨hv,dv,e,g1,g2,g3⟩:=hy;exact⟨hv,dv,e,g1,g2.keep hk g3 hS,g3.ext hk.size⟩
theorem ResB.at{w0 w:World}{B:Nat}{cs:List Value}{r:ResL}(h:ResB w0 B w cs r)(hE:Ext w0 w):ResAt w0 w cs r:=by
 obtain⟨dv,nv,gv,e,h1,h2,h3,h4,h5⟩:=h.ex;refine⟨dv,nv,gv,e,h1,?_,h4.to fun cs y hy=>?_⟩
 ·rcases h3 with ⟨h3,_⟩|h3
  ·exact h3
  ·exact h3.ext hE
 ·obtain⟨hv,dv,e,g1,g2,_⟩:=hy;exact⟨hv,dv,e,g1,g2⟩
theorem ResB.mono{w0 w:World}{B B':Nat}{cs:List Value}{r:ResL}(h:ResB w0 B w cs r)(hB:B'<=B):ResB w0 B' w cs r:=by
 obtain⟨dv,nv,gv,e,h1,h2,h3,h4,h5⟩:=h.ex;refine⟨dv,nv,gv,e,h1,h2.mono hB,h3.imp (fun h=>⟨h.1,h.2.mono hB⟩) id,h4.to fun cs y hy=>?_,h5.mono hB⟩;obtain⟨hv,dv,e,g1,g2,g3⟩:=hy;exact⟨hv,dv,e,g1,g2,g3.mono hB⟩
theorem ResB.cells{w0 w:World}{B:Nat}{cs:List Value}{r:ResL}(h:ResB w0 B w cs r):cs.length=5/\∀v∈cs,one v=true:=by
 obtain⟨dv,nv,gv,rfl,h1,h2,h3,h4,h5⟩:=h.ex;obtain⟨a1,c1,rfl,_⟩:=h1.open;obtain⟨a2,c2,rfl,_⟩:=h4.open;have hn:one nv=true:=by
  rcases h3 with ⟨⟨a,c,rfl,_⟩,_⟩| ⟨a,c,rfl,_⟩<;>rfl
 refine⟨rfl,fun v hv=>?_⟩;simp at hv;rcases hv with rfl|rfl|rfl|rfl|rfl
 ·rfl
 ·rfl
 ·exact hn
 ·rfl
 ·rfl
def zdJ(R:List RecL):Prop:=∀r∈R,∀n∈r.dat.names,NmG n
theorem zdB{R:List RecL}{n:Nm}{t:Int}{d:DatL}(h:d∈datC R n t):∃r∈R,r.dat=d:=by
 unfold datC at h;obtain⟨x,hx,rfl⟩:=List.mem_map.1 h;have:∀x∈ofC R n t,∃r∈R,r.dat=x.dat:=by
  unfold ofC;exact zbI (Q:=fun x=>∃r∈R,r.dat=x.dat) (fun a b h=>h) (fun x hx=>⟨x,(List.mem_filter.1 hx).1,rfl⟩)
 exact this x hx
theorem zb4{R:List RecL}(hR:zdJ R){n:Nm}{t u:Int}{ds:List DatL}(hds:∀d∈ds,d∈datC R n t):∀x∈zaz u ds,NmG x:=by
 intro x hx;unfold zaz at hx
 split at hx
 ·obtain⟨d,hd,hn⟩:=List.mem_filterMap.1 hx;obtain⟨r,hr,rfl⟩:=zdB (hds d hd);exact hR r hr x (List.mem_of_mem_head? hn)
 ·cases hx
theorem zbg{R:List RecL}{n:Nm}{t:Int}:(datC R n t).length<=R.length:=by
 unfold datC ofC;rw[ylm];exact Nat.le_trans (zci _) (List.length_filter_le _ _)
theorem zg3{R:List RecL}{n:Nm}{t:Int}:ofC R n t≠ []↔datC R n t≠ []:=by
 unfold datC;rw[ne_eq,ne_eq,List.map_eq_nil_iff]
def toN(t:Int)(ds:List DatL):Nm:=(zbo t ds).getLast?.getD []
theorem zjO{w0 w:World}{ov lv nv:Value}{o n:Nm}{R:List RecL}{t:Int}(hz:ZnAt w0 w ov lv o R)(hR:zdJ R)(hn:Row w nv (n.map vs))(hok:NmS n):
  Fn Tryz.prog 248 #[.agg #[ov,lv],nv,vi t] w (fun v w'=>Ext w w'/\∃dv tv,v= .tuple #[dv,tv,.bool (decide (datC R n t≠ []))]/\Rows 5 (DatAt w0) w' dv ((datC R n t).take 1)/\BlkB w.heap.size w' dv/\Row w0 tv ((toN t ((datC R n t).take 1)).map vs)):=by
 obtain⟨ao,co,hov,_⟩:=id hz.org;obtain⟨al,cl,hlv,_⟩:=hz.recs.open;rw[hov,hlv];refine enter Tryz.func248 Tryz.ntmps248 rfl rfl ?_;repeat refine c_r ?_
 refine rg0 ?_;repeat refine c_r ?_
 rw[←hov,←hlv];refine zax ?_;intro w1 hE1 hs1 hA;have p1:zad w1 (some ⟨w.heap.size,1,.none⟩)=some lv:=zab hA rfl;have hz1:=hz.ext hE1;refine rq ?_;intro gd K hgd hK;try simp (disch:=first|omega|assumption|rfl) only[go_sem,p1,yn0]
 refine Fn.mono (Of_ok hz1.e0 hz1.recs (hn.ext hE1) hok.lb (by have:=hok.len;omega) hz.ok hz.rl) ?_;rintro _ w2 ⟨hE2,ow,ty,tl,dv,rfl,how,hty,hdv,hdb⟩;have hdd:(ofC R n t).map RecL.dat=datC R n t:=rfl;rw[hdd]at hdv;obtain⟨bb,hbb⟩:∃bb:Bool,decide (datC R n t≠ [])=bb:=⟨_,rfl⟩;rw[show decide (ofC R n t≠ [])=bb from by rw[←hbb];exact decide_eq_decide.2 (zg3 (R:=R) (n:=n) (t:=t))];try simp only[go_sem]
 have hB3:=zau w2 (.cells #[.slice .none 0 0,vi 0,v32 0,.slice .none 0 0] 340 (0,0));have hE4:=Ext.alloc w2 (.cells #[.slice .none 0 0,vi 0,v32 0,.slice .none 0 0] 340 (0,0));have hs4:=zai w2 (.cells #[.slice .none 0 0,vi 0,v32 0,.slice .none 0 0] 340 (0,0));revert hB3 hE4 hs4;generalize w2.alloc (.cells #[.slice .none 0 0,vi 0,v32 0,.slice .none 0 0] 340 (0,0))=w3;intro hB3 hE4 hs4;obtain⟨ad,cd,hdv',hcd,_⟩:=hdv.open;refine zaD (P:=Tryz.prog) (t:=340) (l:=[ow,vi ty,v32 tl,dv]) hB3 rfl (fun v h=>by
  simp at h;rcases h with rfl|rfl|rfl|rfl
  ·exact how
  ·rfl
  ·rfl
  ·rw[hdv'];rfl) rfl rfl ?_
 intro w4 hs5 hB5 hk5;try simp only[go_sem]
 refine hK _ _ ?_;clear hK hgd;clear K;try clear gd
 have hE5:Ext w2 w4:=Keep.to_ext hE4 rfl (fun b hb=>by omega) hk5;have hE14:=hE2.trans hE5;have hEw4:=hE1.trans hE14;have q3:zad w4 (some ⟨w2.heap.size,3,.none⟩)=some dv:=zcr hB5 rfl;have hdv4:=hdv.ext hE5;have hdb4:BlkB w.heap.size w4 dv:=(hdb.ext hE5.size).mono hE1.size;repeat refine c_r ?_
 refine rg0 ?_;repeat refine c_r ?_
 by_cases hne:datC R n t≠ []
 ·rw[yet hne]at hbb;subst hbb;refine zay (t:=false) vq0 (fun h=>by cases h) ?_;intro _;have hpos:0<(datC R n t).length:=List.length_pos_iff.2 hne;have htk:((datC R n t).take 1).length=1:=by rw[List.length_take];omega
  rw[hdv']at hdv4 hdb4 q3;have hcd':=hdv4.len.2;have hd1:Rows 5 (DatAt w0) w4 (.slice ad 1 cd) ((datC R n t).take 1):=hdv4.take (by omega) (by omega);have h01:(0:Int)<=1:=by omega
  have h11:(1:Int)<=(cd:Int):=by omega
  repeat refine c_r ?_
  refine rg0 ?_;refine zax ?_;intro w5 hE6 hs6 hA6;have q3':=zaa hE6 q3;have t1:Int.toNat 1=1:=rfl;repeat refine c_r ?_
  refine rq ?_;intro gd K hgd hK;try simp (disch:=first|omega|assumption|rfl) only[go_sem,q3',yn0,h01,h11,t1,Nat.sub_zero,Nat.zero_mul,zaj,ite_self]
  refine⟨by kernel_rfl,?_⟩;rw[show bdV Tryz.prog 340 [(1,vi t),(3,.slice ad 1 cd)]=some (.agg #[.slice .none 0 0,vi t,v32 0,.slice ad 1 cd]) from by kernel_rfl];try simp only[go_sem]
  refine Fn.mono zjn ?_;rintro _ w6 ⟨rfl,hE7,hs7,hb7⟩;try simp only[go_sem]
  refine hK _ _ ?_;clear hK hgd;clear K;try clear gd
  have hE47:=hE6.trans hE7;have hEw6:=hEw4.trans hE47;have e1:=hE1.size;have e2:=hE14.size;have e3:=hz.e0.size;have hit:=zlH (C:=fun b=>b=w4.heap.size) (hz.e0.trans hEw6) hb7 rfl rfl (hd1.ext hE47) (fun b hb=>by omega) (by rw[htk];decide) (zb4 hR (t:=t) (n:=n) (fun d hd=>List.mem_of_mem_take hd));have hA7:=hE7.at hA6;repeat refine c_r ?_
  refine zek (g:=282) (cap:=#[.pointer (some ⟨w5.heap.size,0,.none⟩)]) vq0 rfl hit (Keep.refl _ _) (ynl _) (fun b hb=>by omega)
   (fun x U B args h=>by obtain⟨v,h,_⟩:=h;rw[h];rfl)
   (fun pre U B=>(∀b,¬U b)/\Keep (fun b=>b=w4.heap.size) w6 B/\∃tv,B.heap[w4.heap.size]? =some (.cells #[tv] 27 (0,0))/\Row w0 tv ((pre.getLast?.getD []).map vs))
   (fun _ _ _=>False) ?_ (fun _ _ _ _ h _=>h.elim) ?_ ?_ ?_ (fun _ _ _ _ _ _ h _=>h.elim)
  ·rintro pre U A B ⟨hU,hk,tv,h1,h2⟩ _ hk2;have hk3:Keep (fun b=>b=w4.heap.size) w6 B:=⟨hk2.os.trans hk.os,hk2.tape.trans hk.tape,hk2.output.trans hk.output,Nat.le_trans hk.size hk2.size,fun b hb hne=>(hk2.block b (by have:=hk.size;omega) (by unfold span;omega)).trans (hk.block b hb hne),Nat.le_trans hk.drawn hk2.drawn⟩;exact⟨hU,hk3,tv,(hk2.block _ (Array.getElem?_eq_some_iff.1 h1).1 (by unfold span;omega)).trans h1,h2⟩
  ·exact⟨fun b h=>h,Keep.refl _ _,_,hA7,⟨.none,0,rfl,ynl _,fun j h=>absurd h (by simp)⟩⟩
  ·rintro lp pre U x A args ⟨suf,hxs⟩ hszA ⟨hU,hk,tv,h1,h2⟩ _ ⟨xv,rfl,hxr⟩;obtain⟨ax,cx,hxv,_⟩:=id hxr;refine rq ?_;intro gd K hgd hK;try simp only[go_sem]
   refine hK _ _ ?_;clear hK hgd;clear K;try clear gd
   refine zas ?_;refine⟨rfl,Keep.refl _ _,fun Y hY=>?_⟩;have h1Y:=(hY.block _ (Array.getElem?_eq_some_iff.1 h1).1 (by unfold two;omega)).trans h1;have hkY:Keep (fun b=>b=w4.heap.size) w6 Y:=⟨hY.os.trans hk.os,hY.tape.trans hk.tape,hY.output.trans hk.output,Nat.le_trans hk.size hY.size,fun b hb hne=>(hY.block b (by have:=hk.size;omega) (by unfold two;omega)).trans (hk.block b hb hne),Nat.le_trans hk.drawn hY.drawn⟩;repeat refine c_r ?_
   refine rq ?_;intro gd K hgd hK;try simp only[go_sem]
   refine zaU (P:=Tryz.prog) (t:=27) (j:=0) (l:=[tv]) h1Y (by simp) (by rw[hxv];rfl) rfl rfl ?_;intro z hz' hbz hkz;try simp only[go_sem]
   refine hK _ _ ?_;clear hK hgd;clear K;try clear gd
   simp only[List.set_cons_zero]at hbz;repeat refine c_r ?_
   exact⟨U,⟨hU,hkY.trans hkz,xv,hbz,by simpa using hxr⟩,fun b hb=> .inl hb,hkz.mono (fun b _ h=> .inl h)⟩
  ·rintro xs U B rfl hszB _ ⟨hU,hk,tv,h1,h2⟩ hD;have hdB:Rows 5 (DatAt w0) B (.slice ad 1 cd) ((datC R n t).take 1):=(hd1.ext hE47).blocks fun a m c hv=>by
    injection hv with g1
    subst g1;have:=hdb4 a _ _ rfl;exact hk.block _ (by have:=hE47.size;omega) (by omega)
   have hB5':B.heap[w2.heap.size]? =some (.cells [ow,vi ty,v32 tl,dv].toArray 340 (0,0)):=(hk.block _ (by have:=hE5.size;have:=hE47.size;omega) (by omega)).trans (Ext.at hE47 hB5);have q3B:zad B (some ⟨w2.heap.size,3,.none⟩)=some (.slice ad (datC R n t).length cd):=zcr hB5' (by rw[hdv'];rfl);have q4B:zad B (some ⟨w4.heap.size,0,.none⟩)=some tv:=zab h1 rfl;repeat refine c_r ?_
   refine zaJ (fun _=>false) [(0,true),(1,true),(2,true),(4,true),(3,false),(5,true),(6,true),(7,true)] NoS mixed (by kernel_rfl) ?_;intro gd K x hgd hx hxe hK;clear hxe;have r1:=zaa hx q3B;have r2:=zaa hx q4B;simp (disch:=first|omega|assumption|rfl) only[go_sem,r1,r2,yn0,h01,h11,t1,Nat.sub_zero,Nat.zero_mul,zaj,ite_self];refine Fn.mono (P_cd.Clip_ok (by omega)) ?_;rintro _ y0 ⟨rfl,hy0⟩;refine⟨.inr (by rw[hy0];exact Keep.refl _ _),?_⟩;rw[hy0];clear hy0 y0;simp (disch:=first|omega|assumption|rfl) only[go_sem,r1,r2,yn0];refine hK _ _ ?_;clear hK hgd;clear K;try clear gd
   repeat refine c_r ?_
   refine zbz (.inr rfl) Tryz.ntmps248 rfl (Ext.at hx hD) ?_;intro Z hkZ hsZ;have hEwB:Ext w B:=Keep.to_ext hEw6 rfl (fun b hb=>by omega) hk;have hDlt:w6.heap.size<B.heap.size:=(Array.getElem?_eq_some_iff.1 hD).1;have hrx:Rows 5 (DatAt w0) x (.slice ad 1 1) ((datC R n t).take 1):=by
    have h9:=(hdB.ext hx).take (m:=1) (c2:=1) (ynl 1) (ynl 1);rw[List.take_take]at h9;exact h9
   refine⟨_,zam (v:= .slice ad 1 1) vr0 (zam (v:=tv) vr0 (zam (v:= .bool true) vr0 zap)),Keep.to_ext (hEwB.trans hx) rfl (fun b hb=>by have:=hE47.size;omega) hkZ,_,tv,by rw[yet hne];rfl,?_,?_,?_⟩
   ·exact hrx.blocks fun a m c hv=>by
     injection hv with g1
     subst g1;have:=hdb4 a _ _ rfl;exact hkZ.block _ (by have:=hx.size;have:=hk.size;have:=hE47.size;omega) (by have:=hE47.size;omega)
   ·exact(hdb4.same.ext (by have:=hx.size;have:=hk.size;have:=hE47.size;omega))
   ·exact h2
 ·have hnil:datC R n t=[]:=by simpa using hne
  rw[yef hne]at hbb;subst hbb;refine zay (t:=true) vq0 ?_ (fun h=>by cases h);intro _;repeat refine c_r ?_
  refine rg0 ?_;repeat refine c_r ?_
  refine zat (.inr rfl) Tryz.ntmps248 rfl (zam (v:= .slice .none 0 0) vr0 (zam (v:= .slice .none 0 0) vr0 (zam (v:= .bool false) vr0 zap))) ?_;refine⟨hEw4,_,_,by rw[yef hne];rfl,by rw[hnil];exact Rows.nil _ _ _,BlkB.nil,?_⟩;have h0:toN t (List.take 1 (datC R n t))=[]:=by
   rw[hnil];unfold toN zbo zaz
   split<;>rfl
  rw[h0];exact⟨.none,0,rfl,ynl _,fun j h=>absurd h (by simp)⟩
abbrev Key:=Nm×(Int×List DatL)
structure SX where
 key:Key
 ow:Value
 ttl:Int
 dv:Value
def SX.cells(x:SX):List Value:=[x.ow,vi x.key.2.1,v32 x.ttl,x.dv]
def sxC(cs:List Value)(x:SX):Prop:=cs=x.cells/\one x.ow=true/\one x.dv=true
theorem sx_shape:zeD 4 sxC:=by
 refine⟨fun h=>?_,fun h=>?_⟩
 ·rw[h.1];rfl
 ·intro q hq;rw[h.1]at hq;simp[SX.cells]at hq;rcases hq with rfl|rfl|rfl|rfl
  ·exact h.2.1
  ·rfl
  ·rfl
  ·exact h.2.2
def isK(k:Key)(c:RecL):Bool:=decide (zaq k.1=zaq c.owner) && decide (k.2.1=c.dat.ty)
def zcY(G:List Key)(c:RecL):Bool:=match G.getLast? with
 |some k=>isK k c
 | .none=>false
def addK(k:Key)(c:RecL):Key:=(k.1,(k.2.1,k.2.2++ [c.dat]))
def newK(c:RecL):Key:=(c.owner,(c.dat.ty,[c.dat]))
def zcG(G:List Key)(c:RecL):List Key:=match G.getLast? with
 |some k=>if isK k c then G.dropLast++ [addK k c] else G++ [newK c]
 | .none=>[newK c]
def zbu(l:List RecL):List Key:=l.foldl zcG []
structure SI(w0:World)(B:Nat)(A:World)(ov:Value)(G:List SX):Prop where
 own:Owns 4 sxC B A 400 ov G
 row:∀x∈G,Row w0 x.ow (x.key.1.map vs)/\Rows 5 (DatAt w0) A x.dv x.key.2.2/\BlkB B A x.dv/\∀a n c,x.dv= .slice (some a) n c->some a.block≠ov.ownBlock
 nm:∀x∈G,LB x.key.1/\x.key.1.length<=1000000000000000
theorem SI.ext{w0 A A':World}{B:Nat}{ov:Value}{G:List SX}(h:SI w0 B A ov G)(hE:Ext A A'):SI w0 B A' ov G:=
 ⟨h.own.ext hE,fun x hx=>by
  obtain⟨h1,h2,h3,h4⟩:=h.row x hx;exact⟨h1,h2.ext hE,h3.ext hE.size,h4⟩,h.nm⟩
theorem SI.turn{w0 A A':World}{B b cap:Nat}{G:List SX}{x x':SX}{L:List (List Value)}(h:SI w0 B A (.slice (some ⟨b,0,.none⟩) (G.length+1) cap) (G++ [x]))(hk:Keep (fun i=>i=b) A A')(hB:B<=b)(hc:G.length+1<=cap)(hm:cap<=maxLen)
  (hL:SD 4 A' b 400 cap L) (hLl:L.length=G.length+1) (hat:∀i (h:i<L.length) (h':i<(G++ [x']).length),sxC L[i] (G++ [x'])[i])
  (hx:Row w0 x'.ow (x'.key.1.map vs)/\Rows 5 (DatAt w0) A x'.dv x'.key.2.2/\BlkB B A x'.dv/\∀a n c,x'.dv= .slice (some a) n c->a.block≠b) (hnm:LB x'.key.1/\x'.key.1.length<=1000000000000000):SI w0 B A' (.slice (some ⟨b,0,.none⟩) (G.length+1) cap) (G++ [x']):=by
 have hgl:(G++ [x']).length=G.length+1:=by simp
 have hown:Owns 4 sxC B A' 400 (.slice (some ⟨b,0,.none⟩) (G++ [x']).length cap) (G++ [x']):=Owns.of_sd hL hB (by omega) hm (by omega) hat;rw[hgl]at hown;refine⟨hown,fun y hy=>?_,fun y hy=>?_⟩
 rotate_left
 ·rcases List.mem_append.1 hy with hy|hy
  ·exact h.nm y (List.mem_append_left _ hy)
  ·rw[List.mem_singleton.1 hy];exact hnm
 rcases List.mem_append.1 hy with hy|hy
 ·obtain⟨h1,h2,h3,h4⟩:=h.row y (List.mem_append_left _ hy);exact⟨h1,h2.blocks fun a n c hv=>hk.block _ (h3 a n c hv).2 (fun e=>h4 a n c hv (by rw[e];rfl)),h3.ext hk.size,h4⟩
 ·rw[List.mem_singleton.1 hy];obtain⟨h1,h2,h3,h4⟩:=hx;exact⟨h1,h2.blocks fun a n c hv=>hk.block _ (h3 a n c hv).2 (h4 a n c hv),h3.ext hk.size,fun a n c hv e=>h4 a n c hv (by injection e)⟩
theorem SI.app{w0 A A':World}{B:Nat}{ov v':Value}{G:List SX}{s:SX}(h:SI w0 B A ov G)(hs:Row w0 s.ow (s.key.1.map vs)/\Rows 5 (DatAt w0) A s.dv s.key.2.2/\BlkB B A s.dv/\∀a n c,s.dv= .slice (some a) n c->some a.block≠ov.ownBlock)
  (hnm:LB s.key.1/\s.key.1.length<=1000000000000000) (ho:Owns 4 sxC B A' 400 v' (G++ [s])) (hk:Keep (fun b=>some b=ov.ownBlock) A A') (hb:∀b,some b=v'.ownBlock->some b=ov.ownBlock\/A.heap.size<=b):SI w0 B A' v' (G++ [s]):=by
 refine⟨ho,fun y hy=>?_,fun y hy=>?_⟩
 ·have hy2:Row w0 y.ow (y.key.1.map vs)/\Rows 5 (DatAt w0) A y.dv y.key.2.2/\BlkB B A y.dv/\∀a n c,y.dv= .slice (some a) n c->some a.block≠ov.ownBlock:=by
   rcases List.mem_append.1 hy with hy|hy
   ·exact h.row y hy
   ·rw[List.mem_singleton.1 hy];exact hs
  obtain⟨h1,h2,h3,h4⟩:=hy2;refine⟨h1,h2.blocks fun a n c hv=>hk.block _ (h3 a n c hv).2 (h4 a n c hv),h3.ext hk.size,fun a n c hv e=>?_⟩;rcases hb _ e with e|e
  ·exact h4 a n c hv e
  ·have:=(h3 a n c hv).2;omega
 ·rcases List.mem_append.1 hy with hy|hy
  ·exact h.nm y hy
  ·rw[List.mem_singleton.1 hy];exact hnm
theorem SI.mono{w0 A:World}{B B':Nat}{ov:Value}{G:List SX}(h:SI w0 B A ov G)(hB:B'<=B):SI w0 B' A ov G:=
 ⟨h.own.mono hB,fun x hx=>by
  obtain⟨h1,h2,h3,h4⟩:=h.row x hx;exact⟨h1,h2,h3.mono hB,h4⟩,h.nm⟩
theorem zi5{LL:List (List Value)}{G':List SX}{s s':SX}{X:List Value}{j:Nat}(hj:G'.length=j)(hl:LL.length=(G'++ [s]).length)(hat:∀i (h:i<LL.length) (h':i<(G'++ [s]).length),sxC LL[i] (G'++ [s])[i])(hX:sxC X s'):
  ∀i (h:i<(LL.set j X).length) (h':i<(G'++ [s']).length),sxC (LL.set j X)[i] (G'++ [s'])[i]:=by
 have h:=zmh (j:=j) hl hat hX;have e:(G'++ [s]).set j s'=G'++ [s']:=by
  rw[←hj,List.set_append_right _ _ (ynl _),Nat.sub_self];rfl
 intro i h1 h2;have:=h i h1 (by rw[e];exact h2);simp only[e]at this;exact this
theorem zde{y:Addr}{n:Nat}(h:y.block<n):offS (zbE n) (some y):=fun a ha hb=>by
 cases ha;unfold zbE at hb;exact absurd (show n<=y.block from hb) (by omega)
theorem zlW{w x:World}(h:Keep (zbE w.heap.size) w x):Ext w x:=Keep.to_ext (Keep.refl _ _) rfl (fun _ hb=>hb) h
theorem RSets_ok(w0 w:World)(hE0:Ext w0 w){v:Value}{R:List RecL}(hR:Rows 7 (RecAt w0) w v R)(hok:∀r∈R,zbr r)(hlen:R.length<=1000000000):
  Fn Tryz.prog 297 #[v] w (fun u w'=>Ext w w'/\∃G:List SX,G.map SX.key=zbu (zaN R)/\SI w0 w.heap.size w' u G):=by
 have hok':∀r∈zaN R,zbr r:=zbI (fun a b h=>⟨h.lb,h.len,h.dat⟩) hok;have hlen':(zaN R).length<=1000000000:=Nat.le_trans (zci R) hlen;refine enter Tryz.func297 Tryz.ntmps297 rfl rfl ?_;refine gz0 ?_;refine rq ?_;intro gd K hgd hK;try simp only[go_sem]
 refine Fn.mono (zid w0 w hE0 hR hok hlen) ?_;rintro cv w1 ⟨hcv,hE1⟩;try simp only[go_sem]
 apply hK;obtain⟨L,hL⟩:∃L,zaN R=L:=⟨_,rfl⟩;rw[hL]at hok' hlen' hcv ⊢;obtain⟨aC,cC,rfl,hcC,hgC⟩:=hcv.rows.open;have hE01:=hE0.trans hE1;have s1:=hE1.size;refine gz0 ?_;refine zao (fun m σ ds A=>ds=[]/\∃(i:Nat) (ov:Value) (G:List SX),i+m=L.length/\σ 5=vi i/\σ 4= .slice aC L.length cC/\σ 3=ov/\G.map SX.key=zbu (L.take i)/\G.length<=i/\(∀x∈G,x.key.2.2.length<=i)/\SI w0 w1.heap.size A ov G/\Ext w1 A) L.length ?_ ?_
 ·exact⟨rfl,0,.slice .none 0 0,[],by omega,vr0,vq0,vq0,rfl,ynl _,fun x h=>absurd h (by simp),⟨Owns.nil _ _ _ _ _,fun x h=>absurd h (by simp),fun x h=>absurd h (by simp)⟩,Keep.refl _ _⟩
 rintro m σ ds A ⟨rfl,i,ov,G,him,h5,h4,h3,hG,hGi,hGl2,hSI,hEA⟩;have sA:=hEA.size;refine gz (az2 h5 h4) ?_;refine wc0 ?_ ?_
 ·intro hlt;simp only[ydT]at hlt;have hi:i<L.length:=by omega
  have hi0:=cj i;have hi1:(i:Int)<(L.length:Int):=by omega
  have hi1':=ci i;obtain⟨cr,hcr,hRr⟩:=hgC i hi;obtain⟨c,hc⟩:∃c,L[i]=c:=⟨_,rfl⟩;rw[hc]at hRr;have hcok:zbr c:=hc▸hok' _ (List.getElem_mem hi);have hcl:=hcok.len;obtain⟨ow,dsc,hcrE,o1,o2,g0,g1,g2,gd⟩:=hRr.cells;obtain⟨xC,rfl⟩:=yxs (zak hcr);obtain⟨xi,hxi⟩:∃xi,adr (some xC) (i*7)=some xi:=⟨_,rfl⟩;rw[hxi]at hcr;obtain⟨xd,hxd⟩:∃xd,adr (some xi) 2=some xd:=⟨_,rfl⟩;have rc:∀{x},Ext w1 x->zad x (some xi)=some ow/\zad x (adr (some xi) 1)=some (v32 c.ttl)/\zad x (some xd)=some (vi c.dat.ty)/\zan x (some xd) 5=some dsc:=fun {x} hx=>by
   have hcx:=zac hx hcr;have e0:=zah hcx g0;have e2:=zah hcx g2;have e5:=za9 (m:=2) (k:=5) hcx;rw[zaj]at e0;rw[hxd]at e2 e5;rw[gd]at e5;exact⟨e0,zah hcx g1,e2,e5⟩
  have hstep:zbu (L.take (i+1))=zcG (zbu (L.take i)) c:=by
   unfold zbu;rw[zal hi,hc,List.foldl_append];rfl
  obtain⟨av,cv2,hov,hcv2,hgv⟩:=hSI.own.rows.open;have hSI0:=hSI;rw[hov]at h3 hSI;refine gz h3 ?_;refine zaw (Q:=fun e σ' ds' v'=>e= .normal/\ds'=[]/\σ' 6=vi ((G.length:Int) - 1)/\σ' 5=vi i/\σ' 4= .slice (some xC) L.length cC/\σ' 3= .slice av G.length cv2/\Ext A v'/\σ' 46= .bool (zcY (G.map SX.key) c)) ?_ ?_
  ·rcases List.eq_nil_or_concat G with hG0| ⟨G',s,hG0⟩
   ·have hn:¬((0:Int)<=(G.length:Int) - 1):=by rw[hG0];simp
    have hlk:zcY (G.map SX.key) c=false:=by rw[hG0];rfl
    refine zaJ (fun _=>false) [(0,true),(1,true),(2,true),(3,true),(4,true),(5,true),(6,true),(7,true),(8,true),(9,true),(10,true),(11,true),(12,true),(13,false),(14,true),(15,true),(16,true),(17,true),(18,true),(19,true),(20,true),(21,true),(22,true),(23,true),(24,true),(25,true),(26,true),(27,true),(28,true)] NoS mixed (by kernel_rfl) ?_;intro gd K x hgd hx hxe hK;clear hxe;have hg2:=gk 2 20 hgd rfl;have hg15:=gk 15 33 hgd rfl;simp (disch:=first|omega|assumption|rfl) only[go_sem,h5,h4,h3,yef hn,↓hg2,↓hg15];apply hK;exact⟨rfl,rfl,vq0,vq1 h5,vq1 h4,vq1 h3,hx,by rw[hlk];first| (simp only[go_sem];done)| (simp only[go_sem];rfl)⟩
   ·rw[List.concat_eq_append]at hG0;obtain⟨j,hj⟩:∃j,G'.length=j:=⟨_,rfl⟩;have hGl:G.length=j+1:=by rw[hG0];simp[hj]
    have hsm:s∈G:=by rw[hG0];simp
    have hn:decide ((0:Int)<=(j:Int))=true:=yet (by omega);have hs:((j+1:Nat):Int) - 1=(j:Int):=by omega
    have hj0:=cj j;have hj1:(j:Int)<((j+1:Nat):Int):=by omega
    have hlk:zcY (G.map SX.key) c=isK s.key c:=by rw[hG0];unfold zcY;simp
    obtain⟨cj,hcj,hCj⟩:=hgv j (by omega);have hsj:G[j]'(by omega)=s:=by simp only[hG0,←hj];simp
    rw[hsj]at hCj;obtain⟨xv,rfl⟩:=yxs (zak hcj);obtain⟨yi,hyi⟩:∃yi,adr (some xv) (j*4)=some yi:=⟨_,rfl⟩;rw[hyi,hCj.1]at hcj;obtain⟨r1,r2,r3,r4⟩:=hSI.row s hsm;have hnm:=hSI.nm s hsm;have hwA:=hE01.trans hEA;rw[hGl]at h3 ⊢;refine zaJ (fun _=>false) [(0,true),(1,true),(2,true),(3,true),(4,true),(5,true),(6,true),(7,true),(8,true),(9,true),(10,true),(11,true),(12,true),(13,false),(14,true),(15,true),(16,true),(17,true),(18,true),(19,true),(20,true),(21,true),(22,true),(23,true),(24,true),(25,true),(26,true),(27,true),(28,true)] NoS mixed (by kernel_rfl) ?_;intro gd K x hgd hx hxe hK;clear hxe;have hg2:=gk 2 20 hgd rfl;have hg15:=gk 15 33 hgd rfl;obtain⟨c0,c1,c2,c5⟩:=rc (hEA.trans hx);have d0:zad x (some yi)=some s.ow:=by
     have:=zah (zac hx hcj) (j:=0) rfl
     rwa [zaj]at this
    simp (disch:=first|omega|assumption|rfl) only[go_sem,h5,h4,h3,hs,hn,decide_true,hj0,hj1,hi0,hi1,hxi,hyi,d0,c0,zaj,↓hg2,↓hg15];refine Fn.mono (zb2 x _ _ _ _ (r1.ext (hwA.trans hx)) (o1.ext (hwA.trans hx)) hnm.1 hcok.lb (by have:=hnm.2;omega) (by omega)) ?_;rintro _ x2 ⟨rfl,hx2⟩;refine⟨.inr hx2,?_⟩;obtain⟨_,_,c2',_⟩:=rc (hEA.trans (hx.trans hx2));have d1:zad x2 (adr (some yi) 1)=some (vi s.key.2.1):=zah (zac (hx.trans hx2) hcj) (j:=1) rfl;by_cases hsame:zaq s.key.1=zaq c.owner
    ·rw[yet hsame];simp (disch:=first|omega|assumption|rfl) only[go_sem,h5,h4,h3,hj0,hj1,hi0,hi1,hxi,hyi,hxd,d1,c2',zaj,↓hg2,↓hg15];apply hK;refine⟨rfl,rfl,vq1 hs,vq1 h5,vq1 h4,vq1 h3,hx.trans hx2,?_⟩;rw[hlk,show isK s.key c=decide (s.key.2.1=c.dat.ty) from by unfold isK;rw[yet hsame,Bool.true_and]]
     first| (simp only[go_sem];done)| (simp only[go_sem];rfl)
    ·rw[yef hsame];simp (disch:=first|omega|assumption|rfl) only[go_sem,↓hg2,↓hg15];apply hK;refine⟨rfl,rfl,vq1 hs,vq1 h5,vq1 h4,vq1 h3,hx.trans hx2,?_⟩;rw[hlk,show isK s.key c=false from by unfold isK;rw[yef hsame,Bool.false_and]]
     first| (simp only[go_sem];done)| (simp only[go_sem];rfl)
  clear h5 h4 h3;rintro _ σ1 _ A1 ⟨rfl,rfl,h6,h5,h4,h3,hA1,h46⟩;have hSI1:=hSI0.ext hA1;have hEA1:=hEA.trans hA1;have sA1:=hA1.size;repeat refine c_r ?_
  refine zay (t:=zcY (G.map SX.key) c) ((vq1 h46)) ?_ ?_
  ·intro ht;rcases List.eq_nil_or_concat G with hG0| ⟨G',s,hG0⟩
   ·rw[hG0]at ht;cases ht
   rw[List.concat_eq_append]at hG0;obtain⟨j,hj⟩:∃j,G'.length=j:=⟨_,rfl⟩;have hGl:G.length=j+1:=by rw[hG0];simp[hj]
   have hsm:s∈G:=by rw[hG0];simp
   have hs:((j+1:Nat):Int) - 1=(j:Int):=by omega
   have hj0:=cj j;have hj1:(j:Int)<((j+1:Nat):Int):=by omega
   have hstK:zcG (G.map SX.key) c=G'.map SX.key++ [addK s.key c]:=by
    have hlk:zcY (G.map SX.key) c=isK s.key c:=by rw[hG0];unfold zcY;simp
    rw[hlk]at ht;rw[hG0];unfold zcG;simp[ht]
   rcases hSI1.own.cases with ⟨hv0,h0⟩| ⟨b,cap,LL,hvb,hbB,hbc,hbm,hSD,hLLl,hLLat⟩
   ·rw[h0]at hGl;simp at hGl
   rw[hov]at hvb;have hav:av=some ⟨b,0,.none⟩:=by injection hvb
   have hcap:cv2=cap:=by injection hvb
   subst hav hcap;obtain⟨r1,r2,r3,r4⟩:=hSI1.row s hsm;have hnm:=hSI1.nm s hsm;have r4':∀a n c,s.dv= .slice (some a) n c->a.block≠b:=fun a n c hv e=>r4 a n c hv (by rw[hov,e];rfl);have hgj:=hSD.get (j:=j) (by omega);have hCj:=hLLat j (by omega) (by omega);have hsj:G[j]'(by omega)=s:=by simp only[hG0,←hj];simp
   rw[hsj]at hCj;have hLj:LL[j]'(by omega)=s.cells:=hCj.1;rw[hLj]at hgj;have f3:zad A1 (some ⟨b,j*4+3,.none⟩)=some s.dv:=by
    have:=zah hgj (j:=3) rfl
    rwa [za6]at this
   have hSIk:∀y,Keep (zbE A1.heap.size) A1 y->SI w0 w1.heap.size y (.slice (some ⟨b,0,.none⟩) (G'.length+1) cv2) (G'++ [s]):=fun y hy=>by
    have:=hSI1.ext (zlW hy);rw[hov,hG0]at this;simpa using this
   have hLL1:LL.length=(G'++ [s]).length:=hG0▸hLLl;have hLL2:∀i (h:i<LL.length) (h':i<(G'++ [s]).length),sxC LL[i] (G'++ [s])[i]:=by
    subst hG0;exact hLLat
   have hln:=hGl2 s hsm;have hln1:([]:List DatL).length+s.key.2.2.length<=100000000000:=by simp;omega
   have hln2:([]++s.key.2.2).length+ [c.dat].length<=100000000000:=by simp;omega
   have hxb:xd.block<A1.heap.size:=by
    have h1:=zfa hcr (by decide) (a:=xi) rfl;have h2:adr (some xi) 2=some xd:=hxd;simp only[adr,Option.map_some,Option.some.injEq]at h2;rw[←h2,zbq];have:=hEA1.size;omega
   rw[hGl,hs]at h6;rw[hGl]at h3;repeat refine c_r ?_
   refine zaw (Q:=fun e σ' ds' v'=>e= .normal/\ds'=[]/\σ' 6=vi j/\σ' 5=vi i/\σ' 4= .slice (some xC) L.length cC/\σ' 3= .slice (some ⟨b,0,.none⟩) (j+1) cv2/\∃s':SX,s'.key=addK s.key c/\SI w0 w1.heap.size v' (.slice (some ⟨b,0,.none⟩) (j+1) cv2) (G'++ [s'])/\Ext w1 v') ?_ ?_
   ·refine zeT (fun i=>i==18) (.run [(0,true),(1,true),(3,true),(4,true),(5,true),(6,true),(7,true),(9,true),(10,true),(11,true),(12,true),(13,true)] (.fork 6 [2,14] (fun i=>if i=2 then(.run [] (.fork 5 [8,14] (fun i=>if i=8 then(.run [(14,false),(15,false),(16,true),(17,true),(18,false)] .fin) else(.run [(8,false),(15,false),(16,true),(17,true),(18,false)] .fin)))) else(.run [(2,false),(8,false),(15,false),(16,true),(17,true),(18,false)] .fin)))) (zbE A1.heap.size) mixed (by kernel_rfl) ?_;intro gd K x hgd hx hxe hK;have hx0:=zez hxe;clear hxe;obtain⟨c0,c1,c2,c5⟩:=rc (hEA1.trans hx0);have f3x:=zaa hx0 f3;have hxs:=hx.size;have r2x:=r2.ext hx0;refine sgz (az2 (az7 h3 h4 h5 h6 hj0 hj1 hi0) (az6 hi1 f3x hxi hxd c5 yn0)) ?_;refine⟨zcw hSD.lt,zde hxb,?_⟩
--R8BEGIN
    simp only[za5,zbl];refine⟨?_,?_⟩
    ·refine sg0 ?_;refine zeC (k:=5) (C:=DatAt w0) rfl rfl rfl rfl ?_;intro w3 hE3 hs3 ho3;refine⟨.inr hE3.keep,?_⟩;refine sg0 ?_;simp only[za5,zbl];refine⟨?_,?_⟩
     ·refine sg0 ?_;refine zaG (zaP w0) ho3 (r2x.ext hE3) rfl rfl rfl rfl rfl rfl (by decide) vr0 vr0 hln1 (by decide) (by omega) ?_;intro v4 w4 ho4 hE4' hk4 _;refine⟨.inr (hk4.mono fun b _ hb=>by have:=(ho3.ge hb).1;show _<=_;omega),?_⟩;have hs4:=hk4.size;refine sg0 ?_;refine zaR (zaP w0) rfl rfl rfl rfl o2 (by decide) ?_;intro w5 hE5 hs5 ho5;refine⟨.inr hE5.keep,?_⟩;refine sg0 ?_;refine zaG (zaP w0) (ho4.ext hE5) ho5.rows rfl rfl rfl rfl rfl rfl (by decide) vr0 vr0 hln2 (by decide) (by omega) ?_;intro v6 w6 ho6 hE6 hk6 _;refine⟨.inr (hk6.mono fun b _ hb=>by have:=(ho4.ge hb).1;show _<=_;omega),?_⟩;refine sgz (az5 h3 h6 hj0 hj1 yn0) ?_;have hkx:Keep (zbE A1.heap.size) A1 w6:=(((hx.trans hE3.keep).trans (hk4.mono fun b _ hb=>by have:=(ho3.ge hb).1;show _<=_;omega)).trans hE5.keep).trans (hk6.mono fun b _ hb=>by have:=(ho4.ge hb).1;show _<=_;omega);have hbw:w6.heap[b]? =A1.heap[b]?:=hkx.block b hSD.lt (by unfold zbE;have:=hSD.lt;omega);have hSDw:SD 4 w6 b 400 cv2 LL:=by
       obtain⟨⟨cur,RR,q1,q2⟩,q3,q4⟩:=hSD;exact⟨⟨cur,RR,hbw.trans q1,q2⟩,q3,q4⟩
      obtain⟨ad2,cd2,hdv2,_⟩:=ho6.rows.open;refine SD.setAt (P:=Tryz.prog) (t:=252) hSDw (j:=j) (i:=3) (by omega) (by decide) (by rw[hdv2];rfl) rfl rfl ?_;intro v9 hv9 hL9 hk9;refine⟨.inl rfl,?_⟩;refine sg0 ?_;apply hK;have hnew:=SI.turn (x':=⟨addK s.key c,s.ow,s.ttl,v6⟩) (hSIk w6 hkx) hk9 hbB (by omega) hbm hL9 (by rw[List.length_set];omega) (zi5 hj hLL1 hLL2 ⟨by rw[hLj];rfl,hCj.2.1,by rw[hdv2];rfl⟩) ⟨r1,ho6.rows,(ho6.blk).mono (by omega),fun a n c hv e=>by have:=(ho6.blk a n c hv).1;have:=hSD.lt;omega⟩ hnm;rw[hj]at hnew;exact⟨rfl,rfl,vq1 h6,vq1 h5,vq1 h4,vq1 h3,⟨addK s.key c,s.ow,s.ttl,v6⟩,rfl,hnew,Keep.to_ext hEA1 rfl (fun i hi=>by rcases hi with hi|hi<;>first|omega| (unfold zbE at hi;omega)) ((hkx.mono (fun i _ h=> .inl h)).trans (hk9.mono (T:=fun i=>zbE A1.heap.size i\/i=b) (fun i _ h=> .inr h)))⟩
     ·refine sg0 ?_;refine zaR (zaP w0) rfl rfl rfl rfl o2 (by decide) ?_;intro w5 hE5 hs5 ho5;refine⟨.inr hE5.keep,?_⟩;refine sg0 ?_;refine zaG (zaP w0) (ho3.ext hE5) ((r2x.ext hE3).ext hE5) rfl rfl rfl rfl rfl rfl (by decide) vr0 vr0 hln1 (by decide) (by omega) ?_;intro v4 w4 ho4 hE4' hk4 _;have hs4:=hk4.size;refine⟨.inr (hk4.mono fun b _ hb=>by have:=(ho3.ge hb).1;show _<=_;omega),?_⟩;have ho5':=ho5.keep hk4 (fun b hb hb2=>by have:=(ho5.ge hb).1;have:=(ho3.ge hb2).2;omega);refine sg0 ?_;refine zaG (zaP w0) ho4 ho5'.rows rfl rfl rfl rfl rfl rfl (by decide) vr0 vr0 hln2 (by decide) (by omega) ?_;intro v6 w6 ho6 hE6 hk6 _;refine⟨.inr (hk6.mono fun b _ hb=>by have:=(ho4.ge hb).1;show _<=_;omega),?_⟩;refine sgz (az5 h3 h6 hj0 hj1 yn0) ?_;have hkx:Keep (zbE A1.heap.size) A1 w6:=(((hx.trans hE3.keep).trans hE5.keep).trans (hk4.mono fun b _ hb=>by have:=(ho3.ge hb).1;show _<=_;omega)).trans (hk6.mono fun b _ hb=>by have:=(ho4.ge hb).1;show _<=_;omega);have hbw:w6.heap[b]? =A1.heap[b]?:=hkx.block b hSD.lt (by unfold zbE;have:=hSD.lt;omega);have hSDw:SD 4 w6 b 400 cv2 LL:=by
       obtain⟨⟨cur,RR,q1,q2⟩,q3,q4⟩:=hSD;exact⟨⟨cur,RR,hbw.trans q1,q2⟩,q3,q4⟩
      obtain⟨ad2,cd2,hdv2,_⟩:=ho6.rows.open;refine SD.setAt (P:=Tryz.prog) (t:=252) hSDw (j:=j) (i:=3) (by omega) (by decide) (by rw[hdv2];rfl) rfl rfl ?_;intro v9 hv9 hL9 hk9;refine⟨.inl rfl,?_⟩;refine sg0 ?_;apply hK;have hnew:=SI.turn (x':=⟨addK s.key c,s.ow,s.ttl,v6⟩) (hSIk w6 hkx) hk9 hbB (by omega) hbm hL9 (by rw[List.length_set];omega) (zi5 hj hLL1 hLL2 ⟨by rw[hLj];rfl,hCj.2.1,by rw[hdv2];rfl⟩) ⟨r1,ho6.rows,(ho6.blk).mono (by omega),fun a n c hv e=>by have:=(ho6.blk a n c hv).1;have:=hSD.lt;omega⟩ hnm;rw[hj]at hnew;exact⟨rfl,rfl,vq1 h6,vq1 h5,vq1 h4,vq1 h3,⟨addK s.key c,s.ow,s.ttl,v6⟩,rfl,hnew,Keep.to_ext hEA1 rfl (fun i hi=>by rcases hi with hi|hi<;>first|omega| (unfold zbE at hi;omega)) ((hkx.mono (fun i _ h=> .inl h)).trans (hk9.mono (T:=fun i=>zbE A1.heap.size i\/i=b) (fun i _ h=> .inr h)))⟩
    ·refine sg0 ?_;refine zaR (zaP w0) rfl rfl rfl rfl o2 (by decide) ?_;intro w5 hE5 hs5 ho5;refine⟨.inr hE5.keep,?_⟩;refine sg0 ?_;refine zeC (k:=5) (C:=DatAt w0) rfl rfl rfl rfl ?_;intro w3 hE3 hs3 ho3;refine⟨.inr hE3.keep,?_⟩;refine sg0 ?_;refine zaG (zaP w0) ho3 ((r2x.ext hE5).ext hE3) rfl rfl rfl rfl rfl rfl (by decide) vr0 vr0 hln1 (by decide) (by omega) ?_;intro v4 w4 ho4 hE4' hk4 _;refine⟨.inr (hk4.mono fun b _ hb=>by have:=(ho3.ge hb).1;show _<=_;omega),?_⟩;have hs4:=hk4.size;have hE4'':=hE4' _ hE3 (ynl _);refine sg0 ?_;refine zaG (zaP w0) ho4 (ho5.ext hE4'').rows rfl rfl rfl rfl rfl rfl (by decide) vr0 vr0 hln2 (by decide) (by omega) ?_;intro v6 w6 ho6 hE6 hk6 _;refine⟨.inr (hk6.mono fun b _ hb=>by have:=(ho4.ge hb).1;show _<=_;omega),?_⟩;refine sgz (az5 h3 h6 hj0 hj1 yn0) ?_;have hkx:Keep (zbE A1.heap.size) A1 w6:=(((hx.trans hE5.keep).trans hE3.keep).trans (hk4.mono fun b _ hb=>by have:=(ho3.ge hb).1;show _<=_;omega)).trans (hk6.mono fun b _ hb=>by have:=(ho4.ge hb).1;show _<=_;omega);have hbw:w6.heap[b]? =A1.heap[b]?:=hkx.block b hSD.lt (by unfold zbE;have:=hSD.lt;omega);have hSDw:SD 4 w6 b 400 cv2 LL:=by
      obtain⟨⟨cur,RR,q1,q2⟩,q3,q4⟩:=hSD;exact⟨⟨cur,RR,hbw.trans q1,q2⟩,q3,q4⟩
     obtain⟨ad2,cd2,hdv2,_⟩:=ho6.rows.open;refine SD.setAt (P:=Tryz.prog) (t:=252) hSDw (j:=j) (i:=3) (by omega) (by decide) (by rw[hdv2];rfl) rfl rfl ?_;intro v9 hv9 hL9 hk9;refine⟨.inl rfl,?_⟩;refine sg0 ?_;apply hK;have hnew:=SI.turn (x':=⟨addK s.key c,s.ow,s.ttl,v6⟩) (hSIk w6 hkx) hk9 hbB (by omega) hbm hL9 (by rw[List.length_set];omega) (zi5 hj hLL1 hLL2 ⟨by rw[hLj];rfl,hCj.2.1,by rw[hdv2];rfl⟩) ⟨r1,ho6.rows,(ho6.blk).mono (by omega),fun a n c hv e=>by have:=(ho6.blk a n c hv).1;have:=hSD.lt;omega⟩ hnm;rw[hj]at hnew;exact⟨rfl,rfl,vq1 h6,vq1 h5,vq1 h4,vq1 h3,⟨addK s.key c,s.ow,s.ttl,v6⟩,rfl,hnew,Keep.to_ext hEA1 rfl (fun i hi=>by rcases hi with hi|hi<;>first|omega| (unfold zbE at hi;omega)) ((hkx.mono (fun i _ h=> .inl h)).trans (hk9.mono (T:=fun i=>zbE A1.heap.size i\/i=b) (fun i _ h=> .inr h)))⟩
--R8END
   ·clear h6 h5 h4 h3 hgj f3;rintro _ σ2 _ A2 ⟨rfl,rfl,h6,h5,h4,h3,s',hs',hSI2,hEA2⟩;have hfin:∀s2:SX,s2.key=addK s.key c->(G'++ [s2]).map SX.key=zbu (L.take (i+1))/\(G'++ [s2]).length<=i+1/\∀x∈G'++ [s2],x.key.2.2.length<=i+1:=fun s2 h2=>by
     refine⟨?_,by simp;omega,fun x hx=>?_⟩
     ·rw[hstep,←hG,hstK];simp[h2]
     ·rcases List.mem_append.1 hx with hx|hx
      ·have:=hGl2 x (by rw[hG0];exact List.mem_append_left _ hx);omega
      ·rw[List.mem_singleton.1 hx,h2];unfold addK;simp;omega
    have hG2l:(G'++ [s']).length=j+1:=by simp[hj]
    rcases hSI2.own.cases with ⟨hv0,h0⟩| ⟨b2,cap2,LL2,hvb2,_,_,_,hSD2,hLL2l,hLL2at⟩
    ·simp at h0
    obtain⟨rfl,rfl⟩:b2=b/\cap2=cv2:=by
     injection hvb2 with e1 e2 e3
     injection e1 with e1
     injection e1 with e1
     exact⟨e1.symm,e3.symm⟩
    have hC2:=hLL2at j (by omega) (by omega);have hs2j:(G'++ [s'])[j]'(by omega)=s':=by simp only[←hj];simp
    rw[hs2j]at hC2;have hLj2:LL2[j]'(by omega)=s'.cells:=hC2.1;have hgj2:=hSD2.get (j:=j) (by omega);rw[hLj2]at hgj2;have f2:zad A2 (some ⟨b2,j*4+2,.none⟩)=some (v32 s'.ttl):=by
     have:=zah hgj2 (j:=2) rfl
     rwa [za6]at this
    repeat refine c_r ?_
    refine zaw (Q:=fun e σ' ds' v'=>e= .normal/\ds'=[]/\σ' 6=vi j/\σ' 5=vi i/\σ' 4= .slice (some xC) L.length cC/\σ' 3= .slice (some ⟨b2,0,.none⟩) (j+1) cap2/\Ext A2 v'/\σ' 75= .bool (decide (c.ttl<s'.ttl))) ?_ ?_
    ·refine zaJ (fun _=>false) [(0,true),(1,true),(2,true),(3,true),(4,true),(5,true),(6,true),(7,true),(8,true),(9,true),(10,true)] NoS mixed (by kernel_rfl) ?_;intro gd K x hgd hx hxe hK;clear hxe;obtain⟨c0,c1,c2,c5⟩:=rc (hEA2.trans hx);have f2x:=zaa hx f2;refine sgz (az2 (az7 h3 h4 h5 h6 hj0 hj1 hi0) (az5 hi1 hxi c1 f2x yn0)) ?_;apply hK;exact⟨rfl,rfl,vq1 h6,vq1 h5,vq1 h4,vq1 h3,hx,vr0⟩
    clear h6 h5 h4 h3;rintro _ σ3 _ A3 ⟨rfl,rfl,h6,h5,h4,h3,hE3,h75⟩;have hSI3:=hSI2.ext hE3;have hEA3:=hEA2.trans hE3;refine zay (t:=decide (c.ttl<s'.ttl)) ((vq1 h75)) ?_ ?_
    ·intro ht2;refine rqz ?_;intro gd K hgd hK;obtain⟨c0,c1,c2,c5⟩:=rc hEA3;refine sgz (az2 (az7 h3 h4 h5 h6 hj0 hj1 hi0) (az4 hi1 hxi c1 yn0)) ?_;refine SD.setAt (P:=Tryz.prog) (t:=199) (hSD2.ext hE3) (j:=j) (i:=2) (by omega) (by decide) rfl rfl rfl ?_;intro v4 hv4 hL4 hk4;try simp only[go_sem]
     apply hK;obtain⟨q1,q2,q3,q4⟩:=hSI3.row s' (by simp);have hSIw:SI w0 w1.heap.size A3 (.slice (some ⟨b2,0,.none⟩) (G'.length+1) cap2) (G'++ [s']):=by rw[hj];exact hSI3
     have hnew:=SI.turn (x':=⟨s'.key,s'.ow,c.ttl,s'.dv⟩) hSIw hk4 hbB (by omega) hbm hL4 (by rw[List.length_set];omega) (zi5 hj hLL2l hLL2at ⟨by rw[hLj2];rfl,hC2.2.1,hC2.2.2⟩) ⟨q1,q2,q3,fun a n c hv e=>q4 a n c hv (by rw[e];rfl)⟩ (hSI3.nm s' (by simp));rw[hj]at hnew;have hE5:Ext w1 v4:=Keep.to_ext hEA3 rfl (fun i hi=>by omega) hk4;refine gz (az2 h5 hi1') ?_;obtain⟨n1,n2,n3⟩:=hfin ⟨s'.key,s'.ow,c.ttl,s'.dv⟩ hs';exact⟨m - 1,by omega,rfl,i+1,_,_,by omega,vq0,vq1 h4,vq1 h3,n1,n2,n3,hnew,hE5⟩
    ·intro ht2;refine gz (az2 h5 hi1') ?_;obtain⟨n1,n2,n3⟩:=hfin s' hs';exact⟨m - 1,by omega,rfl,i+1,_,_,by omega,vq0,vq1 h4,vq1 h3,n1,n2,n3,hSI3,hEA3⟩
  ·intro ht;have hstK:zcG (G.map SX.key) c=G.map SX.key++ [newK c]:=by
    unfold zcG;unfold zcY at ht
    split at ht
    ·simp[ht]
    ·rename_i hk;rw[List.getLast?_eq_none_iff]at hk;rw[hk];rfl
   repeat refine c_r ?_
   refine zaw (Q:=fun e σ' ds' v'=>e= .normal/\ds'=[]/\σ' 5=vi i/\σ' 4= .slice (some xC) L.length cC/\∃(ov':Value) (s':SX),σ' 3=ov'/\s'.key=newK c/\SI w0 w1.heap.size v' ov' (G++ [s'])/\Ext w1 v') ?_ ?_
   ·refine zaJ (fun _=>false) [(0,true),(1,true),(2,true),(3,true),(4,true),(5,true),(6,true),(7,true),(8,true),(9,true),(10,true),(11,true),(12,true),(13,true),(14,true),(15,true),(16,true),(17,true),(18,true),(19,true),(20,true),(21,true),(22,false),(23,true),(24,false),(25,false),(26,true)] (zbE w1.heap.size) mixed (by kernel_rfl) ?_;intro gd K x hgd hx hxe hK;have hx0:=zez hxe;clear hxe;obtain⟨c0,c1,c2,c5⟩:=rc (hEA1.trans hx0);have hxs:=hx.size;obtain⟨oa,oc,how,_⟩:=id o1;obtain⟨on,hon⟩:∃on,(c.owner.map vs).length=on:=⟨_,rfl⟩;rw[hon]at how;have hone:one ow=true:=by rw[how];rfl
    have hxib:xi.block<w1.heap.size:=zfa hcr (by decide) rfl;have hxdb:xd.block<w1.heap.size:=by
     have h2:adr (some xi) 2=some xd:=hxd;simp only[adr,Option.map_some,Option.some.injEq]at h2;rw[←h2,zbq];exact hxib
    refine sgz (az2 (az7 h3 h4 h5 hi0 hi1 hxi hxd) (az5 c0 c1 c2 c5 zaj)) ?_;refine⟨zde hxib,zde hxdb,zll hxib,zde hxdb,?_⟩;refine zaR (zaP w0) rfl rfl rfl rfl o2 (by decide) ?_;intro w5 hE5 hs5 ho5;refine⟨.inr hE5.keep,?_⟩;refine sg0 ?_;refine⟨by kernel_rfl,?_⟩;rw[how,show bdV Tryz.prog 400 [(0,.slice oa on oc),(1,vi c.dat.ty),(2,v32 c.ttl),(3,.slice (some ⟨x.heap.size,0,.none⟩) 1 1)]=some (.agg #[.slice oa on oc,vi c.dat.ty,v32 c.ttl,.slice (some ⟨x.heap.size,0,.none⟩) 1 1]) from by kernel_rfl];refine sg0 ?_;rw[←how];refine zaR (l:=[ow,vi c.dat.ty,v32 c.ttl,.slice (some ⟨x.heap.size,0,.none⟩) 1 1]) (a:=(⟨newK c,ow,c.ttl,.slice (some ⟨x.heap.size,0,.none⟩) 1 1⟩:SX)) sx_shape rfl rfl rfl rfl ⟨rfl,hone,rfl⟩ (by decide) ?_;intro w6 hE6 hs6 ho6;refine⟨.inr hE6.keep,?_⟩;refine sgz h3 ?_;have hx6:=(hx0.trans hE5).trans hE6;have hx6s:=hx6.size;refine zaG sx_shape (by have:=(hSI1.ext hx6).own;rw[hov]at this;exact this) ho6.rows rfl rfl rfl rfl rfl rfl (by decide) vr0 vr0 (by simp;omega) (by decide) (by omega) ?_;intro v7 w7 ho7 hE7 hk7 hb7;refine⟨.inr (hk7.mono fun b _ hb=>by have:=(hSI1.own.ge (b:=b) (by rw[hov];exact hb)).1;show _<=_;omega),?_⟩;refine sg0 ?_;apply hK;rw[←hov]at hk7 hb7;have hnew:=(hSI1.ext hx6).app (s:=⟨newK c,ow,c.ttl,.slice (some ⟨x.heap.size,0,.none⟩) 1 1⟩) ⟨o1,(ho5.ext hE6).rows,(((ho5.ext hE6).blk).mono (by omega)),fun a n c2 hv e=>by
     have:=((ho5.ext hE6).blk a n c2 hv).1;have:=(hSI1.own.ge e).2;omega⟩ ⟨hcok.lb,Nat.le_trans hcl (by decide)⟩ ho7 hk7 hb7
    exact⟨rfl,rfl,vq1 h5,vq1 h4,v7,_,vr0,rfl,hnew,hE7 _ (hEA1.trans hx6) (ynl _)⟩
   clear h5 h4 h3;rintro _ σ2 _ A2 ⟨rfl,rfl,h5,h4,ov2,s',h3,hs',hSI2,hEA2⟩;refine gz (az2 h5 hi1') ?_;refine⟨m - 1,by omega,rfl,i+1,ov2,G++ [s'],by omega,vq0,vq1 h4,vq1 h3,?_,by simp;omega,fun x hx=>?_,hSI2,hEA2⟩
   ·rw[hstep,←hG,hstK];simp[hs']
   ·rcases List.mem_append.1 hx with hx|hx
    ·have:=hGl2 x hx;omega
    ·rw[List.mem_singleton.1 hx,hs'];unfold newK;simp
 ·intro hge;simp only[ydF]at hge;have hi:i=L.length:=by omega
  rw[hi,List.take_length]at hG;refine gz h3 ?_;refine rt0 Tryz.ntmps297 ?_;exact⟨hE1.trans hEA,G,hG,hSI.mono s1⟩
def clsK(o:Nm)(t:Int)(k:Key):Bool:=decide (k.2.1=t) && decide (zaq k.1=zaq o)
def zdI(G:List Key)(o:Nm)(t:Int):List DatL:=((G.find? (clsK o t)).map (fun k=>k.2.2)).getD []
theorem zl8{k:Key}{c:RecL}(h:isK k c=true)(o:Nm)(t:Int):clsK o t k=isL o t c:=by
 unfold isK at h;simp only[Bool.and_eq_true,ydT]at h;unfold clsK isL;rw[h.1,h.2];rw[Bool.eq_iff_iff];simp only[Bool.and_eq_true,ydT];exact⟨fun h=>⟨h.1.symm,h.2.symm⟩,fun h=>⟨h.1.symm,h.2.symm⟩⟩
theorem cls_two{k:Key}{c:RecL}{o:Nm}{t:Int}(h:clsK o t k=true)(hc:isL o t c=true):isK k c=true:=by
 unfold clsK at h;unfold isL at hc;simp only[Bool.and_eq_true,ydT]at h hc;unfold isK;simp only[Bool.and_eq_true,ydT];exact⟨h.2.trans hc.2,h.1.trans hc.1⟩
def zh2(a b:Key):Prop:=¬(zaq a.1=zaq b.1/\a.2.1=b.2.1)
theorem zkM{G:List Key}{c:RecL}(hG:G.Pairwise zh2)(hnew:zcY G c=false->∀k∈G,isK k c=false)(o:Nm)(t:Int):
  zdI (zcG G c) o t=zdI G o t++(if isL o t c then [c.dat] else []):=by
 rcases List.eq_nil_or_concat G with rfl| ⟨G',k,rfl⟩
 ·show zdI [newK c] o t=_;unfold zdI;have e:clsK o t (newK c)=isL o t c:=zl8 (by unfold isK newK;simp) o t;by_cases h:isL o t c=true
  ·rw[if_pos h];rw[List.find?_cons,e,h];rfl
  ·rw[if_neg h];rw[List.find?_cons,e,Bool.eq_false_iff.2 h];rfl
 rw[List.concat_eq_append]at hG hnew ⊢;have hlk:zcY (G'++ [k]) c=isK k c:=by unfold zcY;simp
 rw[hlk]at hnew;have hst:zcG (G'++ [k]) c=if isK k c then G'++ [addK k c] else G'++ [k]++ [newK c]:=by unfold zcG;simp
 rw[hst];by_cases hk:isK k c=true
 ·rw[if_pos hk];have e1:=zl8 hk o t;have e2:clsK o t (addK k c)=isL o t c:=by rw[←e1];rfl
  unfold zdI;rw[List.find?_append,List.find?_append];cases hf:G'.find? (clsK o t) with
  |some k0=>
   have hno:¬isL o t c=true:=fun hc=>by
    have h0:clsK o t k0=true:=List.find?_some hf;have:=(List.pairwise_append.1 hG).2.2 k0 (List.mem_of_find?_eq_some hf) k (List.mem_singleton.2 rfl);rw[←e1]at hc;unfold clsK at h0 hc;simp only[Bool.and_eq_true,ydT]at h0 hc;exact this ⟨h0.2.trans hc.2.symm,h0.1.trans hc.1.symm⟩
   rw[if_neg hno];simp
  |none=>
   by_cases hc:isL o t c=true
   ·rw[if_pos hc];rw[List.find?_cons,List.find?_cons,e1,e2,hc];simp[addK]
   ·rw[if_neg hc];rw[List.find?_cons,List.find?_cons,e1,e2,Bool.eq_false_iff.2 hc];simp
 ·rw[if_neg hk];have hn:=hnew (by simpa using hk);have e2:clsK o t (newK c)=isL o t c:=zl8 (by unfold isK newK;simp) o t;unfold zdI;rw[List.find?_append];cases hf:(G'++ [k]).find? (clsK o t) with
  |some k0=>
   have hno:¬isL o t c=true:=fun hc=>by
    have h0:clsK o t k0=true:=List.find?_some hf;have h1:=hn k0 (List.mem_of_find?_eq_some hf);rw[cls_two h0 hc]at h1;cases h1
   rw[if_neg hno];simp
  |none=>
   by_cases hc:isL o t c=true
   ·rw[if_pos hc];rw[List.find?_cons,e2,hc];simp[newK]
   ·rw[if_neg hc];rw[List.find?_cons,e2,Bool.eq_false_iff.2 hc];simp
theorem zjS{G:List Key}{c:RecL}(hG:G.Pairwise zh2)(hnew:zcY G c=false->∀k∈G,isK k c=false):(zcG G c).Pairwise zh2:=by
 rcases List.eq_nil_or_concat G with rfl| ⟨G',k,rfl⟩
 ·exact List.pairwise_singleton _ _
 rw[List.concat_eq_append]at hG hnew ⊢;have hlk:zcY (G'++ [k]) c=isK k c:=by unfold zcY;simp
 rw[hlk]at hnew;have hst:zcG (G'++ [k]) c=if isK k c then G'++ [addK k c] else G'++ [k]++ [newK c]:=by unfold zcG;simp
 rw[hst];by_cases hk:isK k c=true
 ·rw[if_pos hk];obtain⟨h1,_,h3⟩:=List.pairwise_append.1 hG;refine List.pairwise_append.2 ⟨h1,List.pairwise_singleton _ _,fun a ha b hb=>?_⟩;rw[List.mem_singleton.1 hb];exact h3 a ha k (List.mem_singleton.2 rfl)
 ·rw[if_neg hk];have hn:=hnew (by simpa using hk);refine List.pairwise_append.2 ⟨hG,List.pairwise_singleton _ _,fun a ha b hb=>?_⟩;rw[List.mem_singleton.1 hb];rintro⟨e1,e2⟩;have:=hn a ha;unfold isK at this;rw[show zaq a.1=zaq c.owner from e1,show a.2.1=c.dat.ty from e2]at this;simp at this
theorem between{x y c:RecL}(h1:zaB x y<0)(h2:zaB y c<0)(ho:zaq x.owner=zaq c.owner)(ht:x.dat.ty=c.dat.ty):zaq y.owner=zaq c.owner/\y.dat.ty=c.dat.ty:=by
 have e:zce y.owner c.owner= - zce x.owner y.owner:=by unfold zce;rw[ho,←zjB]
 have e2:cmpI y.dat.ty c.dat.ty= - cmpI x.dat.ty y.dat.ty:=by rw[ht];unfold cmpI;(repeat' split)<;>omega
 simp only[zaB,orI]at h1 h2;by_cases h0:zce x.owner y.owner=0
 ·have h0':zce y.owner c.owner=0:=by omega
  rw[if_pos h0]at h1;rw[if_pos h0']at h2;have hf:zaq y.owner=zaq c.owner:=zhU h0';by_cases hi:cmpI x.dat.ty y.dat.ty=0
  ·have hi':cmpI y.dat.ty c.dat.ty=0:=by omega
   exact⟨hf,zbw.1 hi'⟩
  ·rw[if_neg hi]at h1;rw[if_neg (by omega)]at h2;omega
 ·rw[if_neg h0]at h1;rw[if_neg (by omega)]at h2;omega
theorem zi8{α:Type}{P:List α->Prop}(h0:P [])(h1:∀l c,P l->P (l++ [c]))(l:List α):P l:=by
 have:∀l:List α,P l.reverse:=fun l=>by
  induction l with
  |nil=>exact h0
  |cons a l ih=>rw[List.reverse_cons];exact h1 _ _ ih
 have h:=this l.reverse
 rwa [List.reverse_reverse]at h
theorem zgT(c:RecL):isK (newK c) c=true:=by unfold isK newK;simp
theorem zgf(l:List RecL)(c:RecL):zbu (l++ [c])=zcG (zbu l) c:=by
 unfold zbu;rw[List.foldl_append];rfl
theorem sets_inv(l:List RecL):zdX l->(zbu l).Pairwise zh2/\(∀k∈zbu l,∃r∈l,isK k r=true)/\(∀y,l.getLast? =some y->zcY (zbu l) y=true)/\∀o t,zdI (zbu l) o t=(l.filter (isL o t)).map RecL.dat:=by
 refine zi8 (P:=fun l=>zdX l->(zbu l).Pairwise zh2/\(∀k∈zbu l,∃r∈l,isK k r=true)/\(∀y,l.getLast? =some y->zcY (zbu l) y=true)/\∀o t,zdI (zbu l) o t=(l.filter (isL o t)).map RecL.dat) ?_ ?_ l
 ·intro _;exact⟨List.Pairwise.nil,fun k h=>absurd h (by unfold zbu;simp),fun y h=>(by cases h),fun o t=>rfl⟩
 intro l c ih hs;obtain⟨s1,_,s3⟩:=List.pairwise_append.1 hs;obtain⟨i1,i2,i3,i4⟩:=ih s1;have hnew:zcY (zbu l) c=false->∀k∈zbu l,isK k c=false:=by
  intro hl k hk;rw[←Bool.not_eq_true];intro hkc;obtain⟨r,hr,hkr⟩:=i2 k hk;rcases List.eq_nil_or_concat l with rfl| ⟨l',y,rfl⟩
  ·cases hr
  rw[List.concat_eq_append]at*;have hy:=i3 y (by simp);unfold zcY at hl hy;cases hg:(zbu (l'++ [y])).getLast? with
  |none=>rw[hg]at hy;cases hy
  |some k2=>
   rw[hg]at hl hy;have hl:isK k2 c=false:=hl;have hy:isK k2 y=true:=hy;have hyc:zaq y.owner=zaq c.owner/\y.dat.ty=c.dat.ty:=by
    unfold isK at hkc hkr;simp only[Bool.and_eq_true,ydT]at hkc hkr;have a1:zaq r.owner=zaq c.owner:=hkr.1.symm.trans hkc.1;have a2:r.dat.ty=c.dat.ty:=hkr.2.symm.trans hkc.2;rcases List.mem_append.1 hr with hr|hr
    ·exact between ((List.pairwise_append.1 s1).2.2 r hr y (List.mem_singleton.2 rfl)) (s3 y (by simp) c (List.mem_singleton.2 rfl)) a1 a2
    ·rw[List.mem_singleton.1 hr]at a1 a2;exact⟨a1,a2⟩
   unfold isK at hl hy;rw[hyc.1,hyc.2]at hy;rw[hy]at hl;cases hl
 rw[zgf];refine⟨zjS i1 hnew,?_,?_,fun o t=>?_⟩
 ·intro k hk;rcases List.eq_nil_or_concat (zbu l) with h0| ⟨G',k2,h0⟩
  ·rw[h0]at hk;rw[List.mem_singleton.1 hk];exact⟨c,by simp,zgT c⟩
  rw[List.concat_eq_append]at h0;have hst:zcG (G'++ [k2]) c=if isK k2 c then G'++ [addK k2 c] else G'++ [k2]++ [newK c]:=by unfold zcG;simp
  rw[h0,hst]at hk
  split at hk
  ·rename_i h;rcases List.mem_append.1 hk with hk|hk
   ·obtain⟨r,hr,h1⟩:=i2 k (by rw[h0];exact List.mem_append_left _ hk);exact⟨r,List.mem_append_left _ hr,h1⟩
   ·rw[List.mem_singleton.1 hk];exact⟨c,by simp,h⟩
  ·rcases List.mem_append.1 hk with hk|hk
   ·obtain⟨r,hr,h1⟩:=i2 k (by rw[h0];exact hk);exact⟨r,List.mem_append_left _ hr,h1⟩
   ·rw[List.mem_singleton.1 hk];exact⟨c,by simp,zgT c⟩
 ·intro y hy;rw[List.getLast?_concat]at hy;cases hy;rcases List.eq_nil_or_concat (zbu l) with h0| ⟨G',k2,h0⟩
  ·rw[h0];exact zgT c
  rw[List.concat_eq_append]at h0;have hst:zcG (G'++ [k2]) c=if isK k2 c then G'++ [addK k2 c] else G'++ [k2]++ [newK c]:=by unfold zcG;simp
  rw[h0,hst];unfold zcY
  split
  ·rename_i k3 h3
   split at h3
   ·rename_i h;simp at h3;rw[←h3];exact h
   ·simp at h3;rw[←h3];exact zgT c
  ·rename_i h3
   split at h3<;>simp at h3
 ·rw[zkM i1 hnew,i4,List.filter_append,List.map_append]
  congr 1
  by_cases h:isL o t c=true
  ·rw[if_pos h];simp[h]
  ·rw[if_neg h];simp[h]
theorem zkS{R:List RecL}(h:zdX R)(o:Nm)(t:Int):zdI (zbu (zaN R)) o t=datC R o t:=by
 rw[zhZ h,(sets_inv R h).2.2.2 o t];unfold datC;rw[zeu h]
theorem dataK_at{G:List Key}{o:Nm}{t:Int}{i:Nat}(hi:i<G.length)(hlow:∀j (h:j<G.length),j<i->clsK o t G[j]=false)(h:clsK o t G[i]=true):zdI G o t=G[i].2.2:=by
 have h1:G.find? (clsK o t)=some G[i]:=by
  rw[List.find?_eq_some_iff_append];refine⟨h,G.take i,G.drop (i+1),by simp,fun a ha=>?_⟩;obtain⟨j,hj,rfl⟩:=List.getElem_of_mem ha;rw[List.getElem_take];simp at hj;rw[hlow j (by omega) (by omega)];rfl
 unfold zdI;rw[h1];rfl
theorem zkh{G:List Key}{o:Nm}{t:Int}(hlow:∀j (h:j<G.length),clsK o t G[j]=false):zdI G o t=[]:=by
 have h1:G.find? (clsK o t)= .none:=by
  rw[List.find?_eq_none];intro a ha;obtain⟨j,hj,rfl⟩:=List.getElem_of_mem ha;rw[hlow j hj];exact Bool.false_ne_true
 unfold zdI;rw[h1];rfl
theorem zkN(G:List Key)(c:RecL):(zcG G c).length<=G.length+1:=by
 rcases List.eq_nil_or_concat G with rfl| ⟨G',k,rfl⟩
 ·exact ynl _
 rw[List.concat_eq_append];have hst:zcG (G'++ [k]) c=if isK k c then G'++ [addK k c] else G'++ [k]++ [newK c]:=by unfold zcG;simp
 rw[hst]
 split<;>simp
theorem zkT(l:List RecL):(zbu l).length<=l.length:=by
 refine zi8 (P:=fun l=>(zbu l).length<=l.length) (ynl _) (fun l c ih=>?_) l;rw[zgf];have:=zkN (zbu l) c;simp;omega
theorem ROf_ok(w0 w:World)(hE0:Ext w0 w){v nv:Value}{R:List RecL}{n:Nm}{t:Int}(hR:Rows 7 (RecAt w0) w v R)(hn:Row w nv (n.map vs))(hln:LB n)(hnl:n.length<=1000000000000000)(hok:∀r∈R,zbr r)(hlen:R.length<=1000000000):
  Fn Tryz.prog 275 #[v,nv,vi t] w (fun u w'=>Ext w w'/\∃ow ty tl dv ok,u= .tuple #[.agg #[ow,vi ty,v32 tl,dv],.bool ok]/\one ow=true/\Rows 5 (DatAt w0) w' dv (zdI (zbu (zaN R)) n t)/\BlkB w.heap.size w' dv):=by
 refine enter Tryz.func275 Tryz.ntmps275 rfl rfl ?_;refine gz0 ?_;refine zax ?_;intro w1 hE1 hs1 hA;refine rq ?_;intro gd K hgd hK;try simp only[go_sem]
 refine Fn.mono (RSets_ok w0 w1 (hE0.trans hE1) (hR.ext hE1) hok hlen) ?_;rintro sv w2 ⟨hE2,G,hGk,hSI⟩;try simp only[go_sem]
 apply hK;have hE12:=hE1.trans hE2;have hG1:∀i (h:i<G.length) (h':i<(zbu (zaN R)).length),(zbu (zaN R))[i]=G[i].key:=fun i h h'=>by
  have:(G.map SX.key)[i]'(by simpa using h)=(zbu (zaN R))[i]:=by simp only[hGk]
  rw[←this];simp
 have hGl:(zbu (zaN R)).length=G.length:=by rw[←hGk];simp
 have hGb:G.length<=1000000000:=by
  have h1:=zkT (zaN R);have h2:=zci R;omega
 obtain⟨aG,cG,rfl,hcG,hgG⟩:=hSI.own.rows.open;refine gz0 ?_;refine zao (fun m σ ds A=>ds=[]/\∃(i:Nat),i+m=G.length/\σ 9=vi i/\σ 8= .slice aG G.length cG/\σ 1=nv/\σ 2=vi t/\σ 6= .pointer (some ⟨w.heap.size,0,.none⟩)/\Ext w2 A/\∀j (h:j<G.length),j<i->clsK n t G[j].key=false) G.length ?_ ?_
 ·exact⟨rfl,0,by omega,vr0,vq0,vq0,vq0,vq0,Keep.refl _ _,fun j h hj=>absurd hj (by omega)⟩
 rintro m σ ds A ⟨rfl,i,him,h9,h8,h1,h2,h6,hEA,hlow⟩;refine gz (az2 h9 h8) ?_;refine wc0 ?_ ?_
 ·intro hlt;simp only[ydT]at hlt;have hi:i<G.length:=by omega
  have hi0:=cj i;have hi1:(i:Int)<(G.length:Int):=by omega
  have hi1':=ci i;obtain⟨cr,hcr,hRr⟩:=hgG i hi;obtain⟨s,hs⟩:∃s,G[i]=s:=⟨_,rfl⟩;have hsm:s∈G:=hs▸List.getElem_mem hi;rw[hs]at hRr;rw[hRr.1]at hcr;obtain⟨r1,r2,r3,r4⟩:=hSI.row s hsm;obtain⟨n1,n2⟩:=hSI.nm s hsm;obtain⟨xG,rfl⟩:=yxs (zak hcr);obtain⟨xi,hxi⟩:∃xi,adr (some xG) (i*4)=some xi:=⟨_,rfl⟩;rw[hxi]at hcr;have rc:∀{x},Ext w2 x->zan x (some xi) 4=some s.cells/\zad x (some xi)=some s.ow/\zad x (adr (some xi) 1)=some (vi s.key.2.1):=fun {x} hx=>by
   have hcx:=zac hx hcr;have e0:=zah hcx (j:=0) rfl;rw[zaj]at e0;exact⟨hcx,e0,zah hcx (j:=1) rfl⟩
  obtain⟨c4,c0,c1⟩:=rc hEA;have hwA:=hE0.trans (hE12.trans hEA);repeat refine c_r ?_
  refine zaw (Q:=fun e σ' ds' v'=>e= .normal/\ds'=[]/\σ' 9=vi i/\σ' 8= .slice (some xG) G.length cG/\σ' 1=nv/\σ' 2=vi t/\σ' 6= .pointer (some ⟨w.heap.size,0,.none⟩)/\Ext A v'/\σ' 33= .bool (clsK n t s.key)) ?_ ?_
  ·by_cases hty:s.key.2.1=t
   ·refine rq ?_;intro gd K hgd hK;have hg7:=gk 7 25 hgd rfl;try simp (disch:=first|omega|assumption|rfl) only[go_sem,h9,h8,h1,h2,hi0,hi1,hxi,c0,c1,zaj,yet hty,↓hg7]
    refine Fn.mono (zb2 A _ _ _ _ (r1.ext hwA) (hn.ext (hE12.trans hEA)) n1 hln (by omega) (by omega)) ?_;rintro _ x2 ⟨rfl,hx2⟩;try simp only[go_sem]
    apply hK;refine⟨rfl,rfl,vq1 h9,vq1 h8,vq1 h1,vq1 h2,vq1 h6,hx2,?_⟩;unfold clsK;rw[yet hty,Bool.true_and]
    first| (simp only[go_sem];done)| (simp only[go_sem];rfl)
   ·refine rq ?_;intro gd K hgd hK;have hg7:=gk 7 25 hgd rfl;try simp (disch:=first|omega|assumption|rfl) only[go_sem,h9,h8,h1,h2,hi0,hi1,hxi,c0,c1,zaj,yef hty,↓hg7]
    apply hK;refine⟨rfl,rfl,vq1 h9,vq1 h8,vq1 h1,vq1 h2,vq1 h6,Keep.refl _ _,?_⟩;unfold clsK;rw[yef hty,Bool.false_and]
    first| (simp only[go_sem];done)| (simp only[go_sem];rfl)
  clear h9 h8 h1 h2 h6 c4 c0 c1;rintro _ σ1 _ A1 ⟨rfl,rfl,h9,h8,h1,h2,h6,hA1,h33⟩;have hEA1:=hEA.trans hA1;repeat refine c_r ?_
  refine zay (t:=clsK n t s.key) ((vq1 h33)) ?_ ?_
  ·intro ht;obtain⟨c4,c0,c1⟩:=rc hEA1;refine rqz ?_;intro gd K hgd hK;refine sgz (az7 h9 h8 h6 hi0 hi1 hxi c4) ?_;have hB:=Ext.at ((hE2.trans hEA1)) hA;obtain⟨_,_,hsv,_⟩:=r2.open;refine zaD (P:=Tryz.prog) (t:=400) (l:=s.cells) hB rfl (fun v h=>sx_shape.ones hRr v (by rw[hRr.1];exact h)) rfl rfl ?_;intro w4 hs5 hB5 hk5;try simp only[go_sem]
   refine en hK ?_;refine zat (.inr rfl) Tryz.ntmps275 rfl (zaI ((vq1 h6)) rfl rfl (zae hB5 rfl) (zam vr0 zap)) ?_;have hkey:zdI (zbu (zaN R)) n t=s.key.2.2:=by
    have h1:=dataK_at (G:=zbu (zaN R)) (o:=n) (t:=t) (i:=i) (by omega) (fun j hj hji=>by rw[hG1 j (by omega) hj];exact hlow j (by omega) hji) (by rw[hG1 i hi (by omega),hs];exact ht);rw[h1,hG1 i hi (by omega),hs]
   have e1:=hE1.size;refine⟨Keep.to_ext (hE12.trans hEA1) rfl (fun b hb=>by omega) hk5,s.ow,s.key.2.1,s.ttl,s.dv,true,rfl,hRr.2.1,?_,fun a n c hv=>?_⟩
   ·rw[hkey];exact(r2.ext hEA1).blocks fun a n c hv=>hk5.block _ (((r3.ext hEA1.size) a n c hv).2) (by have:=(r3 a n c hv).1;omega)
   ·have:=(r3.ext hEA1.size) a n c hv;omega
  ·intro ht;refine gz (az2 h9 hi1') ?_;refine⟨m - 1,by omega,rfl,i+1,by omega,vq0,vq1 h8,vq1 h1,vq1 h2,vq1 h6,hEA1,fun j hj hji=>?_⟩;by_cases hj2:j=i
   ·subst hj2;rw[hs];exact ht
   ·exact hlow j hj (by omega)
 ·intro hge;simp only[ydF]at hge;have hi:i=G.length:=by omega
  refine rqz ?_;intro gd K hgd hK;refine sgz h6 ?_;refine⟨by kernel_rfl,?_⟩;rw[show bdV Tryz.prog 400 []=some (.agg #[.slice .none 0 0,vi 0,v32 0,.slice .none 0 0]) from by kernel_rfl];refine sgz h6 ?_;have hB:=Ext.at (hE2.trans hEA) hA;refine zaD (P:=Tryz.prog) (t:=400) (l:=[.slice .none 0 0,vi 0,v32 0,.slice .none 0 0]) hB rfl (fun v h=>by simp at h;rcases h with rfl|rfl|rfl|rfl<;>rfl) rfl rfl ?_;intro w4 hs5 hB5 hk5;try simp only[go_sem]
  refine en hK ?_;refine zat (.inr rfl) Tryz.ntmps275 rfl (zaI ((vq1 h6)) rfl rfl (zae hB5 rfl) (zam vr0 zap)) ?_;have hkey:zdI (zbu (zaN R)) n t=[]:=zkh (fun j hj=>by rw[hG1 j (by omega) hj];exact hlow j (by omega) (by omega));refine⟨Keep.to_ext (hE12.trans hEA) rfl (fun b hb=>by omega) hk5,.slice .none 0 0,0,0,.slice .none 0 0,false,rfl,rfl,?_,BlkB.nil⟩;rw[hkey];exact Rows.nil _ _ _
theorem zca{w0 w:World}{ov lv nv:Value}{o n:Nm}{R:List RecL}{t:Int}(hz:ZnAt w0 w ov lv o R)(hs:zdX R)(hn:Row w nv (n.map vs))(hln:LB n)(hnl:n.length<=1000000000000000):
  Fn Tryz.prog 230 #[.agg #[ov,lv],nv,vi t] w (fun v w'=>Ext w w'/\Rows 5 (DatAt w0) w' v (datC R n t)/\BlkB w.heap.size w' v):=by
 obtain⟨ao,co,hov,_⟩:=id hz.org;obtain⟨al,cl,hlv,_⟩:=hz.recs.open;rw[hov,hlv];refine enter Tryz.func230 Tryz.ntmps230 rfl rfl ?_;refine gz0 ?_;rw[←hov,←hlv];refine zax ?_;intro w1 hE1 hs1 hA;have p1:zad w1 (some ⟨w.heap.size,1,.none⟩)=some lv:=zab hA rfl;have hz1:=hz.ext hE1;refine rq ?_;intro gd K hgd hK;refine sgz (az2 p1 yn0) ?_;refine Fn.mono (ROf_ok w0 w1 hz1.e0 hz1.recs (hn.ext hE1) hln hnl hz.ok hz.rl) ?_;rintro _ w2 ⟨hE2,ow,ty,tl,dv,ok,rfl,how,hdv,hdb⟩;rw[zkS hs]at hdv;try simp only[go_sem]
 have hB3:=zau w2 (.cells #[.slice .none 0 0,vi 0,v32 0,.slice .none 0 0] 400 (0,0));have hE4:=Ext.alloc w2 (.cells #[.slice .none 0 0,vi 0,v32 0,.slice .none 0 0] 400 (0,0));have hs4:=zai w2 (.cells #[.slice .none 0 0,vi 0,v32 0,.slice .none 0 0] 400 (0,0));revert hB3 hE4 hs4;generalize w2.alloc (.cells #[.slice .none 0 0,vi 0,v32 0,.slice .none 0 0] 400 (0,0))=w3;intro hB3 hE4 hs4;obtain⟨ad,cd,hdv',hcd,_⟩:=hdv.open;refine zaD (P:=Tryz.prog) (t:=400) (l:=[ow,vi ty,v32 tl,dv]) hB3 rfl (fun v h=>by
  simp at h;rcases h with rfl|rfl|rfl|rfl
  ·exact how
  ·rfl
  ·rfl
  ·rw[hdv'];rfl) rfl rfl ?_
 intro w4 hs5 hB5 hk5;try simp only[go_sem]
 apply hK;have hE5:Ext w2 w4:=Keep.to_ext hE4 rfl (fun b hb=>by omega) hk5;have q3:zad w4 (some ⟨w2.heap.size,3,.none⟩)=some dv:=zcr hB5 rfl;refine gz (az2 q3 yn0) ?_;refine rt0 Tryz.ntmps230 ?_;exact⟨(hE1.trans hE2).trans hE5,hdv.ext hE5,(hdb.ext hE5.size).mono hE1.size⟩
theorem zmu{w0 w:World}{ov lv nv:Value}{o n:Nm}{R:List RecL}{t:Int}(hz:ZnAt w0 w ov lv o R)(hn:Row w nv (n.map vs))(hln:LB n)(hnl:n.length<=1000000000000000):
  Fn Tryz.prog 229 #[.agg #[ov,lv],nv,vi t] w (fun v w'=>v= .bool (hasL R n t)/\Ext w w'):=by
 obtain⟨ao,co,hov,_⟩:=id hz.org;obtain⟨al,cl,hlv,hcl,hgl⟩:=hz.recs.open;rw[hov,hlv];refine enter Tryz.func229 Tryz.ntmps229 rfl rfl ?_;refine gz0 ?_;rw[←hov,←hlv];refine zax ?_;intro w1 hE1 hs1 hA;have p1:zad w1 (some ⟨w.heap.size,1,.none⟩)=some lv:=zab hA rfl;rw[hlv]at p1;have hRlen:=hz.rl;refine gz0 ?_;refine zao (fun m σ ds A=>ds=[]/\∃(i:Nat),i+m=R.length/\σ 7=vi i/\σ 1=nv/\σ 2=vi t/\σ 3= .pointer (some ⟨w.heap.size,0,.none⟩)/\Ext w1 A/\∀j (h:j<R.length),j<i->isL n t R[j]=false) R.length ?_ ?_
 ·exact⟨rfl,0,by omega,vr0,vq0,vq0,vq0,Keep.refl _ _,fun j h hj=>absurd hj (by omega)⟩
 rintro m σ ds A ⟨rfl,i,him,h7,h1,h2,h3,hEA,hlow⟩;have p1A:=zaa hEA p1;refine gz (az4 h7 h3 p1A yn0) ?_;refine wc0 ?_ ?_
 ·intro hlt;simp only[ydT]at hlt;have hi:i<R.length:=by omega
  have hi0:=cj i;have hi1:(i:Int)<(R.length:Int):=by omega
  have hi1':=ci i;obtain⟨cr,hcr,hRr⟩:=hgl i hi;obtain⟨r,hr⟩:∃r,R[i]=r:=⟨_,rfl⟩;rw[hr]at hRr;have hrok:zbr r:=hr▸hz.ok _ (List.getElem_mem hi);have hrl:=hrok.len;obtain⟨ow,dsc,hcrE,o1,o2,g0,g1,g2,gd⟩:=hRr.cells;obtain⟨xR,rfl⟩:=yxs (zak hcr);obtain⟨xi,hxi⟩:∃xi,adr (some xR) (i*7)=some xi:=⟨_,rfl⟩;rw[hxi]at hcr;obtain⟨xd,hxd⟩:∃xd,adr (some xi) 2=some xd:=⟨_,rfl⟩;have hwA:=hE1.trans hEA;have hcx:=zac hwA hcr;have e0:=zah hcx g0;have e2:=zah hcx g2;rw[zaj]at e0;rw[hxd]at e2;repeat refine c_r ?_
  refine zaw (Q:=fun e σ' ds' v'=>e= .normal/\ds'=[]/\σ' 7=vi i/\σ' 1=nv/\σ' 2=vi t/\σ' 3= .pointer (some ⟨w.heap.size,0,.none⟩)/\Ext A v'/\σ' 33= .bool (isL n t r)) ?_ ?_
  ·by_cases hty:r.dat.ty=t
   ·refine rq ?_;intro gd K hgd hK;have hg9:=gk 9 24 hgd rfl;try simp (disch:=first|omega|assumption|rfl) only[go_sem,h7,h1,h2,h3,p1A,yn0,hi0,hi1,hxi,hxd,e0,e2,zaj,yet hty,↓hg9]
    refine Fn.mono (zb2 A _ _ _ _ (o1.ext (hz.e0.trans hwA)) (hn.ext hwA) hrok.lb hln (by omega) (by omega)) ?_;rintro _ x2 ⟨rfl,hx2⟩;try simp only[go_sem]
    apply hK;refine⟨rfl,rfl,vq1 h7,vq1 h1,vq1 h2,vq1 h3,hx2,?_⟩;rw[show isL n t r=decide (zaq r.owner=zaq n) from by unfold isL;rw[yet hty.symm,Bool.true_and];exact decide_eq_decide.2 ⟨Eq.symm,Eq.symm⟩]
    first| (simp only[go_sem];done)| (simp only[go_sem];rfl)
   ·refine rq ?_;intro gd K hgd hK;have hg9:=gk 9 24 hgd rfl;try simp (disch:=first|omega|assumption|rfl) only[go_sem,h7,h1,h2,h3,p1A,yn0,hi0,hi1,hxi,hxd,e0,e2,zaj,yef hty,↓hg9]
    apply hK;refine⟨rfl,rfl,vq1 h7,vq1 h1,vq1 h2,vq1 h3,Keep.refl _ _,?_⟩;rw[show isL n t r=false from by unfold isL;rw[yef (fun h=>hty h.symm),Bool.false_and]]
    first| (simp only[go_sem];done)| (simp only[go_sem];rfl)
  clear h7 h1 h2 h3;rintro _ σ1 _ A1 ⟨rfl,rfl,h7,h1,h2,h3,hA1,h33⟩;repeat refine c_r ?_
  refine zay (t:=isL n t r) ((vq1 h33)) ?_ ?_
  ·intro ht;refine gz0 ?_;refine rt0 Tryz.ntmps229 ?_;refine⟨?_,hwA.trans hA1⟩;rw[show hasL R n t=true from List.any_eq_true.2 ⟨r,hr▸List.getElem_mem hi,ht⟩]
  ·intro ht;refine gz (az2 h7 hi1') ?_;refine⟨m - 1,by omega,rfl,i+1,by omega,vq0,vq1 h1,vq1 h2,vq1 h3,hEA.trans hA1,fun j hj hji=>?_⟩;by_cases hj2:j=i
   ·subst hj2;rw[hr];exact ht
   ·exact hlow j hj (by omega)
 ·intro hge;simp only[ydF]at hge;refine gz0 ?_;refine rt0 Tryz.ntmps229 ?_;refine⟨?_,hE1.trans hEA⟩;have:hasL R n t=false:=by
   unfold hasL;rw[List.any_eq_false];intro x hx;obtain⟨j,hj,rfl⟩:=List.getElem_of_mem hx;rw[hlow j hj (by omega)];exact Bool.false_ne_true
  rw[this]
theorem zgA{w0 w:World}{ov lv nv:Value}{o n:Nm}{R:List RecL}(hz:ZnAt w0 w ov lv o R)(hn:Row w nv (n.map vs))(hln:LB n)(hnl:n.length<=1000000000000000):
  Fn Tryz.prog 232 #[.agg #[ov,lv],nv] w (fun v w'=>v= .bool (zaK o R n)/\Ext w w'):=by
 obtain⟨ao,co,hov,_⟩:=id hz.org;obtain⟨al,cl,hlv,hcl,hgl⟩:=hz.recs.open;have hol:=hz.ol;rw[hov,hlv];refine enter Tryz.func232 Tryz.ntmps232 rfl rfl ?_;refine gz0 ?_;rw[←hov,←hlv];refine zax ?_;intro w1 hE1 hs1 hA;have p0:zad w1 (some ⟨w.heap.size,0,.none⟩)=some ov:=zab hA rfl;have p1:zad w1 (some ⟨w.heap.size,1,.none⟩)=some lv:=zab hA rfl;rw[hlv]at p1;have hRlen:=hz.rl;refine rq ?_;intro gd K hgd hK;refine sgz (az2 p0 Nat.add_zero) ?_;refine Fn.mono (zcS w1 _ _ _ _ (hn.ext hE1) (hz.org.ext hE1) hln hz.lb (by omega) (by omega)) ?_;rintro _ w2 ⟨rfl,hE2⟩;try simp only[go_sem]
 apply hK;have hE12:=hE1.trans hE2;have p02:=zaa hE2 p0;by_cases hu:zaV n o=true
 rotate_left
 ·have hu':zaV n o=false:=by simpa using hu
  rw[hu'];repeat refine c_r ?_
  refine zay (t:=true) vr0 ?_ (fun h=>by cases h);intro _;refine gz0 ?_;refine rt0 Tryz.ntmps232 ?_;refine⟨?_,hE12⟩;unfold zaK;rw[hu',Bool.false_and]
 rw[hu];repeat refine c_r ?_
 refine zay (t:=false) vr0 (fun h=>by cases h) ?_;intro _;refine rqz ?_;intro gd K hgd hK;refine sgz (az2 p02 Nat.add_zero) ?_;refine Fn.mono (zb2 w2 _ _ _ _ (hn.ext hE12) (hz.org.ext hE12) hln hz.lb (by omega) (by omega)) ?_;rintro _ w3 ⟨rfl,hE3⟩;try simp only[go_sem]
 apply hK;have hE13:=hE12.trans hE3;have hle:=zb3 hu;have hsm:decide (zaq n=zaq o)=decide (n.length=o.length):=by
  refine decide_eq_decide.2 ⟨fun h=>?_,fun h=>?_⟩
  ·have:=congrArg List.length h;unfold zaq at this;simpa using this
  ·unfold zaV at hu;simp only[Bool.and_eq_true,ydT]at hu;have:=hu.2;rw[h,Nat.sub_self,List.drop_zero]at this;exact this
 rw[hsm];repeat refine c_r ?_
 refine zay (t:=decide (n.length=o.length)) vr0 ?_ ?_
 ·intro ht;refine gz0 ?_;refine rt0 Tryz.ntmps232 ?_;refine⟨?_,hE13⟩;unfold zaK;rw[hu,ht,Bool.true_or,Bool.true_and]
 intro hne;have hex:zaK o R n=R.any fun r=>zaV r.owner n:=by
  unfold zaK;rw[hu,hne,Bool.false_or,Bool.true_and]
 rw[hex];refine gz0 ?_;refine zao (fun m σ ds A=>ds=[]/\∃(i:Nat),i+m=R.length/\σ 5=vi i/\σ 1=nv/\σ 2= .pointer (some ⟨w.heap.size,0,.none⟩)/\Ext w3 A/\∀j (h:j<R.length),j<i->zaV R[j].owner n=false) R.length ?_ ?_
 ·exact⟨rfl,0,by omega,vr0,vq0,vq0,Keep.refl _ _,fun j h hj=>absurd hj (by omega)⟩
 rintro m σ ds A ⟨rfl,i,him,h5,h1,h2,hEA,hlow⟩;have p1A:=zaa ((hE2.trans hE3).trans hEA) p1;refine gz (az4 h5 h2 p1A yn0) ?_;refine wc0 ?_ ?_
 ·intro hlt;simp only[ydT]at hlt;have hi:i<R.length:=by omega
  have hi0:=cj i;have hi1:(i:Int)<(R.length:Int):=by omega
  have hi1':=ci i;obtain⟨cr,hcr,hRr⟩:=hgl i hi;obtain⟨r,hr⟩:∃r,R[i]=r:=⟨_,rfl⟩;rw[hr]at hRr;have hrok:zbr r:=hr▸hz.ok _ (List.getElem_mem hi);have hrl:=hrok.len;obtain⟨ow,dsc,hcrE,o1,o2,g0,g1,g2,gd⟩:=hRr.cells;obtain⟨xR,rfl⟩:=yxs (zak hcr);obtain⟨xi,hxi⟩:∃xi,adr (some xR) (i*7)=some xi:=⟨_,rfl⟩;rw[hxi]at hcr;have hwA:=hE13.trans hEA;have hcx:=zac hwA hcr;have e0:=zah hcx g0;rw[zaj]at e0;refine rqz ?_;intro gd K hgd hK;refine sgz (az2 (az7 h5 h1 h2 p1A yn0 hi0 hi1) (az3 hxi e0 zaj)) ?_;refine Fn.mono (zcS A _ _ _ _ (o1.ext (hz.e0.trans hwA)) (hn.ext hwA) hrok.lb hln (by omega) (by omega)) ?_;rintro _ x2 ⟨rfl,hx2⟩;try simp only[go_sem]
  refine en hK ?_;refine zay (t:=zaV r.owner n) vr0 ?_ ?_
  ·intro ht;refine gz0 ?_;refine rt0 Tryz.ntmps232 ?_;refine⟨?_,hwA.trans hx2⟩;rw[show (R.any fun r=>zaV r.owner n)=true from List.any_eq_true.2 ⟨r,hr▸List.getElem_mem hi,ht⟩]
  ·intro ht;refine gz (az2 h5 hi1') ?_;refine⟨m - 1,by omega,rfl,i+1,by omega,vq0,vq1 h1,vq1 h2,hEA.trans hx2,fun j hj hji=>?_⟩;by_cases hj2:j=i
   ·subst hj2;rw[hr];exact ht
   ·exact hlow j hj (by omega)
 ·intro hge;simp only[ydF]at hge;refine gz0 ?_;refine rt0 Tryz.ntmps232 ?_;refine⟨?_,hE13.trans hEA⟩;have:(R.any fun r=>zaV r.owner n)=false:=by
   rw[List.any_eq_false];intro x hx;obtain⟨j,hj,rfl⟩:=List.getElem_of_mem hx;rw[hlow j hj (by omega)];exact Bool.false_ne_true
  rw[this]
theorem zdz(n:Nm)(k:Nat):zaq (n.drop k)=(zaq n).drop k:=by unfold zaq;rw[List.map_drop]
theorem zkB{x y:Nm}(h:zaV x y=true){k:Nat}(hk:k<=y.length):zaV x (y.drop k)=true:=by
 unfold zaV at h ⊢;simp only[Bool.and_eq_true,ydT]at h ⊢;obtain⟨h1,h2⟩:=h;refine⟨by rw[List.length_drop];omega,?_⟩;rw[List.length_drop,show x.length - (y.length - k)=(x.length - y.length)+k from by omega,←List.drop_drop,zdz,h2,←zdz]
theorem zdr{n o:Nm}{i:Nat}(hi:i<=n.length):zaV (n.drop i) o=(decide (i<=n.length - o.length) && zaV n o):=by
 unfold zaV;rw[Bool.eq_iff_iff];simp only[Bool.and_eq_true,ydT,List.length_drop,List.drop_drop];constructor
 ·rintro⟨h1,h2⟩;refine⟨by omega,by omega,?_⟩;rw[show n.length - o.length=i+(n.length - i - o.length) from by omega];exact h2
 ·rintro⟨h1,h2,h3⟩;refine⟨by omega,?_⟩;rw[show i+(n.length - i - o.length)=n.length - o.length from by omega];exact h3
theorem ziG{o n:Nm}{R:List RecL}{i j:Nat}(h:zaK o R (n.drop i)=true)(hij:i<=j)(hj:j<=n.length - o.length)(hjn:j<=n.length):zaK o R (n.drop j)=true:=by
 unfold zaK at h ⊢;simp only[Bool.and_eq_true,Bool.or_eq_true,ydT]at h ⊢;obtain⟨h1,h2⟩:=h;rw[zdr (by omega)]at h1 ⊢;simp only[Bool.and_eq_true,ydT]at h1 ⊢;refine⟨⟨hj,h1.2⟩,?_⟩;rcases h2 with h2|h2
 ·left
  rw[List.length_drop]at h2 ⊢;have:=zb3 h1.2;omega
 ·right
  obtain⟨r,hr,h3⟩:=List.any_eq_true.1 h2;refine List.any_eq_true.2 ⟨r,hr,?_⟩;have:=zkB h3 (k:=j - i) (by rw[List.length_drop];omega);rw[List.drop_drop,show i+(j - i)=j from by omega]at this;exact this
theorem zgc{n:Nm}{p:Nm->Bool}{i:Nat}:∀{K:Nat},i<=K->(∀j,i<=j->j<=K->p (n.drop j)=true)->(∀j,j<i->p (n.drop j)=false)->((zbp n K).takeWhile p).getLast? =some (n.drop i)
 |0,hi,h1,h2=>by
  have:i=0:=by omega
  subst this;have:=h1 0 (ynl _) (ynl _);unfold zbp;rw[List.takeWhile_cons_of_pos this];rfl
 |K+1,hi,h1,h2=>by
  unfold zbp;rw[List.takeWhile_cons_of_pos (h1 _ hi (ynl _))];by_cases hK:i=K+1
  ·subst hK;have h3:=h2 K (by omega);have:(zbp n K).takeWhile p=[]:=by
    cases K with
    |zero=>unfold zbp;rw[List.takeWhile_cons_of_neg (by rw[h3];exact Bool.false_ne_true)]
    |succ K=>unfold zbp;rw[List.takeWhile_cons_of_neg (by rw[h3];exact Bool.false_ne_true)]
   rw[this];rfl
  ·have h3:=zgc (K:=K) (by omega) (fun j a b=>h1 j a (by omega)) h2;rw[List.getLast?_cons,h3];rfl
theorem encl_at{o n:Nm}{R:List RecL}{i:Nat}(hi:i<=n.length)(h:zaK o R (n.drop i)=true)(hlow:∀j,j<i->zaK o R (n.drop j)=false):zbQ o R n=n.drop i:=by
 have h1:zaV (n.drop i) o=true:=by
  unfold zaK at h;simp only[Bool.and_eq_true]at h;exact h.1
 rw[zdr hi]at h1;simp only[Bool.and_eq_true,ydT]at h1;unfold zbQ za8;rw[if_pos h1.2,if_pos (zb3 h1.2),zgc h1.1 (fun j a b=>ziG h a b (by omega)) hlow];rfl
theorem encl_no{o n:Nm}{R:List RecL}(hlow:∀j,j<=n.length->zaK o R (n.drop j)=false):zbQ o R n=[]:=by
 by_cases hu:zaV n o=true
 ·exfalso
  have hl:=zb3 hu;have h:=hlow (n.length - o.length) (by omega);unfold zaK at h;rw[zdr (by omega),hu]at h;simp at h;omega
 ·unfold zbQ;rw[if_neg hu]
theorem zmv(w:World)(b:Value)(l:List UInt8)(xs:Nm)(hb:Row w b (xs.map vs))(hxl:xs.length<=1000000000000):
  Fn Tryz.prog 75 #[vs l,b] w (fun v w'=>RowB w.heap.size w' v ((l::xs).map vs)/\Ext w w'):=by
 have hb0:=hb;obtain⟨b,cb,rfl,hcb,hlb⟩:=hb;simp only[ylm]at*;refine enter Tryz.func75 Tryz.ntmps75 rfl rfl ?_;refine gz0 ?_;refine rq ?_;intro gd K hgd hK;try simp only[go_sem]
 have hbs:bsC Tryz.prog 26 1 [(0,vs l)]=some (9,#[vs l]):=ziN (z:=vs []) rfl rfl rfl rfl rfl;unfold bsL bsK;rw[hbs];simp only[];have hown:(w.alloc (.cells #[vs l] 9)).ownsRow w.heap.size 9 1 (.slice (some ⟨w.heap.size,0,.none⟩) 1 1) 1 [vs l]:=
  ⟨rfl,.inr ⟨w.heap.size,1,#[vs l],rfl,ynl _,zau w _,ynl _,by decide,rfl,rfl⟩⟩
 try simp only[go_sem]
 refine zd9 (P:=Tryz.prog) (e:=9) (size:=1) (bytes:=16) (m:=xs.length) rfl rfl rfl rfl rfl rfl (by decide) vq0 (by simp only[go_sem];rfl) hown (by simpa using Src1.of_row (hb0.ext (Ext.alloc w _))) ?_ ?_ ?_ (by simp) ?_
 ·intro q hq;obtain⟨s,_,rfl⟩:=List.mem_map.1 hq
  rfl
 ·simp[maxLen];omega
 ·omega
 intro v' w' hown' hgr _;try simp only[go_sem]
 refine en hK ?_;refine rt0 Tryz.ntmps75 ?_;exact⟨by simpa using RowB.of_owns hown',Keep.to_ext (Ext.alloc w _) rfl (fun b hb=>by simp[Value.ownBlock]at hb;omega) hgr⟩
theorem zib{w0 w:World}{ov lv nv:Value}{o n:Nm}{R:List RecL}(hz:ZnAt w0 w ov lv o R)(hn:Row w nv (n.map vs))(hln:LB n)(hnl:n.length<=1000000000000):
  Fn Tryz.prog 277 #[.agg #[ov,lv],nv] w (fun v w'=>Row w' v ((zbQ o R n).map vs)/\Ext w w'):=by
 obtain⟨ao,co,hov,_⟩:=id hz.org;obtain⟨al,cl,hlv,_⟩:=hz.recs.open;obtain⟨an,cn,hnv,hcn,hgn⟩:=id hn;simp only[ylm]at hnv hcn hgn;rw[hov,hlv,hnv];refine enter Tryz.func277 Tryz.ntmps277 rfl rfl ?_;refine gz0 ?_;rw[←hov,←hlv];refine zax ?_;intro w1 hE1 hs1 hA;have d2:=zae (n:=2) (l:=[ov,lv]) hA rfl;refine gz0 ?_;refine zao (fun m σ ds A=>ds=[]/\∃(i:Nat),i+m=n.length+1/\σ 5=vi i/\σ 1= .slice an n.length cn/\σ 2= .pointer (some ⟨w.heap.size,0,.none⟩)/\Ext w1 A/\∀j,j<i->zaK o R (n.drop j)=false) (n.length+1) ?_ ?_
 ·exact⟨rfl,0,by omega,vr0,vq0,vq0,Keep.refl _ _,fun j hj=>absurd hj (by omega)⟩
 rintro m σ ds A ⟨rfl,i,him,h5,h1,h2,hEA,hlow⟩;have d2A:=zac hEA d2;have hwA:=hE1.trans hEA;refine gz (az2 h5 h1) ?_;refine wc0 ?_ ?_
 ·intro hlt;simp only[ydT]at hlt;have hi:i<=n.length:=by omega
  have hi0:=cj i;have hk1:(i:Int)<=(n.length:Int):=by omega
  have hi1':=ci i;have hrow:Row w (.slice (if cn=i then an else adr an i) (n.length - i) (cn - i)) ((n.drop i).map vs):=by
   have:=Row.tail (l:=n.map vs) (by simp) hcn (by simpa using hgn) (lo:=i) (by simpa using hi);rw[←List.map_drop]at this;simpa using this
  repeat refine c_r ?_
  refine zaw (Q:=fun e σ' ds' v'=>e= .normal/\ds'=[]/\σ' 5=vi i/\σ' 1= .slice an n.length cn/\σ' 2= .pointer (some ⟨w.heap.size,0,.none⟩)/\Ext A v'/\σ' 16= .bool (zaK o R (n.drop i))) ?_ ?_
  ·refine zaJ (fun _=>false) [(0,true),(1,true),(2,true),(3,true),(4,false)] NoS mixed (by kernel_rfl) ?_;intro gd K x hgd hx hxe hK;clear hxe;have d2x:=zac hx d2A;refine sgz (az6 h5 h1 h2 hi0 hk1 d2x) ?_;refine Fn.mono (zgA (hz.ext (hwA.trans hx)) (hrow.ext (hwA.trans hx)) (hln.drop i) (by rw[List.length_drop];omega)) ?_;rintro _ x2 ⟨rfl,hx2⟩;refine⟨.inr hx2,?_⟩;refine sg0 ?_;apply hK;exact⟨rfl,rfl,vq1 h5,vq1 h1,vq1 h2,hx.trans hx2,vr0⟩
  clear h5 h1 h2;rintro _ σ1 _ A1 ⟨rfl,rfl,h5,h1,h2,hA1,h16⟩;repeat refine c_r ?_
  refine zay (t:=zaK o R (n.drop i)) ((vq1 h16)) ?_ ?_
  ·intro ht;refine gz (az4 h5 h1 hi0 hk1) ?_;refine rt0 Tryz.ntmps277 ?_;rw[encl_at hi ht hlow];exact⟨hrow.ext (hwA.trans hA1),hwA.trans hA1⟩
  ·intro ht;refine gz (az2 h5 hi1') ?_;refine⟨m - 1,by omega,rfl,i+1,by omega,vq0,vq1 h1,vq1 h2,hEA.trans hA1,fun j hji=>?_⟩;by_cases hj2:j=i
   ·subst hj2;exact ht
   ·exact hlow j (by omega)
 ·intro hge;simp only[ydF]at hge;refine gz0 ?_;refine rt0 Tryz.ntmps277 ?_;rw[encl_no (fun j hj=>hlow j (by omega))];exact⟨⟨.none,0,rfl,ynl _,fun j h=>absurd h (by simp)⟩,hwA⟩
theorem zkv{w0 w:World}{ov lv nv:Value}{o n:Nm}{R:List RecL}(hz:ZnAt w0 w ov lv o R)(hn:Row w nv (n.map vs))(hln:LB n)(hnl:n.length<=1000000000):
  Fn Tryz.prog 234 #[.agg #[ov,lv],nv] w (fun v w'=>Ext w w'/\∃sv,v= .tuple #[sv,.bool (zaW o R n).isSome]/\Row w' sv (((zaW o R n).getD []).map vs)):=by
 obtain⟨ao,co,hov,_⟩:=id hz.org;obtain⟨al,cl,hlv,hcl,hgl⟩:=hz.recs.open;have hRlen:=hz.rl;rw[hov,hlv];refine enter Tryz.func234 Tryz.ntmps234 rfl rfl ?_;refine gz0 ?_;rw[←hov,←hlv];refine zax ?_;intro w1 hE1 hs1 hA;have d2:=zae (n:=2) (l:=[ov,lv]) hA rfl;have p1:zad w1 (some ⟨w.heap.size,1,.none⟩)=some lv:=zab hA rfl;rw[hlv]at p1;have hz1:=hz.ext hE1;refine rq ?_;intro gd K hgd hK;refine sgz d2 ?_;refine Fn.mono (zib hz1 (hn.ext hE1) hln (by omega)) ?_;rintro ev w2 ⟨hev,hE2⟩;try simp only[go_sem]
 refine Fn.mono (zmv w2 ev starL (zbQ o R n) hev (by have:=ze8 (o:=o) (R:=R) (n:=n);omega)) ?_;rintro sv w3 ⟨hsv,hE3⟩;try simp only[go_sem]
 apply hK;have hsr:Row w3 sv ((zbt o R n).map vs):=hsv.1;have hslb:LB (zbt o R n):=fun l hl=>by
  rcases List.mem_cons.1 hl with rfl|hl
  ·decide
  ·exact zl0 hln l hl
 have hsl:(zbt o R n).length<=1000000001:=by
  have:=ze8 (o:=o) (R:=R) (n:=n);unfold zbt;rw[List.length_cons];omega
 have hE13:=hE1.trans (hE2.trans hE3);refine gz0 ?_;refine zao (fun m σ ds A=>ds=[]/\∃(i:Nat),i+m=R.length/\σ 7=vi i/\σ 6=sv/\σ 2= .pointer (some ⟨w.heap.size,0,.none⟩)/\Ext w3 A/\∀j (h:j<R.length),j<i->decide (zaq R[j].owner=zaq (zbt o R n))=false) R.length ?_ ?_
 ·exact⟨rfl,0,by omega,vr0,vq0,vq0,Keep.refl _ _,fun j h hj=>absurd hj (by omega)⟩
 rintro m σ ds A ⟨rfl,i,him,h7,h6,h2,hEA,hlow⟩;have p1A:=zaa ((hE2.trans hE3).trans hEA) p1;refine gz (az4 h7 h2 p1A yn0) ?_;refine wc0 ?_ ?_
 ·intro hlt;simp only[ydT]at hlt;have hi:i<R.length:=by omega
  have hi0:=cj i;have hi1:(i:Int)<(R.length:Int):=by omega
  have hi1':=ci i;obtain⟨cr,hcr,hRr⟩:=hgl i hi;obtain⟨r,hr⟩:∃r,R[i]=r:=⟨_,rfl⟩;rw[hr]at hRr;have hrok:zbr r:=hr▸hz.ok _ (List.getElem_mem hi);have hrl:=hrok.len;obtain⟨ow,dsc,hcrE,o1,o2,g0,g1,g2,gd⟩:=hRr.cells;obtain⟨xR,rfl⟩:=yxs (zak hcr);obtain⟨xi,hxi⟩:∃xi,adr (some xR) (i*7)=some xi:=⟨_,rfl⟩;rw[hxi]at hcr;have hwA:=hE13.trans hEA;have hcx:=zac hwA hcr;have e0:=zah hcx g0;rw[zaj]at e0;refine rqz ?_;intro gd K hgd hK;refine sgz (az2 (az7 h7 h6 h2 p1A yn0 hi0 hi1) (az3 hxi e0 zaj)) ?_;refine Fn.mono (zb2 A _ _ _ _ (o1.ext (hz.e0.trans hwA)) (hsr.ext hEA) hrok.lb hslb (by omega) (by omega)) ?_;rintro _ x2 ⟨rfl,hx2⟩;try simp only[go_sem]
  refine en hK ?_;refine zay (t:=decide (zaq r.owner=zaq (zbt o R n))) vr0 ?_ ?_
  ·intro ht;refine gz h6 ?_;have hso:zaW o R n=some (zbt o R n):=by
    unfold zaW;rw[if_pos];exact List.any_eq_true.2 ⟨r,hr▸List.getElem_mem hi,ht⟩
   refine zat (.inr rfl) Tryz.ntmps234 rfl (zam (v:=sv) vr0 (zam (v:= .bool true) vr0 zap)) ?_;exact⟨hwA.trans hx2,sv,by rw[hso];rfl,by rw[hso];exact hsr.ext (hEA.trans hx2)⟩
  ·intro ht;refine gz (az2 h7 hi1') ?_;refine⟨m - 1,by omega,rfl,i+1,by omega,vq0,vq1 h6,vq1 h2,hEA.trans hx2,fun j hj hji=>?_⟩;by_cases hj2:j=i
   ·subst hj2;rw[hr];exact ht
   ·exact hlow j hj (by omega)
 ·intro hge;simp only[ydF]at hge;refine gz0 ?_;have hso:zaW o R n= .none:=by
   unfold zaW;rw[if_neg];unfold ownsL;rw[List.any_eq_true];rintro⟨x,hx,h⟩;obtain⟨j,hj,rfl⟩:=List.getElem_of_mem hx;rw[hlow j hj (by omega)]at h;cases h
  refine zat (.inr rfl) Tryz.ntmps234 rfl (zam (v:= .slice .none 0 0) vr0 (zam (v:= .bool false) vr0 zap)) ?_;exact⟨hE13.trans hEA,_,by rw[hso];rfl,by rw[hso];exact⟨.none,0,rfl,ynl _,fun j h=>absurd h (by simp)⟩⟩
theorem RGlue_ok{w0 w:World}{ov lv hv:Value}{o h:Nm}{R:List RecL}(hz:ZnAt w0 w ov lv o R)(hs:zdX R)(hn:Row w hv (h.map vs))(hln:LB h)(hnl:h.length<=1000000000000):
  Fn Tryz.prog 276 #[.agg #[ov,lv],hv] w (fun v w'=>Ext w w'/\Rows 5 (DatAt w0) w' v (zbe R h)/\BlkB w.heap.size w' v):=by
 obtain⟨ao,co,hov,_⟩:=id hz.org;obtain⟨al,cl,hlv,_⟩:=hz.recs.open;have hRlen:=hz.rl;have l1:=zbg (R:=R) (n:=h) (t:=1);have l28:=zbg (R:=R) (n:=h) (t:=28);rw[hov,hlv];refine enter Tryz.func276 Tryz.ntmps276 rfl rfl ?_;refine gz0 ?_;rw[←hov,←hlv];refine zax ?_;intro w1 hE1 hs1 hA;have d2:=zae (n:=2) (l:=[ov,lv]) hA rfl;have hln1:([]:List DatL).length+(datC R h 1).length<=100000000000:=by simp;omega
 have hln2:([]++datC R h 1).length+(datC R h 28).length<=100000000000:=by simp;omega
 refine zeT (fun _=>false) (.run [(1,true),(2,true),(5,true),(6,true)] (.fork 5 [0,3] (fun i=>if i=0 then(.run [(3,false),(4,false),(7,false),(8,false),(9,true)] .fin) else(.run [(0,false),(4,false),(7,false),(8,false),(9,true)] .fin)))) (zbE w1.heap.size) mixed (by kernel_rfl) ?_;intro gd K x hgd hx hxe hK;have hx0:=zez hxe;clear hxe;have d2x:=zac hx0 d2;have hxs:=hx.size;refine sgz d2x ?_;refine⟨zcw (by omega),zcw (by omega),?_⟩;have fin:∀(B:Nat) (v7:Value) (w7:World),w.heap.size<=B->Ext w1 w7->Owns 5 (DatAt w0) B w7 208 v7 (([]++datC R h 1)++datC R h 28)->Ext w w7/\Rows 5 (DatAt w0) w7 v7 (zbe R h)/\BlkB w.heap.size w7 v7:=fun B v7 w7 hB hE ho=>⟨hE1.trans hE,ho.rows,ho.blk.mono hB⟩;have hn1:=hn.ext (hE1.trans hx0);have hzx:=hz.ext (hE1.trans hx0);simp only[za5,zbl];refine⟨?_,?_⟩
 ·refine sg0 ?_;refine zeC (k:=5) (C:=DatAt w0) rfl rfl rfl rfl ?_;intro w3 hE3 hs3 ho3;refine⟨.inr hE3.keep,?_⟩;refine sg0 ?_;refine Fn.mono (zca (hzx.ext hE3) hs (hn1.ext hE3) hln (by omega)) ?_;rintro d1 w4 ⟨hE4,hd1,hb1⟩;refine⟨.inr hE4.keep,?_⟩;have hs4:=hE4.size;refine sg0 ?_;refine zaG (zaP w0) (ho3.ext hE4) hd1 rfl rfl rfl rfl rfl rfl (by decide) vr0 vr0 hln1 (by decide) (by omega) ?_;intro v5 w5 ho5 hE5' hk5 _;refine⟨.inr (hk5.mono fun b _ hb=>by have:=(ho3.ge hb).1;show _<=_;omega),?_⟩;have hs5:=hk5.size;have hE15:Ext w1 w5:=hE5' w1 ((hx0.trans hE3).trans hE4) (by omega);refine sg0 ?_;refine Fn.mono (zca (hz.ext (hE1.trans hE15)) hs (hn.ext (hE1.trans hE15)) hln (by omega)) ?_;rintro d2 w6 ⟨hE6,hd2,hb2⟩;refine⟨.inr hE6.keep,?_⟩;have hs6:=hE6.size;refine sg0 ?_;refine zaG (zaP w0) (ho5.ext hE6) hd2 rfl rfl rfl rfl rfl rfl (by decide) vr0 vr0 hln2 (by decide) (by omega) ?_;intro v7 w7 ho7 hE7' hk7 _;refine⟨.inr (hk7.mono fun b _ hb=>by have:=(ho5.ge hb).1;show _<=_;omega),?_⟩;refine sg0 ?_;refine en hK ?_;refine rt0 Tryz.ntmps276 ?_;exact fin _ _ _ (by omega) (hE7' w1 (hE15.trans hE6) (by omega)) ho7
 ·refine sg0 ?_;refine Fn.mono (zca hzx hs hn1 hln (by omega)) ?_;rintro d1 w4 ⟨hE4,hd1,hb1⟩;refine⟨.inr hE4.keep,?_⟩;have hs4:=hE4.size;refine sg0 ?_;refine zeC (k:=5) (C:=DatAt w0) rfl rfl rfl rfl ?_;intro w3 hE3 hs3 ho3;refine⟨.inr hE3.keep,?_⟩;refine sg0 ?_;refine zaG (zaP w0) ho3 (hd1.ext hE3) rfl rfl rfl rfl rfl rfl (by decide) vr0 vr0 hln1 (by decide) (by omega) ?_;intro v5 w5 ho5 hE5' hk5 _;refine⟨.inr (hk5.mono fun b _ hb=>by have:=(ho3.ge hb).1;show _<=_;omega),?_⟩;have hs5:=hk5.size;have hE15:Ext w1 w5:=hE5' w1 ((hx0.trans hE4).trans hE3) (by omega);refine sg0 ?_;refine Fn.mono (zca (hz.ext (hE1.trans hE15)) hs (hn.ext (hE1.trans hE15)) hln (by omega)) ?_;rintro d2 w6 ⟨hE6,hd2,hb2⟩;refine⟨.inr hE6.keep,?_⟩;have hs6:=hE6.size;refine sg0 ?_;refine zaG (zaP w0) (ho5.ext hE6) hd2 rfl rfl rfl rfl rfl rfl (by decide) vr0 vr0 hln2 (by decide) (by omega) ?_;intro v7 w7 ho7 hE7' hk7 _;refine⟨.inr (hk7.mono fun b _ hb=>by have:=(ho5.ge hb).1;show _<=_;omega),?_⟩;refine sg0 ?_;refine en hK ?_;refine rt0 Tryz.ntmps276 ?_;exact fin _ _ _ (by omega) (hE7' w1 (hE15.trans hE6) (by omega)) ho7
end Go.Proofs.YtahbdamijngmmaaGreat
