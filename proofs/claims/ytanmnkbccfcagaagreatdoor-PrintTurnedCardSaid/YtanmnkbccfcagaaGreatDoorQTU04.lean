/-
  Texts of a proof, joined: HB, CP, Q0int, Q1, Q2, QCcn, QCcu, QCct, Q0uint32, Q3, D0, HH, GQ, GR, GS, GT, GU, GX, HI, B2, HJ, HK, HL, HM.
  Conditions: none.
-/
import Derived.Test.YtanmnkbccfcagaaGreatDoorQTU03
import Derived.Test.YtanmnkbccfcagaaGreatDoorQTU01
import Derived.Test.YtanmnkbccfcagaaGreatDoorQTU02
import Derived.Laws.Externs
set_option linter.unusedVariables false
set_option linter.unusedSimpArgs false
set_option linter.defProp false
set_option linter.unnecessarySimpa false
set_option maxHeartbeats 8000000
namespace Go.Proofs.YtanmnkbccfcagaaGreatDoor
open Go
set_option maxRecDepth 10000
def hexS:Lab:=[48,49,50,51,52,53,54,55,56,57,97,98,99,100,101,102]
def hexD(k:Nat):UInt8:=hexS.getD k 0
def hexB(c:UInt8):Lab:=[hexD (c.toNat / 16),hexD (c.toNat % 16)]
def hexT(l:List UInt8):Lab:=l.flatMap hexB
theorem hexS_get{k:Nat}(h:k<hexS.length):hexS[k]=hexD k:=by
 unfold hexD
 rw[List.getD_eq_getElem?_getD,List.getElem?_eq_getElem h];rfl
theorem ix_hex{k:Nat}(h:k<16):ixSD (some .string) (.string ⟨#[48,49,50,51,52,53,54,55,56,57,97,98,99,100,101,102]⟩) (.int .u8 (k:Int))=some (zaj (hexD k)):=by
 have h2:((k:Nat):Int).toNat<hexS.length:=by rw[Int.toNat_natCast];exact h
 show ixSD (some .string) (vs hexS) (.int .u8 (k:Int))=_
 rw[i_str (by omega) h2]
 have:hexS[((k:Nat):Int).toNat]'h2=hexD k:=hexS_get h2
 rw[this];rfl
theorem b_and15{P:Program}{t:TypeId}{n:Nat}(h:n<256):binV P .and t (.int .u8 (n:Int)) (.int .u8 15)=some (.int .u8 ((n % 16:Nat):Int)):=by
 have:=(by decide+kernel:∀n,n<256→IntKind.u8.wrap ((BitVec.ofInt 8 ((n:Nat):Int) &&& BitVec.ofInt 8 15).toNat:Int)=((n % 16:Nat):Int)) n h
 show some (Value.int .u8 (IntKind.u8.wrap ((BitVec.ofInt 8 ((n:Nat):Int) &&& BitVec.ofInt 8 15).toNat:Int)))=_
 rw[this]
theorem b_shr4{P:Program}{t:TypeId}{n:Nat}:binV P .shr t (.int .u8 (n:Int)) (.int .u64 4)=some (.int .u8 ((n / 16:Nat):Int)):=by
 show some (Value.int .u8 (Int.fdiv (n:Int) (2 ^ (min (Int.toNat 4) 8))))=_
 have:(2:Int) ^ (min (Int.toNat 4) 8)=((16:Nat):Int):=by decide
 rw[this,Int.fdiv_eq_ediv_of_nonneg _ (by omega)];rfl
theorem zge(l:List UInt8):(hexT l).length=2*l.length:=by
 induction l with
 |nil=>rfl
 |cons c l ih=>unfold hexT at*;rw[List.flatMap_cons,List.length_append,ih,List.length_cons];simp[hexB];omega
theorem hex_ok{w:World}{v:Value}{l:List UInt8}(h:Row w v (l.map zaj))(hl:l.length≤1000000):Fn Tryz.prog 152 #[v] w (fun u w'=>u=vs (hexT l)∧Ext w w'):=by
 obtain⟨a,c,rfl,hc,hg⟩:=h
 rw[List.length_map]at hc
 rw[List.length_map]
 refine enter Tryz.func152 Tryz.ntmps152 rfl rfl ?_
 refine go trivial ?_
 refine zc6 l.length (fun i σ x=>σ 6= .slice a l.length c∧σ 7=vi l.length∧σ 8=vi i∧(∃ov,σ 3=ov∧Own w.heap.size x 5 ov ((hexT (l.take i)).map zaj))∧Ext w x) ?_ ?_ ?_
 ·exact⟨vr0,vr0,vr0,⟨_,vr0,Own.nil _ _ _⟩,Keep.refl _ _⟩
 ·rintro i σ x hi p ⟨h6,h7,h8,⟨ov,h3,ho⟩,hE⟩
  have g:=zaa hE (hg i (by rw[List.length_map];exact hi))
  rw[List.getElem_map]at g
  obtain⟨xa,rfl⟩:=Option.isSome_iff_exists.1 (zae g)
  obtain⟨k,hk⟩:∃k,l[i].toNat=k:=⟨_,rfl⟩
  have hk256:k<256:=hk▸l[i].toNat_lt
  have g':zaf x (adr (some xa) i)=some (.int .u8 (k:Int)):=by rw[g,←hk];rfl
  have hi0:(0:Int)≤(i:Int):=by omega
  have hi1:(i:Int)<(l.length:Int):=by omega
  have hi2:(i:Int)+1=((i+1:Nat):Int):=by push_cast;rfl
  have u1:=ix_hex (k:=k / 16) (by omega)
  have u2:=ix_hex (k:=k % 16) (by omega)
  have ha:=b_and15 (P:=Tryz.prog) (t:=5) hk256
  have hs4:=b_shr4 (P:=Tryz.prog) (t:=5) (n:=k)
  have hs:=hE.size
  obtain⟨ao,co,hov⟩:=ho.slice
  refine go (an8 h6 h7 h8 p hi0 hi1 g' h3) ?_
  refine zaK (fun _=>false) [(0,true),(1,true),(2,true),(3,true),(4,true),(5,true),(6,true),(7,false),(8,false),(9,true)] (zbR w.heap.size) mixed (by kernel_rfl) ?_;intro gd K x hgd hx hxe hK;have hx0:=zbc hxe;clear hxe
  simp (disch:=first|omega|assumption|rfl) only[go_sem,h3,ha,hs4,u1,u2]
  refine bs_two (z:= .int .u8 0) (u:=zaj (hexD (k / 16))) (v:=zaj (hexD (k % 16))) (by rfl) (by rfl) (by rfl) (by rfl) rfl rfl ?_
  intro y1 hy1 hys1 hyo
  refine⟨.inr hy1.keep,?_⟩
  simp (disch:=first|omega|assumption|rfl) only[go_sem]
  have hsx1:=hx0.size
  obtain⟨inf,hi9,hz,hsz,hby⟩:=info_parts (P:=Tryz.prog) (e:=5) (z:= .int .u8 0) (size:=1) (bytes:=1) (by kernel_rfl)
  have hlk:((hexT (l.take i)).map zaj).length≤2000000:=by rw[List.length_map,zge,List.length_take];omega
  refine zbr (B:=w.heap.size) ((ho.ext hx0).ext hy1) hyo.row (by rfl) hi9 hz hsz hby (by rfl) (vr0) (vr0) (zeZ [hexD (k / 16),hexD (k % 16)]) (by simp at hlk ⊢;omega) (by decide) (by have:=hy1.size;omega) ?_
  intro v2 y2 hown2 hE2 hk2' hfr
  refine⟨.inr (hk2'.mono fun b _ hb=>by have:=(ho.ge hb).1;show _≤_;omega),?_⟩
  simp (disch:=first|omega|assumption|rfl) only[go_sem]
  refine hK _ _ ?_;clear hK hgd;clear K;try clear gd
  have hEy:=hE2 w ((hE.trans hx0).trans hy1) (Nat.le_refl _)
  refine go (an3 h6 h7 h8) ?_
  refine⟨rfl,(vq1 h6),(vq1 h7),(vq1 hi2),⟨v2,vr0,?_⟩,hEy⟩
  rw[zag hi]
  unfold hexT
  rw[List.flatMap_append,List.map_append,List.flatMap_singleton]
  unfold hexB
  rw[hk]
  exact hown2
 ·rintro σ x p ⟨h6,h7,h8,⟨ov,h3,ho⟩,hE⟩
  rw[List.take_length]at ho
  obtain⟨ao,co,hov,hcl,hat⟩:=ho.row
  rw[List.length_map]at hov
  refine go (an4 h6 h7 h8 p) ?_
  refine rq ?_;intro gd K hgd hK
  try simp (disch:=first|omega|assumption|rfl) only[go_sem,h3,hov]
  refine zcc (l:=hexT l) rfl rfl rfl (vr0) (fun j hj=>?_) ?_
  ·have:=hat j (by rw[List.length_map];exact hj)
   rw[List.getElem_map]at this
   exact this
  try simp only[go_sem]
  refine hK _ _ ?_;clear hK hgd;clear K;try clear gd
  repeat refine c_r ?_
  refine rt0 Tryz.ntmps152 ?_
  exact⟨rfl,hE⟩
def cmpI(a b:Int):Int:=if a<b then -1 else if b<a then 1 else 0
def orI:List Int→Int
 | []=>0
 |a::l=>if a=0 then orI l else a
def lexC{α:Type}(cf:α→α→Int):List α→List α→Int
 | [],[]=>0
 | [],_::_=> -1
 |_::_,[]=>1
 |x::l,y::m=>if cf x y=0 then lexC cf l m else cf x y
theorem orI_drop{l:List Int}{i:Nat}(h:i<l.length):orI (l.drop i)=if l[i]=0 then orI (l.drop (i+1)) else l[i]:=by
 rw[List.drop_eq_getElem_cons h];rfl
theorem zdF{α:Type}{cf:α→α→Int}{a b:List α}{i:Nat}(ha:i<a.length)(hb:i<b.length):lexC cf (a.drop i) (b.drop i)=if cf a[i] b[i]=0 then lexC cf (a.drop (i+1)) (b.drop (i+1)) else cf a[i] b[i]:=by
 rw[List.drop_eq_getElem_cons ha,List.drop_eq_getElem_cons hb];rfl
theorem zb8{α:Type}{cf:α→α→Int}:∀{a b:List α},a=[]∨b=[]→lexC cf a b=cmpI a.length b.length
 | [],[],_=>rfl
 | [],_::_,_=>by simp only[lexC,cmpI,List.length_cons,List.length_nil];rw[if_pos (by omega)]
 |_::_,[],_=>by simp only[lexC,cmpI,List.length_cons,List.length_nil];rw[if_neg (by omega),if_pos (by omega)]
 |_::_,_::_,h=>by simp at h
end Go.Proofs.YtanmnkbccfcagaaGreatDoor
namespace Go.Proofs.YtanmnkbccfcagaaGreatDoor.N_int
open Go Go.Proofs.YtanmnkbccfcagaaGreatDoor
set_option maxRecDepth 10000
theorem zcE(w:World)(a:Int):Fn Tryz.prog 156 #[.int .i64 a] w (fun v w'=>v= .bool false∧w'=w):=by
 refine enter Tryz.func156 Tryz.ntmps156 rfl rfl ?_
 repeat (first|refine c_r ?_| (refine zcM (by rfl) ?_;intro gd K hgd hK;simp (disch:=first|omega|assumption|rfl) only[go_sem,decide_true];refine hK _ _ ?_;clear hK hgd;clear K gd))
 refine rt0 Tryz.ntmps156 ?_
 exact⟨rfl,rfl⟩
theorem Compare_ok(w:World)(a b:Int):Fn Tryz.prog 97 #[.int .i64 a,.int .i64 b] w (fun v w'=>v=vi (cmpI a b)∧w'=w):=by
 refine enter Tryz.func97 Tryz.ntmps97 rfl rfl ?_
 repeat refine c_r ?_
 refine rg0 ?_
 repeat refine c_r ?_
 refine rq ?_;intro gd K hgd hK
 try simp only[go_sem]
 refine Fn.mono (zcE _ _) ?_
 rintro _ _ ⟨rfl,rfl⟩
 try simp only[go_sem]
 refine hK _ _ ?_;clear hK hgd;clear K;try clear gd
 repeat refine c_r ?_
 refine rq ?_;intro gd K hgd hK
 try simp only[go_sem]
 refine Fn.mono (zcE _ _) ?_
 rintro _ _ ⟨rfl,rfl⟩
 try simp only[go_sem]
 refine hK _ _ ?_;clear hK hgd;clear K;try clear gd
 repeat refine c_r ?_
 refine rg0 ?_
 repeat refine c_r ?_
 refine wc0 ?_ ?_
 ·intro h;cases h
 intro _
 repeat refine c_r ?_
 refine rg0 ?_
 repeat refine c_r ?_
 refine wc0 ?_ ?_
 ·intro h;cases h
 intro _
 repeat refine c_r ?_
 refine rg0 ?_
 repeat refine c_r ?_
 refine wc0 ?_ ?_
 ·intro h
  simp only[decide_eq_true_eq]at h
  repeat (first|refine c_r ?_|refine rg0 ?_)
  refine rt0 Tryz.ntmps97 ?_
  exact⟨by rw[cmpI,if_pos h],rfl⟩
 intro h
 simp only[decide_eq_false_iff_not]at h
 repeat (first|refine c_r ?_|refine rg0 ?_)
 refine wc0 ?_ ?_
 ·intro h2
  simp only[decide_eq_true_eq]at h2
  repeat (first|refine c_r ?_|refine rg0 ?_)
  refine rt0 Tryz.ntmps97 ?_
  exact⟨by rw[cmpI,if_neg h,if_pos h2],rfl⟩
 intro h2
 simp only[decide_eq_false_iff_not]at h2
 repeat (first|refine c_r ?_|refine rg0 ?_)
 refine rt0 Tryz.ntmps97 ?_
 exact⟨by rw[cmpI,if_neg h,if_neg h2],rfl⟩
end Go.Proofs.YtanmnkbccfcagaaGreatDoor.N_int
namespace Go.Proofs.YtanmnkbccfcagaaGreatDoor
open Go
set_option maxRecDepth 10000
theorem Or_ok(w:World)(a:Value)(l:List Int)(ha:Row w a (l.map vi))(hl:l.length≤1000000000000):Fn Tryz.prog 96 #[a] w (fun v w'=>v=vi (orI l)∧w'=w):=by
 obtain⟨a,ca,rfl,hca,hla⟩:=ha
 simp only[List.length_map]at*
 refine enter Tryz.func96 Tryz.ntmps96 rfl rfl ?_
 repeat (first|refine c_r ?_|refine rg0 ?_)
 refine zas (fun m σ ds v=>ds=[]∧v=w∧∃i:Nat,i+m=l.length∧σ 8=vi i∧σ 7=vi l.length∧σ 6= .slice a l.length ca∧σ 3=vi 0∧orI l=orI (l.drop i)) l.length ?_ ?_
 ·refine⟨rfl,rfl,0,by omega,?_,?_,?_,?_,by simp⟩
  ·simp only[go_sem];rfl
  ·simp only[go_sem]
  ·simp only[go_sem]
  ·simp only[go_sem]
 ·rintro m σ ds v ⟨rfl,hv,i,him,h8,h7,h6,h3,hinv⟩
  rw[hv]
  repeat refine c_r ?_
  refine rg2 h8 h7 ?_
  repeat refine c_r ?_
  refine wc0 ?_ ?_
  ·intro hlt
   simp only[decide_eq_true_eq]at hlt
   have hsa:a.isSome=true:=zae (hla i (by omega))
   have hd:=orI_drop (l:=l) (i:=i) (by omega)
   repeat refine c_r ?_
   refine rq ?_;intro gd K hgd hK;simp (disch:=first|omega|assumption|rfl) only[go_sem,h8,h6,hla,List.getElem_map];refine hK _ _ ?_;clear hK hgd;clear K gd
   repeat refine c_r ?_
   refine rg1 h3 ?_
   repeat refine c_r ?_
   refine wc0 ?_ ?_
   ·intro h
    simp only[Bool.not_eq_true',decide_eq_false_iff_not]at h
    repeat (first|refine c_r ?_|refine rg0 ?_)
    refine rt0 Tryz.ntmps96 ?_
    exact⟨by rw[hinv,hd,if_neg h],rfl⟩
   ·intro h
    simp only[Bool.not_eq_false',decide_eq_true_eq]at h
    repeat refine c_r ?_
    refine rg1 h8 ?_
    repeat refine c_r ?_
    exact⟨m - 1,by omega,rfl,rfl,i+1,by omega,by simp only[go_sem];push_cast;rfl,(vq1 h7),(vq1 h6),(vq1 h3),by rw[hinv,hd,if_pos h]⟩
  ·intro hge
   simp only[decide_eq_false_iff_not]at hge
   repeat (first|refine c_r ?_| (refine zcM (by rfl) ?_;intro gd K hgd hK;simp (disch:=first|omega|assumption|rfl) only[go_sem,h3];refine hK _ _ ?_;clear hK hgd;clear K gd))
   refine rt0 Tryz.ntmps96 ?_
   refine⟨?_,rfl⟩
   rw[hinv,List.drop_of_length_le (by omega)];rfl
theorem zig(a b:Nm)(h:a=[]∨b=[]):cmpR a b=cmpI a.length b.length:=by
 rw[cmpR_nil a b h];unfold sgn cmpI
 by_cases h1:(a.length:Int)<b.length
 ·rw[if_pos (by omega),if_pos h1]
 ·by_cases h2:(b.length:Int)<a.length
  ·rw[if_neg (by omega),if_pos (by omega),if_neg h1,if_pos h2]
  ·rw[if_neg (by omega),if_neg (by omega),if_neg h1,if_neg h2]
theorem zdZ(w:World)(a b:Value)(xs ys:Nm)(ha:Row w a (xs.map vs))(hb:Row w b (ys.map vs))(hx:LB xs)(hy:LB ys)(hxl:xs.length≤9000000000000000000)(hyl:ys.length≤9000000000000000000):
  Fn Tryz.prog 99 #[a,b] w (fun v w'=>v=vi (cmpN (zao xs) (zao ys))∧Ext w w'):=by
 obtain⟨a,ca,rfl,hca,hla⟩:=ha
 obtain⟨b,cb,rfl,hcb,hlb⟩:=hb
 simp only[List.length_map]at*
 obtain⟨k,hk⟩:∃k,min xs.length ys.length=k:=⟨_,rfl⟩
 have hmin:min (xs.length:Int) (ys.length:Int)=(k:Int):=by omega
 refine enter Tryz.func99 Tryz.ntmps99 rfl rfl ?_
 repeat refine c_r ?_
 refine rg0 ?_
 repeat refine c_r ?_
 refine rq ?_;intro gd K hgd hK
 try simp only[go_sem]
 refine zhL (k:= .i64) (a:=xs.length) (b:=ys.length) (vq0) (vq0) ?_
 rw[hmin]
 try simp only[go_sem]
 refine hK _ _ ?_;clear hK hgd;clear K;try clear gd
 repeat refine c_r ?_
 refine zas (fun m σ ds v=>ds=[]∧∃i:Nat,i+m=k∧σ 12=vi i∧σ 11=vi k∧σ 0= .slice a xs.length ca∧σ 1= .slice b ys.length cb∧Ext w v∧cmpN (zao xs) (zao ys)=cmpR ((zao xs).reverse.drop i) ((zao ys).reverse.drop i)) k ?_ ?_
 ·refine⟨rfl,0,by omega,?_,?_,?_,?_,Keep.refl _ _,by simp[cmpN]⟩
  ·simp only[go_sem];rfl
  ·simp only[go_sem]
  ·simp only[go_sem]
  ·simp only[go_sem]
 ·rintro m σ ds v ⟨rfl,i,him,h12,h11,h0,h1,hE,hinv⟩
  repeat refine c_r ?_
  refine rq ?_;intro gd K hgd hK;simp (disch:=first|omega|assumption|rfl) only[go_sem,h12,h11];refine hK _ _ ?_;clear hK hgd;clear K gd
  repeat refine c_r ?_
  refine wc0 ?_ ?_
  ·intro hlt
   simp only[decide_eq_true_eq]at hlt
   have hsa:a.isSome=true:=zae (hla (xs.length - 1 - i) (by omega))
   have hsb:b.isSome=true:=zae (hlb (ys.length - 1 - i) (by omega))
   have e1:((xs.length:Int) - 1 - i).toNat=xs.length - 1 - i:=by omega
   have e2:((ys.length:Int) - 1 - i).toNat=ys.length - 1 - i:=by omega
   repeat refine c_r ?_
   refine rg1 h12 ?_
   repeat refine c_r ?_
   refine zaK (fun _=>false) [(0,true),(1,true),(2,true),(3,true),(4,true),(5,true),(6,true),(7,true),(8,true),(9,true),(10,true),(11,true),(12,true),(13,true),(14,true),(15,true),(16,false),(17,true)] NoS mixed (by kernel_rfl) ?_;intro gd K x hgd hx hxe hK;clear hxe
   have hla':=fun j h=>zaa (hE.trans ‹Keep NoS v x›) (hla j h)
   have hlb':=fun j h=>zaa (hE.trans ‹Keep NoS v x›) (hlb j h)
   simp (disch:=first|omega|assumption|rfl) only[go_sem,h12,h0,h1,e1,e2,hla',hlb',List.getElem_map]
   refine Fn.mono (zfU _ _ _ (LB.get ‹LB xs› _) (LB.get ‹LB ys› _)) ?_
   rintro _ x1 ⟨rfl,hx1⟩
   refine⟨.inr hx1,?_⟩
   simp (disch:=first|omega|assumption|rfl) only[go_sem]
   refine hK _ _ ?_;clear hK hgd;clear K;try clear gd
   have hst:=zif (a:=(zao xs).reverse) (b:=(zao ys).reverse) (i:=i) (by simp[zaX];omega) (by simp[zaX];omega)
   have g1:(zao xs).reverse[i]'(by simp[zaX];omega)=zaS (xs[xs.length - 1 - i]'(by omega)):=by
    rw[List.getElem_reverse];simp[zao]
   have g2:(zao ys).reverse[i]'(by simp[zaX];omega)=zaS (ys[ys.length - 1 - i]'(by omega)):=by
    rw[List.getElem_reverse];simp[zao]
   rw[g1,g2]at hst
   repeat refine c_r ?_
   refine rg0 ?_
   repeat refine c_r ?_
   refine wc0 ?_ ?_
   ·intro hne
    simp only[Bool.not_eq_true',decide_eq_false_iff_not]at hne
    repeat (first|refine c_r ?_|refine rg0 ?_)
    refine rt0 Tryz.ntmps99 ?_
    refine⟨by rw[hinv,hst,if_neg hne],(hE.trans ‹Keep NoS v x›).trans hx1⟩
   ·intro heq
    simp only[Bool.not_eq_false',decide_eq_true_eq]at heq
    repeat refine c_r ?_
    refine rg1 h12 ?_
    repeat refine c_r ?_
    exact⟨m - 1,by omega,rfl,i+1,by omega,by simp only[go_sem];push_cast;rfl,by simp only[go_sem,h11],(vq1 h0),(vq1 h1),(hE.trans ‹Keep NoS v x›).trans hx1,by rw[hinv,hst,if_pos heq]⟩
  ·intro hge
   simp only[decide_eq_false_iff_not]at hge
   repeat refine c_r ?_
   refine rq ?_;intro gd K hgd hK
   try simp (disch:=first|omega|assumption|rfl) only[go_sem,h0,h1]
   refine Fn.mono (N_int.Compare_ok _ _ _) ?_
   rintro _ w2 ⟨rfl,rfl⟩
   try simp only[go_sem]
   refine hK _ _ ?_;clear hK hgd;clear K;try clear gd
   repeat refine c_r ?_
   refine rt0 Tryz.ntmps99 ?_
   refine⟨?_,hE⟩
   have l1:((zao xs).reverse.drop i).length=xs.length - i:=by simp[zaX]
   have l2:((zao ys).reverse.drop i).length=ys.length - i:=by simp[zaX]
   rw[hinv,zig _ _ (by
    rcases Nat.lt_or_ge i xs.length with h|h
    ·exact .inr (List.length_eq_zero_iff.1 (by omega))
    ·exact .inl (List.length_eq_zero_iff.1 (by omega))),l1,l2]
   unfold cmpI
   by_cases h1':(xs.length:Int)<ys.length
   ·rw[if_pos h1',if_pos (by omega)]
   ·by_cases h2':(ys.length:Int)<xs.length
    ·rw[if_neg h1',if_pos h2',if_neg (by omega),if_pos (by omega)]
    ·rw[if_neg h1',if_neg h2',if_neg (by omega),if_neg (by omega)]
end Go.Proofs.YtanmnkbccfcagaaGreatDoor
namespace Go.Proofs.YtanmnkbccfcagaaGreatDoor.C_cn
open Go Go.Proofs.YtanmnkbccfcagaaGreatDoor
set_option maxRecDepth 10000
def RowR{α:Type}(Rl:World→α→Value→Prop)(w:World)(v:Value)(xs:List α):Prop:=∃us,Row w v us∧us.length=xs.length∧∀i (h:i<us.length) (h':i<xs.length),Rl w xs[i] us[i]
theorem CompareFunc_ok{α:Type}{Rl:World→α→Value→Prop}(hR:∀w x a v,Ext w x→Rl w a v→Rl x a v){cf:α→α→Int}{U:α→Prop}{g:FuncId}(hcal:zad Tryz.prog g=true){w:World}
  (hcall:∀A x y u v,Ext w A→U x→U y→Rl A x u→Rl A y v→Fn Tryz.prog g #[u,v] A (fun r B=>r=vi (cf x y)∧Ext A B)) {a b:Value} {xs ys:List α} (ha:RowR Rl w a xs) (hb:RowR Rl w b ys) (hUx:∀x∈xs,U x) (hUy:∀y∈ys,U y) (hxl:xs.length≤1000000000000000) (hyl:ys.length≤1000000000000000):
  Fn Tryz.prog 157 #[a,b,.func (.func g) #[] #[]] w (fun v w'=>v=vi (lexC cf xs ys)∧Ext w w'):=by
 obtain⟨us,⟨a,ca,rfl,hca,hla⟩,hul,hu⟩:=ha
 obtain⟨vs',⟨b,cb,rfl,hcb,hlb⟩,hvl,hv⟩:=hb
 refine enter Tryz.func157 Tryz.ntmps157 rfl rfl ?_
 repeat refine c_r ?_
 refine rg0 ?_
 repeat refine c_r ?_
 refine rg0 ?_
 repeat refine c_r ?_
 refine zas (fun m σ ds v=>ds=[]∧∃i:Nat,i+m=us.length∧i≤vs'.length∧σ 13=vi i∧σ 12=vi us.length∧σ 11= .slice a us.length ca∧σ 0= .slice a us.length ca∧σ 1= .slice b vs'.length cb∧σ 2= .func (.func g) #[] #[]∧Ext w v∧lexC cf xs ys=lexC cf (xs.drop i) (ys.drop i)) us.length ?_ ?_
 ·refine⟨rfl,0,by omega,by omega,?_,?_,?_,?_,?_,?_,Keep.refl _ _,by simp⟩
  ·simp only[go_sem];rfl
  ·simp only[go_sem]
  ·simp only[go_sem]
  ·simp only[go_sem]
  ·simp only[go_sem]
  ·simp only[go_sem]
 ·rintro m σ ds v ⟨rfl,i,him,hiv,h13,h12,h11,h0,h1,h2,hE,hinv⟩
  repeat refine c_r ?_
  refine rg2 h13 h12 ?_
  repeat refine c_r ?_
  refine wc0 ?_ ?_
  ·intro hlt
   simp only[decide_eq_true_eq]at hlt
   have hsa:a.isSome=true:=zae (hla i (by omega))
   have hla':=fun j h=>zaa hE (hla j h)
   have hlb':=fun j h=>zaa hE (hlb j h)
   repeat refine c_r ?_
   refine rq ?_;intro gd K hgd hK;simp (disch:=first|omega|assumption|rfl) only[go_sem,h13,h11,hla'];refine hK _ _ ?_;clear hK hgd;clear K gd
   repeat refine c_r ?_
   refine rg1 h1 ?_
   repeat refine c_r ?_
   refine wc0 ?_ ?_
   ·intro hge
    simp only[decide_eq_true_eq]at hge
    repeat (first|refine c_r ?_|refine rg0 ?_)
    refine rt0 Tryz.ntmps157 ?_
    refine⟨?_,hE⟩
    have e:ys.drop i=[]:=List.drop_of_length_le (by omega)
    rw[hinv,zb8 (.inr e),e]
    have l1:(xs.drop i).length=xs.length - i:=by simp
    unfold cmpI
    rw[l1,List.length_nil,if_neg (by omega),if_pos (by omega)]
   ·intro hlt2
    simp only[decide_eq_false_iff_not]at hlt2
    have hsb:b.isSome=true:=zae (hlb i (by omega))
    have hst:=zdF (cf:=cf) (a:=xs) (b:=ys) (i:=i) (by omega) (by omega)
    repeat refine c_r ?_
    refine rg2 h1 hlb' ?_
    repeat refine c_r ?_
    refine rq ?_;intro gd K hgd hK
    try simp (disch:=first|omega|assumption|rfl) only[go_sem,h2]
    refine zcu hcal (Fn.mono (hcall v xs[i] ys[i] _ _ hE (hUx _ (List.getElem_mem _)) (hUy _ (List.getElem_mem _)) (hR _ _ _ _ hE (hu i (by omega) (by omega))) (hR _ _ _ _ hE (hv i (by omega) (by omega)))) ?_)
    rintro _ w1 ⟨rfl,hE1⟩
    try simp only[go_sem]
    refine hK _ _ ?_;clear hK hgd;clear K;try clear gd
    repeat refine c_r ?_
    refine rg0 ?_
    repeat refine c_r ?_
    refine wc0 ?_ ?_
    ·intro hne
     simp only[Bool.not_eq_true',decide_eq_false_iff_not]at hne
     repeat (first|refine c_r ?_|refine rg0 ?_)
     refine rt0 Tryz.ntmps157 ?_
     exact⟨by rw[hinv,hst,if_neg hne],hE.trans hE1⟩
    ·intro heq
     simp only[Bool.not_eq_false',decide_eq_true_eq]at heq
     repeat refine c_r ?_
     refine rg1 h13 ?_
     repeat refine c_r ?_
     exact⟨m - 1,by omega,rfl,i+1,by omega,by omega,by simp only[go_sem];push_cast;rfl,(vq1 h12),by simp only[go_sem,h11],(vq1 h0),(vq1 h1),(vq1 h2),hE.trans hE1,by rw[hinv,hst,if_pos heq]⟩
  ·intro hge
   simp only[decide_eq_false_iff_not]at hge
   have e:xs.drop i=[]:=List.drop_of_length_le (by omega)
   have l2:(ys.drop i).length=ys.length - i:=by simp
   have hval:lexC cf xs ys=cmpI 0 (ys.length - i:Nat):=by rw[hinv,zb8 (.inl e),e,l2];rfl
   repeat refine c_r ?_
   refine rg2 h0 h1 ?_
   repeat refine c_r ?_
   refine wc0 ?_ ?_
   ·intro h
    simp only[decide_eq_true_eq]at h
    repeat (first|refine c_r ?_|refine rg0 ?_)
    refine rt0 Tryz.ntmps157 ?_
    exact⟨by rw[hval,cmpI,if_pos (by omega)],hE⟩
   ·intro h
    simp only[decide_eq_false_iff_not]at h
    repeat (first|refine c_r ?_|refine rg0 ?_)
    refine rt0 Tryz.ntmps157 ?_
    exact⟨by rw[hval,cmpI,if_neg (by omega),if_neg (by omega)],hE⟩
end Go.Proofs.YtanmnkbccfcagaaGreatDoor.C_cn
namespace Go.Proofs.YtanmnkbccfcagaaGreatDoor.C_cu
open Go Go.Proofs.YtanmnkbccfcagaaGreatDoor
set_option maxRecDepth 10000
def RowR{α:Type}(Rl:World→α→Value→Prop)(w:World)(v:Value)(xs:List α):Prop:=∃us,Row w v us∧us.length=xs.length∧∀i (h:i<us.length) (h':i<xs.length),Rl w xs[i] us[i]
theorem CompareFunc_ok{α:Type}{Rl:World→α→Value→Prop}(hR:∀w x a v,Ext w x→Rl w a v→Rl x a v){cf:α→α→Int}{U:α→Prop}{g:FuncId}(hcal:zad Tryz.prog g=true){w:World}
  (hcall:∀A x y u v,Ext w A→U x→U y→Rl A x u→Rl A y v→Fn Tryz.prog g #[u,v] A (fun r B=>r=vi (cf x y)∧Ext A B)) {a b:Value} {xs ys:List α} (ha:RowR Rl w a xs) (hb:RowR Rl w b ys) (hUx:∀x∈xs,U x) (hUy:∀y∈ys,U y) (hxl:xs.length≤1000000000000000) (hyl:ys.length≤1000000000000000):
  Fn Tryz.prog 159 #[a,b,.func (.func g) #[] #[]] w (fun v w'=>v=vi (lexC cf xs ys)∧Ext w w'):=by
 obtain⟨us,⟨a,ca,rfl,hca,hla⟩,hul,hu⟩:=ha
 obtain⟨vs',⟨b,cb,rfl,hcb,hlb⟩,hvl,hv⟩:=hb
 refine enter Tryz.func159 Tryz.ntmps159 rfl rfl ?_
 repeat refine c_r ?_
 refine rg0 ?_
 repeat refine c_r ?_
 refine rg0 ?_
 repeat refine c_r ?_
 refine zas (fun m σ ds v=>ds=[]∧∃i:Nat,i+m=us.length∧i≤vs'.length∧σ 13=vi i∧σ 12=vi us.length∧σ 11= .slice a us.length ca∧σ 0= .slice a us.length ca∧σ 1= .slice b vs'.length cb∧σ 2= .func (.func g) #[] #[]∧Ext w v∧lexC cf xs ys=lexC cf (xs.drop i) (ys.drop i)) us.length ?_ ?_
 ·refine⟨rfl,0,by omega,by omega,?_,?_,?_,?_,?_,?_,Keep.refl _ _,by simp⟩
  ·simp only[go_sem];rfl
  ·simp only[go_sem]
  ·simp only[go_sem]
  ·simp only[go_sem]
  ·simp only[go_sem]
  ·simp only[go_sem]
 ·rintro m σ ds v ⟨rfl,i,him,hiv,h13,h12,h11,h0,h1,h2,hE,hinv⟩
  repeat refine c_r ?_
  refine rg2 h13 h12 ?_
  repeat refine c_r ?_
  refine wc0 ?_ ?_
  ·intro hlt
   simp only[decide_eq_true_eq]at hlt
   have hsa:a.isSome=true:=zae (hla i (by omega))
   have hla':=fun j h=>zaa hE (hla j h)
   have hlb':=fun j h=>zaa hE (hlb j h)
   repeat refine c_r ?_
   refine rq ?_;intro gd K hgd hK;simp (disch:=first|omega|assumption|rfl) only[go_sem,h13,h11,hla'];refine hK _ _ ?_;clear hK hgd;clear K gd
   repeat refine c_r ?_
   refine rg1 h1 ?_
   repeat refine c_r ?_
   refine wc0 ?_ ?_
   ·intro hge
    simp only[decide_eq_true_eq]at hge
    repeat (first|refine c_r ?_|refine rg0 ?_)
    refine rt0 Tryz.ntmps159 ?_
    refine⟨?_,hE⟩
    have e:ys.drop i=[]:=List.drop_of_length_le (by omega)
    rw[hinv,zb8 (.inr e),e]
    have l1:(xs.drop i).length=xs.length - i:=by simp
    unfold cmpI
    rw[l1,List.length_nil,if_neg (by omega),if_pos (by omega)]
   ·intro hlt2
    simp only[decide_eq_false_iff_not]at hlt2
    have hsb:b.isSome=true:=zae (hlb i (by omega))
    have hst:=zdF (cf:=cf) (a:=xs) (b:=ys) (i:=i) (by omega) (by omega)
    repeat refine c_r ?_
    refine rg2 h1 hlb' ?_
    repeat refine c_r ?_
    refine rq ?_;intro gd K hgd hK
    try simp (disch:=first|omega|assumption|rfl) only[go_sem,h2]
    refine zcu hcal (Fn.mono (hcall v xs[i] ys[i] _ _ hE (hUx _ (List.getElem_mem _)) (hUy _ (List.getElem_mem _)) (hR _ _ _ _ hE (hu i (by omega) (by omega))) (hR _ _ _ _ hE (hv i (by omega) (by omega)))) ?_)
    rintro _ w1 ⟨rfl,hE1⟩
    try simp only[go_sem]
    refine hK _ _ ?_;clear hK hgd;clear K;try clear gd
    repeat refine c_r ?_
    refine rg0 ?_
    repeat refine c_r ?_
    refine wc0 ?_ ?_
    ·intro hne
     simp only[Bool.not_eq_true',decide_eq_false_iff_not]at hne
     repeat (first|refine c_r ?_|refine rg0 ?_)
     refine rt0 Tryz.ntmps159 ?_
     exact⟨by rw[hinv,hst,if_neg hne],hE.trans hE1⟩
    ·intro heq
     simp only[Bool.not_eq_false',decide_eq_true_eq]at heq
     repeat refine c_r ?_
     refine rg1 h13 ?_
     repeat refine c_r ?_
     exact⟨m - 1,by omega,rfl,i+1,by omega,by omega,by simp only[go_sem];push_cast;rfl,(vq1 h12),by simp only[go_sem,h11],(vq1 h0),(vq1 h1),(vq1 h2),hE.trans hE1,by rw[hinv,hst,if_pos heq]⟩
  ·intro hge
   simp only[decide_eq_false_iff_not]at hge
   have e:xs.drop i=[]:=List.drop_of_length_le (by omega)
   have l2:(ys.drop i).length=ys.length - i:=by simp
   have hval:lexC cf xs ys=cmpI 0 (ys.length - i:Nat):=by rw[hinv,zb8 (.inl e),e,l2];rfl
   repeat refine c_r ?_
   refine rg2 h0 h1 ?_
   repeat refine c_r ?_
   refine wc0 ?_ ?_
   ·intro h
    simp only[decide_eq_true_eq]at h
    repeat (first|refine c_r ?_|refine rg0 ?_)
    refine rt0 Tryz.ntmps159 ?_
    exact⟨by rw[hval,cmpI,if_pos (by omega)],hE⟩
   ·intro h
    simp only[decide_eq_false_iff_not]at h
    repeat (first|refine c_r ?_|refine rg0 ?_)
    refine rt0 Tryz.ntmps159 ?_
    exact⟨by rw[hval,cmpI,if_neg (by omega),if_neg (by omega)],hE⟩
end Go.Proofs.YtanmnkbccfcagaaGreatDoor.C_cu
namespace Go.Proofs.YtanmnkbccfcagaaGreatDoor.C_ct
open Go Go.Proofs.YtanmnkbccfcagaaGreatDoor
set_option maxRecDepth 10000
def RowR{α:Type}(Rl:World→α→Value→Prop)(w:World)(v:Value)(xs:List α):Prop:=∃us,Row w v us∧us.length=xs.length∧∀i (h:i<us.length) (h':i<xs.length),Rl w xs[i] us[i]
theorem CompareFunc_ok{α:Type}{Rl:World→α→Value→Prop}(hR:∀w x a v,Ext w x→Rl w a v→Rl x a v){cf:α→α→Int}{U:α→Prop}{g:FuncId}(hcal:zad Tryz.prog g=true){w:World}
  (hcall:∀A x y u v,Ext w A→U x→U y→Rl A x u→Rl A y v→Fn Tryz.prog g #[u,v] A (fun r B=>r=vi (cf x y)∧Ext A B)) {a b:Value} {xs ys:List α} (ha:RowR Rl w a xs) (hb:RowR Rl w b ys) (hUx:∀x∈xs,U x) (hUy:∀y∈ys,U y) (hxl:xs.length≤1000000000000000) (hyl:ys.length≤1000000000000000):
  Fn Tryz.prog 161 #[a,b,.func (.func g) #[] #[]] w (fun v w'=>v=vi (lexC cf xs ys)∧Ext w w'):=by
 obtain⟨us,⟨a,ca,rfl,hca,hla⟩,hul,hu⟩:=ha
 obtain⟨vs',⟨b,cb,rfl,hcb,hlb⟩,hvl,hv⟩:=hb
 refine enter Tryz.func161 Tryz.ntmps161 rfl rfl ?_
 repeat refine c_r ?_
 refine rg0 ?_
 repeat refine c_r ?_
 refine rg0 ?_
 repeat refine c_r ?_
 refine zas (fun m σ ds v=>ds=[]∧∃i:Nat,i+m=us.length∧i≤vs'.length∧σ 13=vi i∧σ 12=vi us.length∧σ 11= .slice a us.length ca∧σ 0= .slice a us.length ca∧σ 1= .slice b vs'.length cb∧σ 2= .func (.func g) #[] #[]∧Ext w v∧lexC cf xs ys=lexC cf (xs.drop i) (ys.drop i)) us.length ?_ ?_
 ·refine⟨rfl,0,by omega,by omega,?_,?_,?_,?_,?_,?_,Keep.refl _ _,by simp⟩
  ·simp only[go_sem];rfl
  ·simp only[go_sem]
  ·simp only[go_sem]
  ·simp only[go_sem]
  ·simp only[go_sem]
  ·simp only[go_sem]
 ·rintro m σ ds v ⟨rfl,i,him,hiv,h13,h12,h11,h0,h1,h2,hE,hinv⟩
  repeat refine c_r ?_
  refine rg2 h13 h12 ?_
  repeat refine c_r ?_
  refine wc0 ?_ ?_
  ·intro hlt
   simp only[decide_eq_true_eq]at hlt
   have hsa:a.isSome=true:=zae (hla i (by omega))
   have hla':=fun j h=>zaa hE (hla j h)
   have hlb':=fun j h=>zaa hE (hlb j h)
   repeat refine c_r ?_
   refine rq ?_;intro gd K hgd hK;simp (disch:=first|omega|assumption|rfl) only[go_sem,h13,h11,hla'];refine hK _ _ ?_;clear hK hgd;clear K gd
   repeat refine c_r ?_
   refine rg1 h1 ?_
   repeat refine c_r ?_
   refine wc0 ?_ ?_
   ·intro hge
    simp only[decide_eq_true_eq]at hge
    repeat (first|refine c_r ?_|refine rg0 ?_)
    refine rt0 Tryz.ntmps161 ?_
    refine⟨?_,hE⟩
    have e:ys.drop i=[]:=List.drop_of_length_le (by omega)
    rw[hinv,zb8 (.inr e),e]
    have l1:(xs.drop i).length=xs.length - i:=by simp
    unfold cmpI
    rw[l1,List.length_nil,if_neg (by omega),if_pos (by omega)]
   ·intro hlt2
    simp only[decide_eq_false_iff_not]at hlt2
    have hsb:b.isSome=true:=zae (hlb i (by omega))
    have hst:=zdF (cf:=cf) (a:=xs) (b:=ys) (i:=i) (by omega) (by omega)
    repeat refine c_r ?_
    refine rg2 h1 hlb' ?_
    repeat refine c_r ?_
    refine rq ?_;intro gd K hgd hK
    try simp (disch:=first|omega|assumption|rfl) only[go_sem,h2]
    refine zcu hcal (Fn.mono (hcall v xs[i] ys[i] _ _ hE (hUx _ (List.getElem_mem _)) (hUy _ (List.getElem_mem _)) (hR _ _ _ _ hE (hu i (by omega) (by omega))) (hR _ _ _ _ hE (hv i (by omega) (by omega)))) ?_)
    rintro _ w1 ⟨rfl,hE1⟩
    try simp only[go_sem]
    refine hK _ _ ?_;clear hK hgd;clear K;try clear gd
    repeat refine c_r ?_
    refine rg0 ?_
    repeat refine c_r ?_
    refine wc0 ?_ ?_
    ·intro hne
     simp only[Bool.not_eq_true',decide_eq_false_iff_not]at hne
     repeat (first|refine c_r ?_|refine rg0 ?_)
     refine rt0 Tryz.ntmps161 ?_
     exact⟨by rw[hinv,hst,if_neg hne],hE.trans hE1⟩
    ·intro heq
     simp only[Bool.not_eq_false',decide_eq_true_eq]at heq
     repeat refine c_r ?_
     refine rg1 h13 ?_
     repeat refine c_r ?_
     exact⟨m - 1,by omega,rfl,i+1,by omega,by omega,by simp only[go_sem];push_cast;rfl,(vq1 h12),by simp only[go_sem,h11],(vq1 h0),(vq1 h1),(vq1 h2),hE.trans hE1,by rw[hinv,hst,if_pos heq]⟩
  ·intro hge
   simp only[decide_eq_false_iff_not]at hge
   have e:xs.drop i=[]:=List.drop_of_length_le (by omega)
   have l2:(ys.drop i).length=ys.length - i:=by simp
   have hval:lexC cf xs ys=cmpI 0 (ys.length - i:Nat):=by rw[hinv,zb8 (.inl e),e,l2];rfl
   repeat refine c_r ?_
   refine rg2 h0 h1 ?_
   repeat refine c_r ?_
   refine wc0 ?_ ?_
   ·intro h
    simp only[decide_eq_true_eq]at h
    repeat (first|refine c_r ?_|refine rg0 ?_)
    refine rt0 Tryz.ntmps161 ?_
    exact⟨by rw[hval,cmpI,if_pos (by omega)],hE⟩
   ·intro h
    simp only[decide_eq_false_iff_not]at h
    repeat (first|refine c_r ?_|refine rg0 ?_)
    refine rt0 Tryz.ntmps161 ?_
    exact⟨by rw[hval,cmpI,if_neg (by omega),if_neg (by omega)],hE⟩
end Go.Proofs.YtanmnkbccfcagaaGreatDoor.C_ct
namespace Go.Proofs.YtanmnkbccfcagaaGreatDoor.N_uint32
open Go Go.Proofs.YtanmnkbccfcagaaGreatDoor
set_option maxRecDepth 10000
theorem zcE(w:World)(a:Int):Fn Tryz.prog 160 #[.int .u32 a] w (fun v w'=>v= .bool false∧w'=w):=by
 refine enter Tryz.func160 Tryz.ntmps160 rfl rfl ?_
 repeat (first|refine c_r ?_| (refine zcM (by rfl) ?_;intro gd K hgd hK;simp (disch:=first|omega|assumption|rfl) only[go_sem,decide_true];refine hK _ _ ?_;clear hK hgd;clear K gd))
 refine rt0 Tryz.ntmps160 ?_
 exact⟨rfl,rfl⟩
theorem Compare_ok(w:World)(a b:Int):Fn Tryz.prog 101 #[.int .u32 a,.int .u32 b] w (fun v w'=>v=vi (cmpI a b)∧w'=w):=by
 refine enter Tryz.func101 Tryz.ntmps101 rfl rfl ?_
 repeat refine c_r ?_
 refine rg0 ?_
 repeat refine c_r ?_
 refine rq ?_;intro gd K hgd hK
 try simp only[go_sem]
 refine Fn.mono (zcE _ _) ?_
 rintro _ _ ⟨rfl,rfl⟩
 try simp only[go_sem]
 refine hK _ _ ?_;clear hK hgd;clear K;try clear gd
 repeat refine c_r ?_
 refine rq ?_;intro gd K hgd hK
 try simp only[go_sem]
 refine Fn.mono (zcE _ _) ?_
 rintro _ _ ⟨rfl,rfl⟩
 try simp only[go_sem]
 refine hK _ _ ?_;clear hK hgd;clear K;try clear gd
 repeat refine c_r ?_
 refine rg0 ?_
 repeat refine c_r ?_
 refine wc0 ?_ ?_
 ·intro h;cases h
 intro _
 repeat refine c_r ?_
 refine rg0 ?_
 repeat refine c_r ?_
 refine wc0 ?_ ?_
 ·intro h;cases h
 intro _
 repeat refine c_r ?_
 refine rg0 ?_
 repeat refine c_r ?_
 refine wc0 ?_ ?_
 ·intro h
  simp only[decide_eq_true_eq]at h
  repeat (first|refine c_r ?_|refine rg0 ?_)
  refine rt0 Tryz.ntmps101 ?_
  exact⟨by rw[cmpI,if_pos h],rfl⟩
 intro h
 simp only[decide_eq_false_iff_not]at h
 repeat (first|refine c_r ?_|refine rg0 ?_)
 refine wc0 ?_ ?_
 ·intro h2
  simp only[decide_eq_true_eq]at h2
  repeat (first|refine c_r ?_|refine rg0 ?_)
  refine rt0 Tryz.ntmps101 ?_
  exact⟨by rw[cmpI,if_neg h,if_pos h2],rfl⟩
 intro h2
 simp only[decide_eq_false_iff_not]at h2
 repeat (first|refine c_r ?_|refine rg0 ?_)
 refine rt0 Tryz.ntmps101 ?_
 exact⟨by rw[cmpI,if_neg h,if_neg h2],rfl⟩
end Go.Proofs.YtanmnkbccfcagaaGreatDoor.N_uint32
namespace Go.Proofs.YtanmnkbccfcagaaGreatDoor
open Go
set_option maxRecDepth 10000
theorem zcD{P:Program}{w:World}:∀(l:List UInt8) (a:Addr) (acc:ByteArray),(∀j (h:j<l.length),w.cell? (a.add j)=some (zaj l[j]))→(Extern.Bytes.loadBytes a l.length acc).run P w= .ok ⟨acc.data++l.toArray⟩ w
 | [],a,acc,_=>by simp[Extern.Bytes.loadBytes,Sem.run]
 |c::l,a,acc,h=>by
  have h0:=h 0 (by simp)
  have ha0:a.add 0=a:=by simp[Addr.add]
  rw[ha0]at h0
  have ih:=zcD (P:=P) l (a.add 1) (acc.push c) (fun j hj=>by
   have:=h (j+1) (by simp;omega)
   rw[zb3,Nat.add_comm 1 j]
   simpa using this)
  have e:(load a).run P w= .ok (zaj c) w:=by simp[load,Sem.run,h0]
  simp only[List.length_cons,Extern.Bytes.loadBytes,Sem.run_bind,e,Result.andThen_ok]
  show(Extern.Bytes.loadBytes (a.add 1) l.length (acc.push (((c.toNat:Nat):Int).toNat.toUInt8))).run P w=_
  have e2:((c.toNat:Nat):Int).toNat.toUInt8=c:=by simp
  rw[e2,ih]
  simp[ByteArray.push]
theorem zdR{P:Program}{w:World}{v:Value}{l:List UInt8}(h:Row w v (l.map zaj)):(Extern.Bytes.bytesOf v).run P w= .ok ⟨l.toArray⟩ w:=by
 obtain⟨a,c,rfl,_,hl⟩:=h
 simp only[List.length_map]at hl ⊢
 cases a with
 |none=>
  cases l with
  |nil=>rfl
  |cons c l=>have:=hl 0 (by simp);simp[zaf,adr]at this
 |some a=>
  have:=zcD (P:=P) (w:=w) l a .empty (fun j hj=>by
   have:=hl j hj
   simpa [zaf,adr] using this)
  simpa [Extern.Bytes.bytesOf] using this
theorem zfX(w:World)(a b:Value)(xs ys:List UInt8)(ha:Row w a (xs.map zaj))(hb:Row w b (ys.map zaj)):Fn Tryz.prog 104 #[a,b] w (fun v w'=>v=vi (cmpL xs ys)∧w'=w):=by
 have h1:=zdR (P:=Tryz.prog) ha
 have h2:=zdR (P:=Tryz.prog) hb
 refine enter Tryz.func104 Tryz.ntmps104 rfl rfl ?_
 repeat refine c_r ?_
 refine rg0 ?_
 repeat refine c_r ?_
 refine rq ?_;intro gd K hgd hK
 try simp only[go_sem]
 refine⟨vi (cmpL xs ys),w,?_,?_⟩
 ·rw[run_callFunc_extern Tryz.func163 (by kernel_rfl) (by kernel_rfl) (by kernel_rfl) (e:=Extern.BytealgCompare.compare) (by kernel_rfl)]
  have:(Extern.BytealgCompare.compare #[a,b]).run Tryz.prog w= .ok (vi (cmpL xs ys)) w:=by
   show(do pure (goInt (Extern.BytealgCompare.cmp (←Extern.Bytes.bytesOf a) (←Extern.Bytes.bytesOf b))):Sem Value).run Tryz.prog w=_
   simp only[Sem.run_bind,h1,h2,Result.andThen_ok,Sem.run_pure]
   rw[Lib.cmp_eq]
   rfl
  rw[this];rfl
 try simp only[go_sem]
 refine hK _ _ ?_;clear hK hgd;clear K;try clear gd
 repeat refine c_r ?_
 refine rt0 Tryz.ntmps104 ?_
 exact⟨rfl,rfl⟩
abbrev v32(n:Int):Value:= .int .u32 n
structure DatL where
 ty:Int
 names:List Nm
 nums:List Int
 texts:List Lab
 raw:List UInt8
structure RecL where
 owner:Nm
 ttl:Int
 dat:DatL
def zfg(a b:Nm):Int:=cmpN (zao a) (zao b)
def cmpD(a b:DatL):Int:=orI [cmpI a.ty b.ty,lexC zfg a.names b.names,lexC cmpI a.nums b.nums,lexC cmpL a.texts b.texts,cmpL a.raw b.raw]
def zau(a b:RecL):Int:=orI [zfg a.owner b.owner,cmpI a.dat.ty b.dat.ty,cmpD a.dat b.dat]
structure DatAt(w:World)(cs:List Value)(d:DatL):Prop where
 ex:∃nm nu tx rw,cs=[vi d.ty,nm,nu,tx,rw]∧NamesAt w nm d.names∧Row w nu (d.nums.map v32)∧Row w tx (d.texts.map vs)∧Row w rw (d.raw.map zaj)
structure RecAt(w:World)(cs:List Value)(r:RecL):Prop where
 ex:∃ow ds,cs=ow::v32 r.ttl::ds∧Row w ow (r.owner.map vs)∧DatAt w ds r.dat
theorem DatAt.ext{w x:World}{cs:List Value}{d:DatL}(h:DatAt w cs d)(hE:Ext w x):DatAt x cs d:=by
 obtain⟨nm,nu,tx,rw,e,h1,h2,h3,h4⟩:=h.ex
 exact⟨nm,nu,tx,rw,e,h1.ext hE,h2.ext hE,h3.ext hE,h4.ext hE⟩
theorem RecAt.ext{w x:World}{cs:List Value}{r:RecL}(h:RecAt w cs r)(hE:Ext w x):RecAt x cs r:=by
 obtain⟨ow,ds,e,h1,h2⟩:=h.ex
 exact⟨ow,ds,e,h1.ext hE,h2.ext hE⟩
structure DatOk(d:DatL):Prop where
 names:∀n∈d.names,LB n∧n.length≤1000000000000000
 nn:d.names.length≤1000000000000000
 nu:d.nums.length≤1000000000000000
 nt:d.texts.length≤1000000000000000
 nv:∀n∈d.nums,0≤n∧n≤4294967295
 nr:d.raw.length≤1000000000000000
structure zcw(r:RecL):Prop where
 lb:LB r.owner
 len:r.owner.length≤1000000000000000
 dat:DatOk r.dat
def valB(x:List UInt8):Nat:=x.foldl (fun n c=>n*256+c.toNat) 0
def zc1(fm:Nat→Lab)(k:Nat)(sep:Lab)(raw:List UInt8):Lab:=zby sep ((zaF k raw).map fun x=>fm (valB x))
theorem zhg(x:List UInt8)(c:UInt8):valB (x++ [c])=valB x*256+c.toNat:=by unfold valB;rw[List.foldl_append];rfl
theorem zgh:∀(x:List UInt8) (n k:Nat),n<256 ^ k→x.foldl (fun n c=>n*256+c.toNat) n<256 ^ (k+x.length)
 | [],n,k,h=>h
 |c::x,n,k,h=>by
  have hc:=c.toNat_lt
  have:=zgh x (n*256+c.toNat) (k+1) (by rw[Nat.pow_succ];omega)
  rw[List.foldl_cons,List.length_cons]
  rw[show k+(x.length+1)=k+1+x.length by omega];exact this
theorem zfu{x:List UInt8}{k:Nat}(h:x.length≤k):valB x<256 ^ k:=by
 have:=zgh x 0 0 (by decide)
 rw[Nat.zero_add]at this
 exact Nat.lt_of_lt_of_le this (Nat.pow_le_pow_right (by decide) h)
theorem b_shl8{P:Program}{t:TypeId}{n:Nat}(h:n<72057594037927936):binV P .shl t (.int .u64 (n:Int)) (.int .u64 8)=some (.int .u64 ((n*256:Nat):Int)):=by
 show some (Value.int .u64 (IntKind.u64.wrap ((n:Int)*2 ^ (min (Int.toNat 8) 64))))=_
 have:(2:Int) ^ (min (Int.toNat 8) 64)=((256:Nat):Int):=by decide
 rw[this,←Int.natCast_mul,zdi (by omega) (by omega)]
theorem b_or8{P:Program}{t:TypeId}{n c:Nat}(h:n<72057594037927936)(hc:c<256):binV P .or t (.int .u64 ((n*256:Nat):Int)) (.int .u64 (c:Int))=some (.int .u64 ((n*256+c:Nat):Int)):=by
 show some (Value.int .u64 (IntKind.u64.wrap ((BitVec.ofInt 64 ((n*256:Nat):Int)|||BitVec.ofInt 64 (c:Int)).toNat:Int)))=_
 have e:(BitVec.ofInt 64 ((n*256:Nat):Int)|||BitVec.ofInt 64 (c:Int)).toNat=n*256+c:=by
  rw[BitVec.toNat_or,BitVec.ofInt_natCast,BitVec.ofInt_natCast,BitVec.toNat_ofNat,BitVec.toNat_ofNat,Nat.mod_eq_of_lt (by omega),Nat.mod_eq_of_lt (by omega)]
  have:=Nat.shiftLeft_add_eq_or_of_lt (i:=8) (b:=c) hc n
  rw[Nat.shiftLeft_eq]at this
  exact this.symm
 rw[e,zdi (by omega) (by omega)]
theorem zco{m:Nat}:∀{l:List Lab},(∀x∈l,x.length≤m)→zar l≤m*l.length
 | [],_=>Nat.zero_le _
 |x::l,h=>by
  have h1:=zco (l:=l) fun y hy=>h y (List.mem_cons_of_mem _ hy)
  have h2:=h x (List.mem_cons_self ..)
  have:zar (x::l)=x.length+zar l:=by simp[zar]
  rw[this,List.length_cons,Nat.mul_succ];omega
theorem ze8{w:World}(hW:WY w){cs:List Value}{d:DatL}(hD:DatAt w cs d){k:Nat}(hk:1≤k)(hk2:k≤2){base:Int}{sep:Lab}{fm:Nat→Lab}(hraw:d.raw.length≤2000)(hs1:1≤sep.length)(hs2:sep.length≤1000)(hfm:∀u,u<65536→(fm u).length≤100)
  (hF:∀v u,WY v→u<65536→Fn Tryz.prog 60 #[.int .u64 (u:Nat),vi base] v (fun r v'=>r=vs (fm u)∧Ext v v')):
  Fn Tryz.prog 150 #[.agg cs.toArray,vi k,vi base,vs sep] w (fun u w'=>u=vs (zc1 fm k sep d.raw)∧Ext w w'):=by
 obtain⟨nm,nu,tx,rw',rfl,_,_,_,hrow⟩:=hD.ex
 obtain⟨ar,cr,hrv,hcr,_⟩:=id hrow
 refine enter Tryz.func150 Tryz.ntmps150 rfl rfl ?_
 repeat refine c_r ?_
 refine rg0 ?_
 repeat refine c_r ?_
 rw[zat]
 refine zdt ?_
 intro w1 hE1 hz1 hA hB
 refine rg0 ?_
 repeat refine c_r ?_
 refine zaI ?_
 intro w2 hE2 hz2 hC
 have hE12:=hE1.trans hE2
 have hA2:=hE2.at hA
 have hB2:=hE2.at hB
 have q4:zaf w2 (some ⟨w.heap.size,4,Option.none⟩)=some rw':=zac hA2 rfl
 rw[hrv]at q4
 rw[hrv]at hrow
 refine rq ?_;intro gd K hgd hK
 try simp (disch:=first|omega|assumption|rfl) only[go_sem,q4,Nat.zero_add]
 refine Fn.mono (Chunk_ok hE12 hrow hk (by omega) (by omega)) ?_
 rintro _ w3 ⟨hE3,cap,rfl,hit⟩
 try simp only[go_sem]
 refine hK _ _ ?_;clear hK hgd;clear K;try clear gd
 repeat refine c_r ?_
 have hE13:=hE12.trans hE3
 have hz3:=hE3.size
 have hC3:=hE3.at hC
 have hcb3:zaf w3 (some ⟨w.heap.size+1,0,Option.none⟩)=some (vi base):=zaa hE3 (zac hB2 rfl)
 obtain⟨xs,hxs0⟩:∃xs,zaF k d.raw=xs:=⟨_,rfl⟩
 have hxl:xs.length≤2001:=by
  rw[←hxs0,zc3]
  exact Nat.le_trans (Nat.div_le_self _ _) (by omega)
 have hxk:∀x∈xs,x.length≤2:=fun x hx=>by
  rw[←hxs0]at hx
  unfold zaF at hx
  obtain⟨i,_,rfl⟩:=List.mem_map.1 hx
  rw[List.length_take];omega
 have hxv:∀x∈xs,valB x<65536:=fun x hx=>zfu (k:=2) (hxk x hx)
 rw[hxs0]at hit
 refine zeF (g:=263) (cap:=cap) (vq0) rfl (hit (fun b=>b=w1.heap.size) (fun b hb=>by omega)) (Keep.refl _ _) (Nat.le_refl _) (fun b hb=>by omega)
  (fun x A args h=>by obtain⟨v,h,_⟩:=h;rw[h];rfl)
  (fun pre A=>Ext w A∧zaf A (some ⟨w.heap.size+1,0,Option.none⟩)=some (vi base)∧∃sv,A.heap[w1.heap.size]? =some (.cells #[sv] 23 (0,0))∧Own (w3.heap.size+2) A 9 sv (pre.map fun x=>vs (fm (valB x))))
  (fun _ _ _=>False) ?_ (fun _ _ _ _ h _=>h.elim) ?_ ?_ ?_ (fun _ _ _ _ _ _ _ h _=>h.elim)
 ·rintro pre A B ⟨h1,hc,sv,h2,h3⟩ hkk
  refine⟨Keep.to_ext h1 rfl (fun b hb=>by unfold two at hb;omega) hkk,?_,sv,(hkk.block _ (Array.getElem?_eq_some_iff.1 h2).1 (by unfold two;omega)).trans h2,h3.keep hkk (fun b hb h=>by have:=(h3.ge hb).1;unfold two at h;omega)⟩
  show B.cell? _=_
  rw[zbL (a:=⟨w.heap.size+1,0,Option.none⟩) (hkk.block _ (zc4 hc) (by unfold two;show¬(w.heap.size+1=_∨w.heap.size+1=_);omega))]
  exact hc
 ·exact⟨hE13,hcb3,_,hC3,Own.nil _ _ _⟩
 ·rintro lp pre x suf A args hxs hszA ⟨hEA,hcb,sv,hb,hown⟩ ⟨v,rfl,hv⟩
  have hpl:pre.length+1≤xs.length:=by
   have:=congrArg List.length hxs
   simp at this;omega
  have hxm:x∈xs:=by rw[hxs];simp
  have hx2:=hxk x hxm
  refine rq ?_;intro gd K hgd hK
  try simp only[go_sem]
  refine hK _ _ ?_;clear hK hgd;clear K;try clear gd
  refine zaq ?_
  refine⟨rfl,KeepB.refl _ _ _,fun Y hY=>?_⟩
  have hbY:=(hY.block _ (Array.getElem?_eq_some_iff.1 hb).1 (by unfold two;omega)).trans hb
  have hEY:Ext w Y:=Keep.to_ext hEA rfl (fun b hb=>by unfold two at hb;omega) hY
  have hcbY:zaf Y (some ⟨w.heap.size+1,0,Option.none⟩)=some (vi base):=by
   show Y.cell? _=_
   rw[zbL (a:=⟨w.heap.size+1,0,Option.none⟩) (hY.block _ (zc4 hcb) (by unfold two;show¬(w.heap.size+1=_∨w.heap.size+1=_);omega))]
   exact hcb
  have hownY:=hown.keep hY (fun b hb h=>by have:=(hown.ge hb).1;unfold two at h;omega)
  have hsY:=hY.size
  obtain⟨av,cv,rfl,hcv,hgv⟩:=hv.ext hEY
  rw[List.length_map]at hcv
  rw[show (x.map zaj).length=x.length from List.length_map ..]
  have v0:valB (x.take 0)=0:=rfl
  refine go trivial ?_
  refine zaA (Q:=fun e σ' ds' v'=>e= .exit 2∧ds'=[]∧σ' 11= .int .u64 (valB x:Nat)∧σ' 9= .pointer (some ⟨w1.heap.size,0,Option.none⟩)∧σ' 6= .pointer (some ⟨w.heap.size+1,0,Option.none⟩)∧Y=v') ?_ ?_
  ·refine zc6 x.length (fun i σ v=>σ 19= .slice av x.length cv∧σ 20=vi x.length∧σ 21=vi i∧σ 11= .int .u64 (valB (x.take i):Nat)∧σ 9= .pointer (some ⟨w1.heap.size,0,Option.none⟩)∧σ 6= .pointer (some ⟨w.heap.size+1,0,Option.none⟩)∧Y=v) ?_ ?_ ?_
   ·exact⟨vr0,vr0,vr0,vr0,vr0,vr0,rfl⟩
   ·rintro i σ v hi p ⟨s19,s20,s21,s11,s9,s6,rfl⟩
    have g:=hgv i (by rw[List.length_map];exact hi)
    rw[List.getElem_map]at g
    obtain⟨c,hc⟩:∃c,x[i]=c:=⟨_,rfl⟩
    rw[hc]at g
    replace g:zaf Y (adr av i)=some (.int .u8 (c.toNat:Int)):=g
    obtain⟨xa,rfl⟩:=Option.isSome_iff_exists.1 (zae g)
    have hc256:=c.toNat_lt
    obtain⟨n,hn⟩:∃n,valB (x.take i)=n:=⟨_,rfl⟩
    have hn2:n<65536:=hn▸zfu (k:=2) (by rw[List.length_take];omega)
    rw[hn]at s11
    have e1:=b_shl8 (P:=Tryz.prog) (t:=114) (n:=n) (by omega)
    have e2:=b_or8 (P:=Tryz.prog) (t:=114) (n:=n) (c:=c.toNat) (by omega) hc256
    have e3:valB (x.take (i+1))=n*256+c.toNat:=by rw[zag hi,hc,zhg,hn]
    have hi0:(0:Int)≤(i:Int):=by omega
    have hi1:(i:Int)<(x.length:Int):=by omega
    have hi2:(i:Int)+1=((i+1:Nat):Int):=by push_cast;rfl
    refine go (an9 s19 s20 s21 s11 s9 s6 p g (an5 hi0 hi1 hi2 e1 e2)) ?_
    exact⟨rfl,(vq1 s19),(vq1 s20),(vq1 hi2),by rw[e3];first| (simp only[go_sem];done)| (simp only[go_sem];rfl),(vq1 s9),(vq1 s6),rfl⟩
   ·rintro σ v p ⟨s19,s20,s21,s11,s9,s6,rfl⟩
    rw[List.take_length]at s11
    refine go (an4 s19 s20 s21 p) ?_
    exact⟨rfl,rfl,(vq1 s11),(vq1 s9),(vq1 s6),rfl⟩
  rintro _ σ1 _ _ ⟨rfl,rfl,s11,s9,s6,rfl⟩
  repeat refine c_r ?_
  have q9:zaf Y (some ⟨w1.heap.size,0,Option.none⟩)=some sv:=zac hbY rfl
  have hvx:=hxv x hxm
  obtain⟨NB,hNB⟩:∃NB,w3.heap.size+2=NB:=⟨_,rfl⟩
  have o9:w1.heap.size<NB:=by omega
  have o6:w.heap.size+1<NB:=by omega
  refine zaK (fun i=>i==6) [(0,true),(1,true),(2,true),(3,false),(4,false),(5,false),(6,false)] (zbR NB) mixed (by kernel_rfl) ?_;intro gd K x hgd hx hxe hK;have hx0:=zbc hxe;clear hxe
  have q9x:=zaa hx0 q9
  have q6x:=zaa hx0 hcbY
  have hsx0:=hx0.size
  simp (disch:=first|omega|assumption|rfl) only[go_sem,s11,s9,s6,q9x,q6x]
  refine⟨zaU o9,zaU o6,?_⟩
  refine Fn.mono (hF _ _ (hW.ext (hEY.trans hx0)) hvx) ?_
  rintro _ y0 ⟨rfl,hy0⟩
  refine⟨.inr hy0.keep,?_⟩
  simp (disch:=first|omega|assumption|rfl) only[go_sem]
  refine zbM (z:=vs []) rfl rfl rfl rfl rfl ?_
  intro y1 hy1 hys1 hyo
  refine⟨.inr hy1.keep,?_⟩
  simp (disch:=first|omega|assumption|rfl) only[go_sem]
  have hsy0:=hy0.size
  have hxy1:=(hx0.trans hy0).trans hy1
  refine zbr (e:=9) (hownY.ext hxy1) hyo.row rfl rfl rfl rfl rfl rfl (vr0) (vr0) (fun q hq=>by simp at hq;subst hq;rfl) (by rw[List.length_map];show pre.length+1≤_;omega) (by decide) (by omega) ?_
  intro sv' y2 hown2 hX2 hK2 hb2
  refine⟨.inr (hK2.mono fun b _ hb=>by have:=(hownY.ge hb).1;show _≤_;omega),?_⟩
  simp (disch:=first|omega|assumption|rfl) only[go_sem,s9]
  have hs2:=hK2.size
  have hb2Y:=(hK2.block w1.heap.size (by omega) (fun hh=>by have:=(hownY.ge hh).1;omega)).trans (Ext.at hxy1 hbY)
  refine za9 (P:=Tryz.prog) rfl rfl (by obtain⟨a,c,rfl⟩:=hown2.slice;rfl) hb2Y (by simp) (by simp) ?_
  intro y3 hs3' hb3 hk3
  refine⟨.inl rfl,?_⟩
  simp (disch:=first|omega|assumption|rfl) only[go_sem]
  refine hK _ _ ?_;clear hK hgd;clear K;try clear gd
  repeat refine c_r ?_
  refine⟨⟨Keep.to_ext (hX2 w (hEY.trans hxy1) (by omega)) rfl (fun b hb=>by omega) hk3,?_,sv',hb3,?_⟩,?_⟩
  ·have h1:=zaa hxy1 hcbY
   show y3.cell? _=_
   rw[zbL (a:=⟨w.heap.size+1,0,Option.none⟩) (hk3.block _ (by show w.heap.size+1<_;omega) (by show¬w.heap.size+1=_;omega)),zbL (a:=⟨w.heap.size+1,0,Option.none⟩) (hK2.block _ (by show w.heap.size+1<_;omega) (fun hh=>by have h2:w3.heap.size+2≤w.heap.size+1:=(hownY.ge hh).1;omega))]
   exact h1
  ·rw[List.map_append];exact hown2.keep hk3 (fun b hb h=>by have:=(hown2.ge hb).1;omega)
  ·exact(hxy1.toB (by omega) (fun _ _ h=>h.elim)).trans ((hK2.toB (by omega) (fun i hi h=>by have:=(hownY.ge h).1;omega)).trans (hk3.toB (by omega) (fun _ _ h=>h)))
 ·intro A hszA ⟨hEA,hcb,sv,hb,hown⟩ hDf
  have q9:zaf A (some ⟨w1.heap.size,0,Option.none⟩)=some sv:=zac hb rfl
  have hr:Row A sv ((xs.map fun x=>fm (valB x)).map vs):=by rw[List.map_map];exact hown.row
  have hln:zar (xs.map fun x=>fm (valB x))≤100*(xs.map fun x=>fm (valB x)).length:=zco fun y hy=>by
   obtain⟨x,hx,rfl⟩:=List.mem_map.1 hy
   exact hfm _ (hxv x hx)
  rw[List.length_map]at hln
  refine go trivial ?_
  refine rc q9 (zc7 hr (by rw[List.length_map];omega) hs1 hs2 (by omega)) ?_
  rintro _ A1 ⟨rfl,hEA1⟩
  refine rgo trivial ?_
  refine ret_anyM (.inr rfl) Tryz.ntmps150 rfl (hEA1.at hDf) ?_
  intro Z hkZ hsZ
  refine⟨_,zal (v:=vs (zby sep (xs.map fun x=>fm (valB x)))) (vr0) zay,?_⟩
  exact⟨by unfold zc1;rw[hxs0];rfl,Keep.to_ext (hEA.trans hEA1) rfl (fun b hb=>by omega) hkZ⟩
theorem itoa_nat(n:Nat):Lib.itoa (n:Int)=Lib.decDigits n:=by
 unfold Lib.itoa
 rw[if_neg (by omega),Int.toNat_natCast]
theorem zbs:∀(k u:Nat),u<10 ^ (k+1)→(Lib.decDigits u).length≤k+1
 |0,u,h=>by
  rw[Lib.decDigits,dif_pos (by omega)];simp
 |k+1,u,h=>by
  rw[Lib.decDigits]
  by_cases h1:u<10
  ·rw[dif_pos h1];simp
  ·rw[dif_neg h1,List.length_append,List.length_singleton]
   have:=zbs k (u / 10) (by rw[Nat.pow_succ]at h;omega)
   omega
def numT(n:Int):Lab:=Lib.decDigits n.toNat
theorem zga{n:Int}(h:n≤4294967295):(numT n).length≤20:=by
 unfold numT
 have:=zbs 19 n.toNat (by omega)
 omega
structure VarT(B bv:Nat)(w:World)(L:List Lab):Prop where
 ex:∃sv,w.heap[bv]? =some (.cells #[sv] 23 (0,0))∧Own B w 9 sv (L.map vs)
theorem VarT.ext{B bv:Nat}{w x:World}{L:List Lab}(h:VarT B bv w L)(hE:Ext w x):VarT B bv x L:=by
 obtain⟨sv,h1,h2⟩:=h.ex
 exact⟨sv,hE.at h1,h2.ext hE⟩
theorem zhd{w0 W:World}(hW:WY w0)(hE0:Ext w0 W){d:DatL}{nm nu tx rw':Value}{T:TypeId}{fr:Nat×Nat}{B bd bv:Nat}(hnu:Row w0 nu (d.nums.map v32))(hbd:W.heap[bd]? =some (.cells #[vi d.ty,nm,nu,tx,rw'] T fr))(h0:w0.heap.size≤bv)(hne:bd≠bv)(hdB:bd<B)(hvB:bv<B)(hBW:B≤W.heap.size)
  (hnv:∀n∈d.nums,0≤n∧n≤4294967295) (hnl:d.nums.length≤1000) {L:List Lab} (hL:L.length≤1000000) (hV:VarT B bv W L):
  Fn Tryz.prog 148 #[.pointer (some ⟨bd,0,Option.none⟩),.pointer (some ⟨bv,0,Option.none⟩)] W (fun _ W'=>VarT B bv W' (L++d.nums.map numT)∧Keep (fun i=>i=bv∨B≤i) W W'):=by
 obtain⟨an,cn,rfl,hcn,hgn⟩:=hnu
 rw[List.length_map]at hcn hbd
 have qn:zaf W (some ⟨bd,2,Option.none⟩)=some (.slice an d.nums.length cn):=zac hbd rfl
 refine enter Tryz.func148 Tryz.ntmps148 rfl rfl ?_
 refine go (an2 qn (Nat.zero_add 2)) ?_
 refine zc6 d.nums.length (fun i σ v=>σ 1= .pointer (some ⟨bv,0,Option.none⟩)∧σ 5= .slice an d.nums.length cn∧σ 6=vi d.nums.length∧σ 7=vi i∧VarT B bv v (L++(d.nums.take i).map numT)∧Keep (fun i=>i=bv∨B≤i) W v) ?_ ?_ ?_
 ·exact⟨vr0,vr0,vr0,vr0,by simpa using hV,Keep.refl _ _⟩
 ·rintro i σ v hi p ⟨s1,s5,s6,s7,hVv,hk⟩
  have hEv:Ext w0 v:=Keep.to_ext hE0 rfl (fun b hb=>by omega) hk
  have hsv:=hk.size
  have g:=zaa hEv (hgn i (by rw[List.length_map];exact hi))
  rw[List.getElem_map]at g
  obtain⟨n,hn⟩:∃n,d.nums[i]=n:=⟨_,rfl⟩
  have hnr:=hnv d.nums[i] (List.getElem_mem hi)
  rw[hn]at g hnr
  obtain⟨u,rfl⟩:∃u:Nat,n=u:=⟨n.toNat,by omega⟩
  obtain⟨xa,rfl⟩:=Option.isSome_iff_exists.1 (zae g)
  have hi0:(0:Int)≤(i:Int):=by omega
  have hi1:(i:Int)<(d.nums.length:Int):=by omega
  have hi2:(i:Int)+1=((i+1:Nat):Int):=by push_cast;rfl
  obtain⟨sv,hb,hown⟩:=hVv.ex
  have qv:zaf v (some ⟨bv,0,Option.none⟩)=some sv:=zac hb rfl
  refine go (an7 s1 s5 s6 s7 p g (an2 hi0 hi1)) ?_
  refine zaK (fun i=>i==6) [(0,true),(1,true),(2,true),(3,false),(4,false),(5,false),(6,false)] (zbR B) mixed (by kernel_rfl) ?_;intro gd K x hgd hx hxe hK;have hx0:=zbc hxe;clear hxe
  have qvx:=zaa hx0 qv
  have hsx0:=hx0.size
  simp (disch:=first|omega|assumption|rfl) only[go_sem,s1,qvx]
  refine⟨zaU hvB,?_⟩
  refine Fn.mono (zbA (hW.ext (hEv.trans hx0)) u (by omega)) ?_
  rintro _ y0 ⟨rfl,hy0⟩
  refine⟨.inr hy0.keep,?_⟩
  simp (disch:=first|omega|assumption|rfl) only[go_sem]
  refine zbM (z:=vs []) rfl rfl rfl rfl rfl ?_
  intro y1 hy1 hys1 hyo
  refine⟨.inr hy1.keep,?_⟩
  simp (disch:=first|omega|assumption|rfl) only[go_sem]
  have hsy0:=hy0.size
  have hxy1:=(hx0.trans hy0).trans hy1
  refine zbr (e:=9) (hown.ext hxy1) hyo.row rfl rfl rfl rfl rfl rfl (vr0) (vr0) (fun q hq=>by simp at hq;subst hq;rfl) (by simp;omega) (by decide) (by omega) ?_
  intro sv' y2 hown2 hX2 hK2 hb2
  refine⟨.inr (hK2.mono fun b _ hb=>by have:=(hown.ge hb).1;show _≤_;omega),?_⟩
  simp (disch:=first|omega|assumption|rfl) only[go_sem,s1]
  have hs2:=hK2.size
  have hb2Y:=(hK2.block bv (by omega) (fun hh=>by have:=(hown.ge hh).1;omega)).trans (Ext.at hxy1 hb)
  refine za9 (P:=Tryz.prog) rfl rfl (by obtain⟨a,c,rfl⟩:=hown2.slice;rfl) hb2Y (by simp) (by simp) ?_
  intro y3 hs3' hb3 hk3
  refine⟨.inl rfl,?_⟩
  simp (disch:=first|omega|assumption|rfl) only[go_sem]
  refine hK _ _ ?_;clear hK hgd;clear K;try clear gd
  refine go (an5 s1 s5 s6 s7 hi2) ?_
  refine⟨rfl,(vq1 s1),(vq1 s5),(vq1 s6),(vq1 hi2),⟨sv',hb3,?_⟩,?_⟩
  ·rw[show (L++(d.nums.take (i+1)).map numT).map vs=(L++(d.nums.take i).map numT).map vs++ [vs (Lib.decDigits u)] by rw[zag hi,hn];simp[numT]]
   exact hown2.keep hk3 (fun b hb h=>by have:=(hown2.ge hb).1;omega)
  ·exact hk.trans (((hxy1.mono fun _ _ h=>h.elim).trans (hK2.mono fun b _ hb=> .inr (hown.ge hb).1)).trans (hk3.mono fun b _ hb=> .inl hb))
 ·rintro σ v p ⟨s1,s5,s6,s7,hVv,hk⟩
  rw[List.take_length]at hVv
  refine go (an4 s1 s5 s6 (an2 s7 p)) ?_
  exact zaw (by simp) rfl ⟨hVv,hk⟩
theorem zeM(n:Nm):(n.flatMap fun l=>zaZ l++ [46]).length≤4*(n.map List.length).sum+n.length:=by
 induction n with
 |nil=>simp
 |cons l n ih=>
  have:=zbo l
  rw[List.flatMap_cons,List.length_append,List.map_cons,List.sum_cons,List.length_cons]
  simp only[List.length_append,List.length_singleton]
  omega
theorem zdu(w:World)(nv:Value)(n:Nm)(hn:Row w nv (n.map vs))(hl:∀l∈n,l.length≤1000000)(hnl:n.length≤1000):
  Fn Tryz.prog 61 #[nv] w (fun v w'=>v=vs (zbx n)∧Ext w w'):=by
 obtain⟨an,cn,rfl,hcn,hgn⟩:=hn
 simp only[List.length_map]at hcn hgn
 rw[List.length_map]
 refine enter Tryz.func61 Tryz.ntmps61 rfl rfl ?_
 repeat refine c_r ?_
 refine rg0 ?_
 repeat refine c_r ?_
 refine rg0 ?_
 repeat refine c_r ?_
 refine wc0 ?_ ?_
 ·intro h0
  simp only[decide_eq_true_eq]at h0
  have hn0:n=[]:=List.length_eq_zero_iff.1 (by omega)
  repeat (first|refine c_r ?_|refine rg0 ?_)
  refine rt0 Tryz.ntmps61 ?_
  exact⟨by unfold zbx;rw[if_pos hn0],Keep.refl _ _⟩
 intro h0
 simp only[decide_eq_false_iff_not]at h0
 have hn0:n≠ []:=fun h=>h0 (by rw[h];rfl)
 repeat refine c_r ?_
 refine rg0 ?_
 refine zaI ?_
 intro w1 hE1 hs1 hA
 repeat refine c_r ?_
 refine rg0 ?_
 repeat refine c_r ?_
 refine zas (fun m σ ds A=>ds=[]∧∃(i:Nat),i+m=n.length∧σ 11=vi i∧σ 10=vi n.length∧σ 9= .slice an n.length cn∧σ 3= .pointer (some ⟨w.heap.size,0,Option.none⟩)∧Ext w A∧w1.heap.size≤A.heap.size∧Bld w1.heap.size A w.heap.size ((n.take i).flatMap fun l=>zaZ l++ [46])) n.length ?_ ?_
 ·exact⟨rfl,0,by omega,vr0,vq0,vq0,vq0,hE1,Nat.le_refl _,_,_,.inl rfl,hA,Own.nil _ _ _⟩
 rintro m σ ds A ⟨rfl,i,him,h11,h10,h9,h3,hEA,hsA,hB⟩
 repeat refine c_r ?_
 refine rq ?_;intro gd K hgd hK;simp (disch:=first|omega|assumption|rfl) only[go_sem,h11,h10];refine hK _ _ ?_;clear hK hgd;clear K gd
 repeat refine c_r ?_
 refine wc0 ?_ ?_
 ·intro hlt
  simp only[decide_eq_true_eq]at hlt
  have hi:i<n.length:=by omega
  have hi0:(0:Int)≤(i:Int):=by omega
  have hi1:(i:Int)<(n.length:Int):=by omega
  have hi1':(i:Int)+1=((i+1:Nat):Int):=by push_cast;rfl
  have hg:=zaa hEA (hgn i (by simpa using hi))
  rw[List.getElem_map]at hg
  obtain⟨l,hle⟩:∃l,n[i]=l:=⟨_,rfl⟩
  rw[hle]at hg
  have hmem:l∈n:=hle▸List.getElem_mem hi
  obtain⟨xn,rfl⟩:=Option.isSome_iff_exists.1 (zae hg)
  have hpl:((n.take i).flatMap fun l=>zaZ l++ [46]).length≤5000000000:=by
   have h1:=zeM (n.take i)
   have h2:((n.take i).map List.length).sum≤1000000*n.length:=by
    have:∀(k:Nm),(∀l∈k,l.length≤1000000)→(k.map List.length).sum≤1000000*k.length:=fun k=>by
     induction k with
     |nil=>intro _;simp
     |cons x k ih=>
      intro h
      have h3:=ih (fun l hl=>h l (List.mem_cons_of_mem _ hl))
      have h4:=h x (List.mem_cons_self ..)
      rw[List.map_cons,List.sum_cons,List.length_cons];omega
    have h3:=this (n.take i) (fun l hl'=>hl l (List.mem_of_mem_take hl'))
    rw[List.length_take]at h3;omega
   rw[List.length_take]at h1;omega
  have htl:=zbo l
  have hll:=hl l hmem
  have hadd:(zaZ l).length+([46]:List UInt8).length≤9223372036854775807:=by rw[List.length_singleton];omega
  repeat refine c_r ?_
  refine rq ?_;intro gd K hgd hK;simp (disch:=first|omega|assumption|rfl) only[go_sem,h9,h11,hi0,hi1,hg];refine hK _ _ ?_;clear hK hgd;clear K gd
  repeat refine c_r ?_
  refine rq ?_;intro gd K hgd hK
  try simp only[go_sem]
  refine Fn.mono (zgp A l (by omega)) ?_
  rintro _ A1 ⟨rfl,hE2⟩
  try simp (disch:=first|omega|assumption|rfl) only[go_sem,h3]
  refine Fn.mono (zaC (s:=zaZ l++ [46]) (hB.ext' hE2) (by have:=hE2.size;omega) (by rw[List.length_append,List.length_singleton];omega)) ?_
  rintro _ A2 ⟨hB2,hk2⟩
  try simp only[go_sem]
  refine hK _ _ ?_;clear hK hgd;clear K;try clear gd
  repeat refine c_r ?_
  refine rq ?_;intro gd K hgd hK;simp (disch:=first|omega|assumption|rfl) only[go_sem,h11,hi1'];refine hK _ _ ?_;clear hK hgd;clear K gd
  repeat refine c_r ?_
  refine⟨m - 1,by omega,rfl,i+1,by omega,vq0,(vq1 h10),(vq1 h9),(vq1 h3),Keep.to_ext (hEA.trans hE2) rfl (fun b hb=>by omega) hk2,by have:=hE2.size;have:=hk2.size;omega,?_⟩
  rw[zag hi,List.flatMap_append,hle]
  simpa using hB2
 ·intro hge
  simp only[decide_eq_false_iff_not]at hge
  rw[List.take_of_length_le (by omega)]at hB
  have hpl:(n.flatMap fun l=>zaZ l++ [46]).length≤5000000000:=by
   have h1:=zeM n
   have:∀(k:Nm),(∀l∈k,l.length≤1000000)→(k.map List.length).sum≤1000000*k.length:=fun k=>by
    induction k with
    |nil=>intro _;simp
    |cons x k ih=>
     intro h
     have h3:=ih (fun l hl=>h l (List.mem_cons_of_mem _ hl))
     have h4:=h x (List.mem_cons_self ..)
     rw[List.map_cons,List.sum_cons,List.length_cons];omega
   have h3:=this n hl
   omega
  repeat refine c_r ?_
  refine rq ?_;intro gd K hgd hK
  try simp (disch:=first|omega|assumption|rfl) only[go_sem,h3]
  refine Fn.mono (zb4 hB (by omega)) ?_
  rintro _ z ⟨rfl,hkz⟩
  try simp only[go_sem]
  refine hK _ _ ?_;clear hK hgd;clear K;try clear gd
  repeat refine c_r ?_
  refine rt0 Tryz.ntmps61 ?_
  exact⟨by unfold zbx;rw[if_neg hn0],Keep.to_ext hEA rfl (fun b hb=>by omega) hkz⟩
theorem zgG{w:World}{v:Value}{L:List Nm}(h:NamesAt w v L):∃a c,v= .slice a L.length c∧∀i (hi:i<L.length),∃y,zaf w (adr a i)=some y∧Row w y (L[i].map vs):=by
 obtain⟨vals,⟨a,c,e,_,hg⟩,hl,hr⟩:=h
 exact⟨a,c,by rw[e,hl],fun i hi=>⟨vals[i]'(by omega),hg i (by omega),hr i (by omega) hi⟩⟩
structure DatS(d:DatL):Prop where
 names:∀n∈d.names,(∀l∈n,l.length≤1000)∧n.length≤1000
 nn:d.names.length≤1000
 nu:d.nums.length≤1000
 nv:∀n∈d.nums,0≤n∧n≤4294967295
 nt:d.texts.length≤1000
 tx:∀t∈d.texts,t.length≤1000
 nr:d.raw.length≤2000
def zcW(d:DatL):List Lab:=d.nums.map numT
def zcn(d:DatL):List Lab:=(if d.ty=15 then zcW d else [])++d.names.map zbx++(if d.ty=15 then [] else zcW d)++d.texts.map quoT
def zeN(fx:Nat→Lab)(d:DatL):List Lab:=
 if d.ty=1 then [zc1 Lib.decDigits 1 [46] d.raw] else if d.ty=28 then [zc1 fx 2 [58] d.raw] else if (zcH d.ty tyTab).2=true then [] else [[92,35],Lib.itoa (d.raw.length:Nat)]++(if d.raw.length=0 then [] else [hexT d.raw])
def zbD(fx:Nat→Lab)(d:DatL):List Lab:=zcn d++zeN fx d
theorem VarT.size{B bv:Nat}{w:World}{L:List Lab}(h:VarT B bv w L):bv<w.heap.size:=by
 obtain⟨sv,h1,_⟩:=h.ex
 exact(Array.getElem?_eq_some_iff.1 h1).1
theorem words_ok{w:World}(hW:WY w){cs:List Value}{d:DatL}(hD:DatAt w cs d)(hS:DatS d){fx:Nat→Lab}(hfx:∀u,u<65536→(fx u).length≤100)
  (hF:∀v u,WY v→u<65536→Fn Tryz.prog 60 #[.int .u64 (u:Nat),vi 16] v (fun r v'=>r=vs (fx u)∧Ext v v')):
  Fn Tryz.prog 87 #[.agg cs.toArray] w (fun u w'=>Row w' u ((zbD fx d).map vs)∧Ext w w'):=by
 obtain⟨nm,nu,tx,rw',rfl,hnm,hnu,htx,hraw⟩:=hD.ex
 obtain⟨an,hann⟩:=zgG hnm
 obtain⟨cn,hnmv,hgn⟩:=hann
 obtain⟨at',ct,htxv,hct,hgt⟩:=id htx
 obtain⟨ar,cr,hrv,hcr,hgr⟩:=id hraw
 rw[List.length_map]at htxv hrv hct hcr
 refine enter Tryz.func87 Tryz.ntmps87 rfl rfl ?_
 repeat refine c_r ?_
 refine rg0 ?_
 repeat refine c_r ?_
 refine zaI ?_
 intro w1 hE1 hz1 hA
 refine rg0 ?_
 repeat refine c_r ?_
 refine zaI ?_
 intro w2 hE2 hz2 hV2
 have hE12:=hE1.trans hE2
 have hA2:=hE2.at hA
 obtain⟨bv,hbv⟩:∃bv,w1.heap.size=bv:=⟨_,rfl⟩
 obtain⟨bd,hbd⟩:∃bd,w.heap.size=bd:=⟨_,rfl⟩
 obtain⟨B,hB⟩:∃B,w2.heap.size=B:=⟨_,rfl⟩
 rw[hbv]at hV2 ⊢
 rw[hbd]at hA2 ⊢
 have hVar2:VarT B bv w2 []:=⟨_,hV2,Own.nil _ _ _⟩
 -- what is kept
 have old:∀{v:World},Keep (fun i=>i=bv∨B≤i) w2 v→Ext w v∧v.heap[bd]? =w2.heap[bd]?∧B≤v.heap.size:=fun hk=>
  ⟨Keep.to_ext hE12 rfl (fun b hb=>by omega) hk,hk.block _ (by omega) (by omega),by have:=hk.size;omega⟩
 have q0:∀{v:World},Keep (fun i=>i=bv∨B≤i) w2 v→zaf v (some ⟨bd,0,Option.none⟩)=some (vi d.ty)∧zaf v (some ⟨bd,1,Option.none⟩)=some (.slice an d.names.length cn)∧zaf v (some ⟨bd,3,Option.none⟩)=some (.slice at' d.texts.length ct)∧zaf v (some ⟨bd,4,Option.none⟩)=some (.slice ar d.raw.length cr):=fun hk=>by
  have hh:=(old hk).2.1.trans hA2
  exact⟨zac hh rfl,by rw[←hnmv];exact zac hh rfl,by rw[←htxv];exact zac hh rfl,by rw[←hrv];exact zac hh rfl⟩
 -- the closure's call
 have clo:∀{v:World} {L:List Lab},Keep (fun i=>i=bv∨B≤i) w2 v→VarT B bv v L→L.length≤100000→Fn Tryz.prog 148 #[.pointer (some ⟨bd,0,Option.none⟩),.pointer (some ⟨bv,0,Option.none⟩)] v (fun _ v'=>VarT B bv v' (L++zcW d)∧Keep (fun i=>i=bv∨B≤i) w2 v'):=fun {v L} hk hVv hL=>
  Fn.mono (zhd hW (old hk).1 hnu ((old hk).2.1.trans hA2) (by omega) (by omega) (by omega) (by omega) (old hk).2.2 hS.nv hS.nu (by omega) hVv) fun _ _ ⟨h1,h2⟩=>⟨h1,hk.trans h2⟩
 have k2:Keep (fun i=>i=bv∨B≤i) w2 w2:=Keep.refl _ _
 have N1:(zcW d).length≤1000:=by unfold zcW;rw[List.length_map];exact hS.nu
 obtain⟨p0,p1,p3,p4⟩:=q0 k2
 refine go (an2 p0 (Nat.zero_add 1)) ?_
 refine zaA (Q:=fun e σ' ds' v'=>e= .normal∧ds'=[]∧σ' 1= .pointer (some ⟨bd,0,Option.none⟩)∧σ' 3= .pointer (some ⟨bv,0,Option.none⟩)∧σ' 4= .func (.func 148) #[] #[.pointer (some ⟨bd,0,Option.none⟩),.pointer (some ⟨bv,0,Option.none⟩)]∧VarT B bv v' (if d.ty=15 then zcW d else [])∧Keep (fun i=>i=bv∨B≤i) w2 v') ?_ ?_
 ·by_cases h15:d.ty=15
  ·rw[if_pos h15]
   refine wt (decide_eq_true h15) ?_
   refine go trivial ?_
   refine rc trivial (clo k2 hVar2 (by simp)) ?_
   rintro _ v ⟨hv1,hv2⟩
   refine rgo trivial ?_
   exact⟨rfl,rfl,vr0,vr0,vr0,by simpa using hv1,hv2⟩
  ·rw[if_neg h15]
   refine wf (decide_eq_false h15) ?_
   refine go trivial ?_
   exact⟨rfl,rfl,vr0,vr0,vr0,hVar2,k2⟩
 rintro _ σ _ v1 ⟨rfl,rfl,s1,s3,s4,hVa,k3⟩
 obtain⟨L0,hL0⟩:∃L0,(if d.ty=15 then zcW d else [])=L0:=⟨_,rfl⟩
 have N0:L0.length≤1000:=by rw[←hL0];split<;>simp[N1]
 rw[hL0]at hVa
 obtain⟨p0,p1,p3,p4⟩:=q0 k3
 refine go (an5 s1 s3 s4 p1 (Nat.zero_add 1)) ?_
 refine zaA (Q:=fun e σ' ds' v'=>e= .exit 0∧ds'=[]∧σ' 1= .pointer (some ⟨bd,0,Option.none⟩)∧σ' 3= .pointer (some ⟨bv,0,Option.none⟩)∧σ' 4= .func (.func 148) #[] #[.pointer (some ⟨bd,0,Option.none⟩),.pointer (some ⟨bv,0,Option.none⟩)]∧VarT B bv v' (L0++d.names.map zbx)∧Keep (fun i=>i=bv∨B≤i) w2 v') ?_ ?_
 ·refine zc6 d.names.length (fun i σ v=>σ 1= .pointer (some ⟨bd,0,Option.none⟩)∧σ 3= .pointer (some ⟨bv,0,Option.none⟩)∧σ 4= .func (.func 148) #[] #[.pointer (some ⟨bd,0,Option.none⟩),.pointer (some ⟨bv,0,Option.none⟩)]∧σ 16= .slice an d.names.length cn∧σ 17=vi d.names.length∧σ 18=vi i∧VarT B bv v (L0++(d.names.take i).map zbx)∧Keep (fun i=>i=bv∨B≤i) w2 v) ?_ ?_ ?_
  ·exact⟨(vq1 s1),(vq1 s3),(vq1 s4),vr0,vr0,vr0,by simpa using hVa,k3⟩
  ·rintro i σ v hi p ⟨s1,s3,s4,s16,s17,s18,hVv,hk⟩
   obtain⟨hEv,_,hBv⟩:=old hk
   obtain⟨y,gy,hyr⟩:=hgn i hi
   have g:=zaa hEv gy
   obtain⟨n,hn⟩:∃n,d.names[i]=n:=⟨_,rfl⟩
   have hnS:=hS.names d.names[i] (List.getElem_mem hi)
   rw[hn]at hyr hnS
   obtain⟨xa,rfl⟩:=Option.isSome_iff_exists.1 (zae g)
   have hi0:(0:Int)≤(i:Int):=by omega
   have hi1:(i:Int)<(d.names.length:Int):=by omega
   have hi2:(i:Int)+1=((i+1:Nat):Int):=by push_cast;rfl
   have hnn:=hS.nn
   obtain⟨sv,hb,hown⟩:=hVv.ex
   have qv:zaf v (some ⟨bv,0,Option.none⟩)=some sv:=zac hb rfl
   obtain⟨ya,yc,hyv,_⟩:=id hyr
   rw[hyv]at g hyr
   refine go (an9 s1 s3 s4 s16 s17 s18 p g (an2 hi0 hi1)) ?_
   refine zaK (fun i=>i==5) [(0,true),(1,true),(2,false),(3,false),(4,false),(5,false)] (zbR B) mixed (by kernel_rfl) ?_;intro gd K x hgd hx hxe hK;have hx0:=zbc hxe;clear hxe
   have qvx:=zaa hx0 qv
   have hsx0:=hx0.size
   simp (disch:=first|omega|assumption|rfl) only[go_sem,s3,qvx]
   refine⟨zaU (by omega),?_⟩
   refine Fn.mono (zdu _ _ n (hyr.ext (hEv.trans hx0)) (fun l hl=>by have:=hnS.1 l hl;omega) hnS.2) ?_
   rintro _ y0 ⟨rfl,hy0⟩
   refine⟨.inr hy0.keep,?_⟩
   simp (disch:=first|omega|assumption|rfl) only[go_sem]
   refine zbM (z:=vs []) rfl rfl rfl rfl rfl ?_
   intro y1 hy1 hys1 hyo
   refine⟨.inr hy1.keep,?_⟩
   simp (disch:=first|omega|assumption|rfl) only[go_sem]
   have hsy0:=hy0.size
   have hxy1:=(hx0.trans hy0).trans hy1
   refine zbr (e:=9) (hown.ext hxy1) hyo.row rfl rfl rfl rfl rfl rfl (vr0) (vr0) (fun q hq=>by simp at hq;subst hq;rfl) (by simp;omega) (by decide) (by omega) ?_
   intro sv' y2 hown2 hX2 hK2 hb2
   refine⟨.inr (hK2.mono fun b _ hb=>by have:=(hown.ge hb).1;show _≤_;omega),?_⟩
   simp (disch:=first|omega|assumption|rfl) only[go_sem,s3]
   have hs2:=hK2.size
   have hb2Y:=(hK2.block bv (by omega) (fun hh=>by have:=(hown.ge hh).1;omega)).trans (Ext.at hxy1 hb)
   refine za9 (P:=Tryz.prog) rfl rfl (by obtain⟨a,c,rfl⟩:=hown2.slice;rfl) hb2Y (by simp) (by simp) ?_
   intro y3 hs3' hb3 hk3
   refine⟨.inl rfl,?_⟩
   simp (disch:=first|omega|assumption|rfl) only[go_sem]
   refine hK _ _ ?_;clear hK hgd;clear K;try clear gd
   refine go (an7 s1 s3 s4 s16 s17 s18 hi2) ?_
   refine⟨rfl,(vq1 s1),(vq1 s3),(vq1 s4),(vq1 s16),(vq1 s17),(vq1 hi2),⟨sv',hb3,?_⟩,?_⟩
   ·rw[show (L0++(d.names.take (i+1)).map zbx).map vs=(L0++(d.names.take i).map zbx).map vs++ [vs (zbx n)] by rw[zag hi,hn];simp]
    exact hown2.keep hk3 (fun b hb h=>by have:=(hown2.ge hb).1;omega)
   ·exact hk.trans (((hxy1.mono fun _ _ h=>h.elim).trans (hK2.mono fun b _ hb=> .inr (hown.ge hb).1)).trans (hk3.mono fun b _ hb=> .inl hb))
  ·rintro σ v p ⟨s1,s3,s4,s16,s17,s18,hVv,hk⟩
   rw[List.take_length]at hVv
   refine go (an4 s16 s17 s18 p) ?_
   exact⟨rfl,rfl,(vq1 s1),(vq1 s3),(vq1 s4),hVv,hk⟩
 clear k3 hVa s1 s3 s4 p0 p1 p3 p4 σ
 rintro _ σ _ v1 ⟨rfl,rfl,s1,s3,s4,hVa,k3⟩
 obtain⟨L1,hL1⟩:∃L1,L0++d.names.map zbx=L1:=⟨_,rfl⟩
 have N1':L1.length≤2000:=by have:=hS.nn;rw[←hL1];simp;omega
 rw[hL1]at hVa
 obtain⟨p0,p1,p3,p4⟩:=q0 k3
 refine go (an5 s1 s3 s4 p0 (Nat.zero_add 1)) ?_
 refine zaA (Q:=fun e σ' ds' v'=>e= .normal∧ds'=[]∧σ' 1= .pointer (some ⟨bd,0,Option.none⟩)∧σ' 3= .pointer (some ⟨bv,0,Option.none⟩)∧VarT B bv v' (L1++(if d.ty=15 then [] else zcW d))∧Keep (fun i=>i=bv∨B≤i) w2 v') ?_ ?_
 ·by_cases h15:d.ty=15
  ·rw[if_pos h15]
   refine wf (show(!decide (d.ty=15))=false by rw[decide_eq_true h15];rfl) ?_
   refine go trivial ?_
   exact⟨rfl,rfl,(vq1 s1),(vq1 s3),by simpa using hVa,k3⟩
  ·rw[if_neg h15]
   refine wt (show(!decide (d.ty=15))=true by rw[decide_eq_false h15];rfl) ?_
   refine go (an3 s1 s3 s4) ?_
   refine rc s4 (clo k3 hVa (by omega)) ?_
   rintro _ v ⟨hv1,hv2⟩
   refine rgo trivial ?_
   exact⟨rfl,rfl,(vq1 s1),(vq1 s3),hv1,hv2⟩
 clear k3 hVa s1 s3 s4 p0 p1 p3 p4 σ
 rintro _ σ _ v1 ⟨rfl,rfl,s1,s3,hVa,k3⟩
 obtain⟨L2,hL2⟩:∃L2,L1++(if d.ty=15 then [] else zcW d)=L2:=⟨_,rfl⟩
 have N2:L2.length≤3000:=by
  have h1:(if d.ty=15 then([]:List Lab) else zcW d).length≤1000:=by
   split
   ·exact Nat.zero_le _
   ·exact N1
  rw[←hL2,List.length_append];omega
 rw[hL2]at hVa
 obtain⟨p0,p1,p3,p4⟩:=q0 k3
 refine go (an4 s1 s3 p3 (Nat.zero_add 3)) ?_
 refine zaA (Q:=fun e σ' ds' v'=>e= .exit 2∧ds'=[]∧σ' 1= .pointer (some ⟨bd,0,Option.none⟩)∧σ' 3= .pointer (some ⟨bv,0,Option.none⟩)∧VarT B bv v' (L2++d.texts.map quoT)∧Keep (fun i=>i=bv∨B≤i) w2 v') ?_ ?_
 ·refine zc6 d.texts.length (fun i σ v=>σ 1= .pointer (some ⟨bd,0,Option.none⟩)∧σ 3= .pointer (some ⟨bv,0,Option.none⟩)∧σ 34= .slice at' d.texts.length ct∧σ 35=vi d.texts.length∧σ 36=vi i∧VarT B bv v (L2++(d.texts.take i).map quoT)∧Keep (fun i=>i=bv∨B≤i) w2 v) ?_ ?_ ?_
  ·exact⟨(vq1 s1),(vq1 s3),vr0,vr0,vr0,by simpa using hVa,k3⟩
  ·rintro i σ v hi p ⟨s1,s3,s16,s17,s18,hVv,hk⟩
   obtain⟨hEv,_,hBv⟩:=old hk
   have g:=zaa hEv (hgt i (by rw[List.length_map];exact hi))
   rw[List.getElem_map]at g
   obtain⟨n,hn⟩:∃n,d.texts[i]=n:=⟨_,rfl⟩
   have hnS:=hS.tx d.texts[i] (List.getElem_mem hi)
   rw[hn]at g hnS
   obtain⟨xa,rfl⟩:=Option.isSome_iff_exists.1 (zae g)
   have hi0:(0:Int)≤(i:Int):=by omega
   have hi1:(i:Int)<(d.texts.length:Int):=by omega
   have hi2:(i:Int)+1=((i+1:Nat):Int):=by push_cast;rfl
   have hnn:=hS.nt
   obtain⟨sv,hb,hown⟩:=hVv.ex
   have qv:zaf v (some ⟨bv,0,Option.none⟩)=some sv:=zac hb rfl
   refine go (an8 s1 s3 s16 s17 s18 p g (an2 hi0 hi1)) ?_
   refine zaK (fun i=>i==5) [(0,true),(1,true),(2,false),(3,false),(4,false),(5,false)] (zbR B) mixed (by kernel_rfl) ?_;intro gd K x hgd hx hxe hK;have hx0:=zbc hxe;clear hxe
   have qvx:=zaa hx0 qv
   have hsx0:=hx0.size
   simp (disch:=first|omega|assumption|rfl) only[go_sem,s3,qvx]
   refine⟨zaU (by omega),?_⟩
   refine Fn.mono (quote_ok _ n (by omega)) ?_
   rintro _ y0 ⟨rfl,hy0⟩
   refine⟨.inr hy0.keep,?_⟩
   simp (disch:=first|omega|assumption|rfl) only[go_sem]
   refine zbM (z:=vs []) rfl rfl rfl rfl rfl ?_
   intro y1 hy1 hys1 hyo
   refine⟨.inr hy1.keep,?_⟩
   simp (disch:=first|omega|assumption|rfl) only[go_sem]
   have hsy0:=hy0.size
   have hxy1:=(hx0.trans hy0).trans hy1
   refine zbr (e:=9) (hown.ext hxy1) hyo.row rfl rfl rfl rfl rfl rfl (vr0) (vr0) (fun q hq=>by simp at hq;subst hq;rfl) (by simp;omega) (by decide) (by omega) ?_
   intro sv' y2 hown2 hX2 hK2 hb2
   refine⟨.inr (hK2.mono fun b _ hb=>by have:=(hown.ge hb).1;show _≤_;omega),?_⟩
   simp (disch:=first|omega|assumption|rfl) only[go_sem,s3]
   have hs2:=hK2.size
   have hb2Y:=(hK2.block bv (by omega) (fun hh=>by have:=(hown.ge hh).1;omega)).trans (Ext.at hxy1 hb)
   refine za9 (P:=Tryz.prog) rfl rfl (by obtain⟨a,c,rfl⟩:=hown2.slice;rfl) hb2Y (by simp) (by simp) ?_
   intro y3 hs3' hb3 hk3
   refine⟨.inl rfl,?_⟩
   simp (disch:=first|omega|assumption|rfl) only[go_sem]
   refine hK _ _ ?_;clear hK hgd;clear K;try clear gd
   refine go (an6 s1 s3 s16 s17 s18 hi2) ?_
   refine⟨rfl,(vq1 s1),(vq1 s3),(vq1 s16),(vq1 s17),(vq1 hi2),⟨sv',hb3,?_⟩,?_⟩
   ·rw[show (L2++(d.texts.take (i+1)).map quoT).map vs=(L2++(d.texts.take i).map quoT).map vs++ [vs (quoT n)] by rw[zag hi,hn];simp]
    exact hown2.keep hk3 (fun b hb h=>by have:=(hown2.ge hb).1;omega)
   ·exact hk.trans (((hxy1.mono fun _ _ h=>h.elim).trans (hK2.mono fun b _ hb=> .inr (hown.ge hb).1)).trans (hk3.mono fun b _ hb=> .inl hb))
  ·rintro σ v p ⟨s1,s3,s16,s17,s18,hVv,hk⟩
   rw[List.take_length]at hVv
   refine go (an4 s16 s17 s18 p) ?_
   exact⟨rfl,rfl,(vq1 s1),(vq1 s3),hVv,hk⟩
 clear k3 hVa s1 s3 p0 p1 p3 p4 σ
 rintro _ σ _ v1 ⟨rfl,rfl,s1,s3,hVa,k3⟩
 have hfr:zcn d=L2++d.texts.map quoT:=by unfold zcn;rw[←hL2,←hL1,←hL0]
 rw[←hfr]at hVa
 have N3:(zcn d).length≤4000:=by have:=hS.nt;rw[hfr];simp;omega
 obtain⟨p0,p1,p3,p4⟩:=q0 k3
 obtain⟨hEv,hbdv,hBv⟩:=old k3
 obtain⟨sv,hb,hown⟩:=hVa.ex
 have qv:zaf v1 (some ⟨bv,0,Option.none⟩)=some sv:=zac hb rfl
 have hcs:zav v1 (some ⟨bd,0,Option.none⟩) 5=some [vi d.ty,nm,nu,tx,rw']:=za4 (n:=5) (hbdv.trans hA2) rfl
 have hWv:=hW.ext hEv
 have o1:bd<B:=by omega
 have o2:bv<B:=by omega
 by_cases h1:d.ty=1
 ·refine go (an5 s1 s3 p0 (decide_eq_true h1) (Nat.zero_add 0)) ?_
  ·refine zaK (fun _=>false) [(0,true),(1,true),(2,false),(3,false),(4,false),(5,true)] (zbR B) mixed (by kernel_rfl) ?_;intro gd K x hgd hx hxe hK;have hx0:=zbc hxe;clear hxe
   have qvx:=zaa hx0 qv
   have csx:=zai hx0 hcs
   simp (disch:=first|omega|assumption|rfl) only[go_sem,s1,s3,qvx,csx]
   refine⟨zaU o2,zaU o1,?_⟩
   refine Fn.mono (ze8 (hWv.ext hx0) (hD.ext (hEv.trans hx0)) (k:=1) (base:=10) (sep:=[46]) (fm:=Lib.decDigits) (by decide) (by decide) hS.nr (by decide) (by decide) (fun u hu=>by have:=zbs 4 u (by omega);omega) (fun v u hv hu=>zbA hv u (by omega))) ?_
   rintro _ y0 ⟨rfl,hy0⟩
   refine⟨.inr hy0.keep,?_⟩
   simp (disch:=first|omega|assumption|rfl) only[go_sem]
   refine zbM (z:=vs []) rfl rfl rfl rfl rfl ?_
   intro y1 hy1 hys1 hyo
   refine⟨.inr hy1.keep,?_⟩
   simp (disch:=first|omega|assumption|rfl) only[go_sem]
   have hsy0:=hy0.size
   have hsx0:=hx0.size
   have hxy1:=(hx0.trans hy0).trans hy1
   refine zbr (e:=9) (hown.ext hxy1) hyo.row rfl rfl rfl rfl rfl rfl (vr0) (vr0) (fun q hq=>by simp at hq;subst hq;rfl) (by simp;omega) (by decide) (by omega) ?_
   intro sv' y2 hown2 hX2 hK2 hb2
   refine⟨.inr (hK2.mono fun b _ hb=>by have:=(hown.ge hb).1;show _≤_;omega),?_⟩
   simp (disch:=first|omega|assumption|rfl) only[go_sem]
   refine hK _ _ ?_;clear hK hgd;clear K;try clear gd
   refine go trivial ?_
   refine rt0 Tryz.ntmps87 ?_
   refine⟨?_,hX2 w (hEv.trans hxy1) (by omega)⟩
   unfold zbD zeN
   rw[if_pos h1,List.map_append]
   exact hown2.row
 have d1:decide (d.ty=1)=false:=decide_eq_false h1
 by_cases h28:d.ty=28
 ·refine go (an6 s1 s3 p0 d1 (decide_eq_true h28) (Nat.zero_add 0)) ?_
  ·refine zaK (fun _=>false) [(0,true),(1,true),(2,false),(3,false),(4,false),(5,true)] (zbR B) mixed (by kernel_rfl) ?_;intro gd K x hgd hx hxe hK;have hx0:=zbc hxe;clear hxe
   have qvx:=zaa hx0 qv
   have csx:=zai hx0 hcs
   simp (disch:=first|omega|assumption|rfl) only[go_sem,s1,s3,qvx,csx]
   refine⟨zaU o2,zaU o1,?_⟩
   refine Fn.mono (ze8 (hWv.ext hx0) (hD.ext (hEv.trans hx0)) (k:=2) (base:=16) (sep:=[58]) (fm:=fx) (by decide) (by decide) hS.nr (by decide) (by decide) hfx hF) ?_
   rintro _ y0 ⟨rfl,hy0⟩
   refine⟨.inr hy0.keep,?_⟩
   simp (disch:=first|omega|assumption|rfl) only[go_sem]
   refine zbM (z:=vs []) rfl rfl rfl rfl rfl ?_
   intro y1 hy1 hys1 hyo
   refine⟨.inr hy1.keep,?_⟩
   simp (disch:=first|omega|assumption|rfl) only[go_sem]
   have hsy0:=hy0.size
   have hsx0:=hx0.size
   have hxy1:=(hx0.trans hy0).trans hy1
   refine zbr (e:=9) (hown.ext hxy1) hyo.row rfl rfl rfl rfl rfl rfl (vr0) (vr0) (fun q hq=>by simp at hq;subst hq;rfl) (by simp;omega) (by decide) (by omega) ?_
   intro sv' y2 hown2 hX2 hK2 hb2
   refine⟨.inr (hK2.mono fun b _ hb=>by have:=(hown.ge hb).1;show _≤_;omega),?_⟩
   simp (disch:=first|omega|assumption|rfl) only[go_sem]
   refine hK _ _ ?_;clear hK hgd;clear K;try clear gd
   refine go trivial ?_
   refine rt0 Tryz.ntmps87 ?_
   refine⟨?_,hX2 w (hEv.trans hxy1) (by omega)⟩
   unfold zbD zeN
   rw[if_neg h1,if_pos h28,List.map_append]
   exact hown2.row
 have d28:decide (d.ty=28)=false:=decide_eq_false h28
 refine go (an6 s1 s3 p0 d1 d28 (Nat.zero_add 0)) ?_
 refine rc (an3 s1 p0 (Nat.zero_add 0)) (ziv v1 d.ty) ?_
 rintro _ v2 ⟨rfl,hE2'⟩
 have hb':=hE2'.at hb
 have qv2:zaf v2 (some ⟨bv,0,Option.none⟩)=some sv:=zac hb' rfl
 have hs2v:=hE2'.size
 cases hkn:(zcH d.ty tyTab).2 with
 |true=>
  refine rgo (an2 s3 qv2) ?_
  refine rt0 Tryz.ntmps87 ?_
  refine⟨?_,hEv.trans hE2'⟩
  unfold zbD zeN
  rw[if_neg h1,if_neg h28,if_pos hkn,List.append_nil]
  exact(hown.ext hE2').row
 |false=>
 have p4':=zaa hE2' p4
 refine rgo (an2 s1 s3) ?_
 have k4:Keep (fun i=>i=bv∨B≤i) w2 v2:=k3.trans (hE2'.mono fun _ _ h=>h.elim)
 have hVb:VarT B bv v2 (zcn d):=hVa.ext hE2'
 have hnr:=hS.nr
 refine zaA (Q:=fun e σ' ds' v'=>e= .normal∧ds'=[]∧σ' 1= .pointer (some ⟨bd,0,Option.none⟩)∧σ' 3= .pointer (some ⟨bv,0,Option.none⟩)∧VarT B bv v' (zcn d++ [[92,35],Lib.itoa (d.raw.length:Nat)])∧Keep (fun i=>i=bv∨B≤i) w2 v') ?_ ?_
 ·obtain⟨hEv,_,hBv⟩:=old k4
  have hown:=hown.ext hE2'
  refine zaK (fun i=>i==7) [(0,true),(1,true),(2,true),(3,true),(4,false),(5,false),(6,false),(7,false)] (zbR B) mixed (by kernel_rfl) ?_;intro gd K x hgd hx hxe hK;have hx0:=zbc hxe;clear hxe
  have qvx:=zaa hx0 qv2
  have p4x:=zaa hx0 p4'
  have hsx0:=hx0.size
  simp (disch:=first|omega|assumption|rfl) only[go_sem,s1,s3,qvx,p4x,Nat.zero_add]
  refine⟨zaU o2,zaU o1,?_⟩
  refine Fn.mono (zgq (hW.ext (hEv.trans hx0)) (d.raw.length:Nat) (by omega) (by omega)) ?_
  rintro _ y0 ⟨rfl,hy0⟩
  refine⟨.inr hy0.keep,?_⟩
  simp (disch:=first|omega|assumption|rfl) only[go_sem]
  refine bs_two (z:=vs []) (u:=vs [92,35]) (v:=vs (Lib.itoa (d.raw.length:Nat))) rfl rfl rfl rfl rfl rfl ?_
  intro y1 hy1 hys1 hyo
  refine⟨.inr hy1.keep,?_⟩
  simp (disch:=first|omega|assumption|rfl) only[go_sem]
  have hsy0:=hy0.size
  have hxy1:=(hx0.trans hy0).trans hy1
  refine zbr (e:=9) (hown.ext hxy1) hyo.row rfl rfl rfl rfl rfl rfl (vr0) (vr0) (fun q hq=>by simp at hq;rcases hq with rfl|rfl<;>rfl) (by simp;omega) (by decide) (by omega) ?_
  intro sv' y2 hown2 hX2 hK2 hb2
  refine⟨.inr (hK2.mono fun b _ hb=>by have:=(hown.ge hb).1;show _≤_;omega),?_⟩
  simp (disch:=first|omega|assumption|rfl) only[go_sem,s3]
  have hs2:=hK2.size
  have hb2Y:=(hK2.block bv (by omega) (fun hh=>by have:=(hown.ge hh).1;omega)).trans (Ext.at hxy1 hb')
  refine za9 (P:=Tryz.prog) rfl rfl (by obtain⟨a,c,rfl⟩:=hown2.slice;rfl) hb2Y (by simp) (by simp) ?_
  intro y3 hs3' hb3 hk3
  refine⟨.inl rfl,?_⟩
  simp (disch:=first|omega|assumption|rfl) only[go_sem]
  refine hK _ _ ?_;clear hK hgd;clear K;try clear gd
  refine⟨rfl,rfl,(vq1 s1),(vq1 s3),⟨sv',hb3,?_⟩,?_⟩
  ·rw[List.map_append]
   exact hown2.keep hk3 (fun b hb h=>by have:=(hown2.ge hb).1;omega)
  ·exact k4.trans (((hxy1.mono fun _ _ h=>h.elim).trans (hK2.mono fun b _ hb=> .inr (hown.ge hb).1)).trans (hk3.mono fun b _ hb=> .inl hb))
 clear hVb k4 p4' qv2 qv hb hb' s1 s3 p0 p1 p3 p4
 rintro _ σ _ v3 ⟨rfl,rfl,s1,s3,hVb,k4⟩
 obtain⟨p0,p1,p3,p4⟩:=q0 k4
 obtain⟨hEv3,_,hBv3⟩:=old k4
 obtain⟨sv3,hb,hown⟩:=hVb.ex
 have qv:zaf v3 (some ⟨bv,0,Option.none⟩)=some sv3:=zac hb rfl
 have hwd:∀r,(d.raw.length=0→r=[])→(d.raw.length≠0→r=[hexT d.raw])→zbD fx d=(zcn d++ [[92,35],Lib.itoa (d.raw.length:Nat)])++r:=fun r h0 h3=>by
  unfold zbD zeN
  rw[if_neg h1,if_neg h28,if_neg (by rw[hkn];decide),List.append_assoc]
  by_cases hz:d.raw.length=0
  ·rw[if_pos hz,h0 hz]
  ·rw[if_neg hz,h3 hz]
 by_cases hz:d.raw.length=0
 ·refine go (an6 s1 s3 p4 qv (show decide ((0:Int)<(d.raw.length:Int))=false from decide_eq_false (by omega)) (Nat.zero_add 4)) ?_
  refine rt0 Tryz.ntmps87 ?_
  refine⟨?_,hEv3⟩
  rw[hwd [] (fun _=>rfl) (fun h=>absurd hz h),List.append_nil]
  exact hown.row
 ·refine go (an6 s1 s3 p4 qv (show decide ((0:Int)<(d.raw.length:Int))=true from decide_eq_true (by omega)) (Nat.zero_add 4)) ?_
  refine zaK (fun i=>i==6) [(0,true),(1,true),(2,true),(3,false),(4,false),(5,false),(6,false)] (zbR B) mixed (by kernel_rfl) ?_;intro gd K x hgd hx hxe hK;have hx0:=zbc hxe;clear hxe
  have qvx:=zaa hx0 qv
  have p4x:=zaa hx0 p4
  have hsx0:=hx0.size
  simp (disch:=first|omega|assumption|rfl) only[go_sem,s1,s3,qvx,p4x,Nat.zero_add]
  refine⟨zaU o2,zaU o1,?_⟩
  refine Fn.mono (hex_ok (l:=d.raw) (hrv▸((hraw.ext (hEv3.trans hx0)):Row _ rw' _)) (by omega)) ?_
  rintro _ y0 ⟨rfl,hy0⟩
  refine⟨.inr hy0.keep,?_⟩
  simp (disch:=first|omega|assumption|rfl) only[go_sem]
  refine zbM (z:=vs []) rfl rfl rfl rfl rfl ?_
  intro y1 hy1 hys1 hyo
  refine⟨.inr hy1.keep,?_⟩
  simp (disch:=first|omega|assumption|rfl) only[go_sem]
  have hsy0:=hy0.size
  have hxy1:=(hx0.trans hy0).trans hy1
  refine zbr (e:=9) (hown.ext hxy1) hyo.row rfl rfl rfl rfl rfl rfl (vr0) (vr0) (fun q hq=>by simp at hq;subst hq;rfl) (by simp;omega) (by decide) (by omega) ?_
  intro sv' y2 hown2 hX2 hK2 hb2
  refine⟨.inr (hK2.mono fun b _ hb=>by have:=(hown.ge hb).1;show _≤_;omega),?_⟩
  simp (disch:=first|omega|assumption|rfl) only[go_sem,s3]
  have hs2:=hK2.size
  have hb2Y:=(hK2.block bv (by omega) (fun hh=>by have:=(hown.ge hh).1;omega)).trans (Ext.at hxy1 hb)
  refine za9 (P:=Tryz.prog) rfl rfl (by obtain⟨a,c,rfl⟩:=hown2.slice;rfl) hb2Y (by simp) (by simp) ?_
  intro y3 hs3' hb3 hk3
  refine⟨.inl rfl,?_⟩
  simp (disch:=first|omega|assumption|rfl) only[go_sem]
  refine hK _ _ ?_;clear hK hgd;clear K;try clear gd
  have q3:zaf y3 (some ⟨bv,0,Option.none⟩)=some sv':=zac hb3 rfl
  refine go (an2 s3 q3) ?_
  refine rt0 Tryz.ntmps87 ?_
  refine⟨?_,Keep.to_ext (hX2 w (hEv3.trans hxy1) (by omega)) rfl (fun b hb=>by omega) hk3⟩
  rw[hwd [hexT d.raw] (fun h=>absurd h hz) (fun _=>rfl),List.map_append]
  exact(hown2.keep hk3 (fun b hb h=>by have:=(hown2.ge hb).1;omega)).row
def zcQ(fx:Nat→Lab)(d:DatL):Lab:=zby [32] (zbD fx d)
theorem zbE{n:Nm}(h:∀l∈n,l.length≤1000)(hn:n.length≤1000):(zbx n).length≤5000000:=by
 unfold zbx
 split
 ·decide
 ·have:∀m:Nm,(∀l∈m,l.length≤1000)→(m.flatMap fun l=>zaZ l++ [46]).length≤4001*m.length:=fun m=>by
   induction m with
   |nil=>intro _;exact Nat.zero_le _
   |cons l m ih=>
    intro h
    have h1:=ih fun x hx=>h x (List.mem_cons_of_mem _ hx)
    have h2:=h l (List.mem_cons_self ..)
    have h3:=zbo l
    rw[List.flatMap_cons,List.length_append,List.length_append,show([46]:Lab).length=1 from rfl]
    show _≤4001*(m.length+1)
    omega
  have:=this n h
  have h2:4001*n.length≤4001*1000:=Nat.mul_le_mul_left _ hn
  omega
theorem zdG(a b:List Lab):zar (a++b)=zar a+zar b:=by unfold zar;rw[List.map_append,List.sum_append]
theorem zbH{α:Type}{f:α→Lab}{m:Nat}{l:List α}(h:∀x∈l,(f x).length≤m):zar (l.map f)≤m*l.length:=by
 have:=zco (m:=m) (l:=l.map f) fun y hy=>by
  obtain⟨x,hx,rfl⟩:=List.mem_map.1 hy
  exact h x hx
 rwa [List.length_map]at this
structure DatT(d:DatL):Prop where
 s:DatS d
 nn:d.names.length≤20
theorem zcx{fx:Nat→Lab}(hfx:∀u,u<65536→(fx u).length≤100){d:DatL}(h:DatT d):(zbD fx d).length≤10000∧zar (zbD fx d)≤200000000:=by
 have hS:=h.s
 have g1:zar (d.names.map zbx)≤5000000*d.names.length:=zbH fun n hn=>zbE (hS.names n hn).1 (hS.names n hn).2
 have g2:zar (zcW d)≤20*d.nums.length:=zbH fun n hn=>zga (hS.nv n hn).2
 have g3:zar (d.texts.map quoT)≤4002*d.texts.length:=zbH fun t ht=>by
  have h1:=zeu t
  have h2:=hS.tx t ht
  unfold quoT
  rw[List.length_cons,List.length_append]
  show _+1+1≤_
  omega
 have a1:5000000*d.names.length≤5000000*20:=Nat.mul_le_mul_left _ h.nn
 have a2:20*d.nums.length≤20*1000:=Nat.mul_le_mul_left _ hS.nu
 have a3:4002*d.texts.length≤4002*1000:=Nat.mul_le_mul_left _ hS.nt
 have gr:∀(fm:Nat→Lab) (k:Nat) (sep:Lab),1≤k→k≤2→sep.length=1→(∀u,u<65536→(fm u).length≤100)→(zc1 fm k sep d.raw).length≤300000:=fun fm k sep hk hk2 hs hf=>by
  have hxl:(zaF k d.raw).length≤2001:=by
   have:=hS.nr
   rw[zc3]
   exact Nat.le_trans (Nat.div_le_self _ _) (by omega)
  have hb:zar ((zaF k d.raw).map fun x=>fm (valB x))≤100*(zaF k d.raw).length:=zbH fun x hx=>hf _ (zfu (k:=2) (by
   unfold zaF at hx
   obtain⟨i,_,rfl⟩:=List.mem_map.1 hx
   rw[List.length_take];omega))
  have hj:∀l:List Lab,(zby sep l).length≤l.length+zar l:=fun l=>by
   cases l with
   |nil=>exact Nat.zero_le _
   |cons x r=>
    have:=zex sep r
    have e:zar (x::r)=x.length+zar r:=by simp[zar]
    show(x++_).length≤_
    rw[List.length_append,this,hs,e,List.length_cons];omega
  have:=hj ((zaF k d.raw).map fun x=>fm (valB x))
  rw[List.length_map]at this
  unfold zc1
  omega
 have gt:(zeN fx d).length≤3∧zar (zeN fx d)≤1000000:=by
  unfold zeN
  split
  ·refine⟨by simp,?_⟩
   have:=gr Lib.decDigits 1 [46] (by decide) (by decide) rfl (fun u hu=>by have:=zbs 4 u (by omega);omega)
   simp[zar];omega
  ·split
   ·refine⟨by simp,?_⟩
    have:=gr fx 2 [58] (by decide) (by decide) rfl hfx
    simp[zar];omega
   ·split
    ·exact⟨by decide,by decide⟩
    ·have hi:(Lib.itoa (d.raw.length:Nat)).length≤20:=by
      rw[itoa_nat]
      have:=zbs 19 d.raw.length (by have:=hS.nr;omega)
      omega
     have hx:=zge d.raw
     have:=hS.nr
     rw[zdG,List.length_append]
     split
     ·exact⟨by simp,by simp[zar];omega⟩
     ·exact⟨by simp,by simp[zar];omega⟩
 have gf:(zcn d).length≤3000+20∧zar (zcn d)≤110000000:=by
  have hn:=h.nn
  have hu:=hS.nu
  have ht:=hS.nt
  have hw:(zcW d).length=d.nums.length:=by unfold zcW;rw[List.length_map]
  unfold zcn
  simp only[zdG,List.length_append,List.length_map]
  split
  ·have e:zar ([]:List Lab)=0:=rfl
   rw[e,hw]
   exact⟨by simp;omega,by omega⟩
  ·have e:zar ([]:List Lab)=0:=rfl
   rw[e,hw]
   exact⟨by simp;omega,by omega⟩
 unfold zbD
 rw[List.length_append,zdG]
 omega
theorem DText_ok{w:World}(hW:WY w){cs:List Value}{d:DatL}(hD:DatAt w cs d)(hS:DatT d){fx:Nat→Lab}(hfx:∀u,u<65536→(fx u).length≤100)
  (hF:∀v u,WY v→u<65536→Fn Tryz.prog 60 #[.int .u64 (u:Nat),vi 16] v (fun r v'=>r=vs (fx u)∧Ext v v')):
  Fn Tryz.prog 33 #[.agg cs.toArray] w (fun u w'=>u=vs (zcQ fx d)∧Ext w w'):=by
 obtain⟨nm,nu,tx,rw',rfl,_⟩:=hD.ex
 obtain⟨l1,l2⟩:=zcx hfx hS
 refine enter Tryz.func33 Tryz.ntmps33 rfl rfl ?_
 refine go trivial ?_
 refine zaI ?_
 intro w1 hE1 hz1 hA
 have hcs:zav w1 (some ⟨w.heap.size,0,Option.none⟩) 5=some [vi d.ty,nm,nu,tx,rw']:=za4 (n:=5) hA rfl
 refine rc hcs (words_ok (hW.ext hE1) (hD.ext hE1) hS.s hfx hF) ?_
 rintro v w2 ⟨hR,hE2⟩
 refine rd trivial (zc7 (sep:=[32]) hR (by omega) (by decide) (by decide) (by omega)) ?_
 rintro _ w3 ⟨rfl,hE3⟩
 refine rgo trivial ?_
 refine rt0 Tryz.ntmps33 ?_
 exact⟨rfl,(hE1.trans hE2).trans hE3⟩
def hexU(n:Nat):Lab:=if h:n<16 then [hexD n] else hexU (n / 16)++ [hexD (n % 16)]
decreasing_by omega
theorem zfG{n:Nat}(h:n<16):hexU n=[hexD n]:=by rw[hexU,dif_pos h]
theorem zh1{n:Nat}(h:¬n<16):hexU n=hexU (n / 16)++ [hexD (n % 16)]:=by rw[hexU,dif_neg h]
theorem zcF:∀(k n:Nat),n<16 ^ (k+1)→(hexU n).length≤k+1
 |0,n,h=>by rw[zfG (by omega)];exact Nat.le_refl _
 |k+1,n,h=>by
  by_cases h1:n<16
  ·rw[zfG h1];show 1≤_;omega
  ·have:=zcF k (n / 16) (by rw[Nat.pow_succ]at h;omega)
   rw[zh1 h1,List.length_append]
   show _+1≤_
   omega
theorem ix_dig{k:Nat}(h:k<16):ixSD (some .string) (.string ⟨#[48,49,50,51,52,53,54,55,56,57,97,98,99,100,101,102,103,104,105,106,107,108,109,110,111,112,113,114,115,116,117,118,119,120,121,122]⟩) (.int .u64 (k:Int))=some (zaj (hexD k)):=by
 have:=(by decide+kernel:∀k,k<16→([48,49,50,51,52,53,54,55,56,57,97,98,99,100,101,102,103,104,105,106,107,108,109,110,111,112,113,114,115,116,117,118,119,120,121,122]:Lab)[k]? =some (hexD k)) k h
 obtain⟨h1,h2⟩:=List.getElem?_eq_some_iff.1 this
 have h3:((k:Nat):Int).toNat<([48,49,50,51,52,53,54,55,56,57,97,98,99,100,101,102,103,104,105,106,107,108,109,110,111,112,113,114,115,116,117,118,119,120,121,122]:Lab).length:=by rw[Int.toNat_natCast];exact h1
 show ixSD (some .string) (vs [48,49,50,51,52,53,54,55,56,57,97,98,99,100,101,102,103,104,105,106,107,108,109,110,111,112,113,114,115,116,117,118,119,120,121,122]) (.int .u64 (k:Int))=_
 rw[i_str (by omega) h3]
 simp only[Int.toNat_natCast,h2]
 rfl
theorem zgl{P:Program}{t:TypeId}{n:Nat}(h:n<65536):binV P .and t (.int .u64 (n:Int)) (.int .u64 15)=some (.int .u64 ((n % 16:Nat):Int)):=by
 show some (Value.int .u64 (IntKind.u64.wrap ((BitVec.ofInt 64 (n:Int) &&& BitVec.ofInt 64 15).toNat:Int)))=_
 have e:(BitVec.ofInt 64 (n:Int) &&& BitVec.ofInt 64 15).toNat=n % 16:=by
  rw[BitVec.toNat_and,BitVec.ofInt_natCast,BitVec.toNat_ofNat,Nat.mod_eq_of_lt (by omega),show(BitVec.ofInt 64 15).toNat=2 ^ 4 - 1 from rfl,Nat.and_two_pow_sub_one_eq_mod]
 rw[e,zdi (by omega) (by omega)]
theorem b_shr4u{P:Program}{t:TypeId}{n:Nat}:binV P .shr t (.int .u64 (n:Int)) (.int .u64 4)=some (.int .u64 ((n / 16:Nat):Int)):=by
 show some (Value.int .u64 (Int.fdiv (n:Int) (2 ^ (min (Int.toNat 4) 64))))=_
 have:(2:Int) ^ (min (Int.toNat 4) 64)=((16:Nat):Int):=by decide
 rw[this,Int.fdiv_eq_ediv_of_nonneg _ (by omega)];rfl
theorem trail64v(w:World)(h:w.cell? ⟨6,15,Option.none⟩=some (.int .u8 4)):Calls Tryz.prog 272 #[.int .u64 16] w (fun e w'=>e= .returned (.int .i64 4)∧w'=w):=by
 have h':w.cell? ⟨6,(IntKind.u64.wrap (bits BinOp.and IntKind.u64 16 (IntKind.u64.wrap (-16))*285870213051353865) / 288230376151711744).toNat,Option.none⟩=some (.int .u8 4):=by
  rw[show (IntKind.u64.wrap (bits BinOp.and IntKind.u64 16 (IntKind.u64.wrap (-16))*285870213051353865) / 288230376151711744).toNat=15 by kernel_rfl]
  exact h
 go_enter Tryz.func272,Tryz.ntmps272
 go_wp2
 all_goals (go_ret;exact⟨rfl,rfl⟩)
theorem trail16v(w:World)(h:w.cell? ⟨6,15,Option.none⟩=some (.int .u8 4)):Fn Tryz.prog 236 #[.int .u64 16] w (fun v w'=>v=vi 4∧w=w'):=by
 have:Calls Tryz.prog 236 #[.int .u64 16] w (fun e w'=>e= .returned (.int .i64 4)∧w'=w):=by
  go_enter Tryz.func236,Tryz.ntmps236
  go_wp2_with (go_at_call 272;refine(trail64v _ h).mono ?_)
  rintro e w2 ⟨rfl,rfl⟩
  go_wp2
  go_ret
  exact⟨rfl,rfl⟩
 exact Fn.of_calls (this.mono fun _ _ ⟨he,hw⟩=>⟨_,he,rfl,hw.symm⟩)
structure Dig(b i:Nat)(w:World)(D:Lab):Prop where
 ex:∃cur T,w.heap[b]? =some (.cells cur T (0,0))∧cur.size=65∧i+D.length=65∧∀j (h:j<D.length),cur[i+j]? =some (zaj D[j])
theorem Dig.push{b i:Nat}{w2:World}{D:Lab}{c:UInt8}{cur:Array Value}{T:TypeId}(hsz:cur.size=65)(hi:1≤i)(hil:i+D.length=65)(hat:∀j (h:j<D.length),cur[i+j]? =some (zaj D[j]))(h2:w2.heap[b]? =some (.cells (cur.setIfInBounds (i - 1) (zaj c)) T (0,0))):Dig b (i - 1) w2 (c::D):=by
 refine⟨_,_,h2,by simpa using hsz,by rw[List.length_cons];omega,fun j hj=>?_⟩
 cases j with
 |zero=>
  rw[Nat.add_zero,Array.getElem?_setIfInBounds_self_of_lt (by omega)];rfl
 |succ j=>
  rw[Array.getElem?_setIfInBounds_ne (by omega),show i - 1+(j+1)=i+j by omega]
  exact hat j (by simpa using hj)
theorem bits16n{w:World}(hW:WY w){n:Nat}(hn:n<65536):Fn Tryz.prog 194 #[.slice Option.none 0 0,.int .u64 (n:Nat),vi 16,.bool false,.bool false] w (fun v w'=>(∃l,v= .tuple #[l,vs (hexU n)])∧Ext w w'):=by
 have d1:decide ((16:Int)<2)=false:=rfl
 have d2:decide ((16:Int)=10)=false:=rfl
 have d3:decide ((36:Int)<16)=false:=rfl
 refine enter Tryz.func194 Tryz.ntmps194 rfl rfl ?_
 refine go trivial ?_
 refine rgg [(2,21),(6,25)] (an3 d1 d2 d3) ?_
 refine go trivial ?_
 refine zaI ?_
 intro w1 hE1 hs1 hA
 refine rc trivial (isPow16F w1) ?_
 rintro _ _ ⟨rfl,rfl⟩
 have hw16:IntKind.u64.wrap 16=16:=rfl
 have hw15:IntKind.u64.wrap (16 - 1)=15:=rfl
 have hw4:IntKind.u64.wrap 4=4:=rfl
 refine rgo trivial ?_
 refine rc hw16 (trail16v w1 (hW.ext hE1).tz) ?_
 rintro _ _ ⟨rfl,rfl⟩
 refine rgo (an3 hw16 hw15 hw4) ?_
 refine zaA (Q:=fun e σ ds v=>e= .exit 0∧ds=[]∧∃m i D,m<16∧hexU n=hexU m++D∧1≤i∧σ 1= .int .u64 (m:Nat)∧σ 3= .bool false∧σ 4= .bool false∧σ 12= .pointer (some ⟨w.heap.size,0,Option.none⟩)∧σ 13=vi (i:Nat)∧Dig w.heap.size i v D∧Ext w v) ?_ ?_
 ·refine zas (fun j σ ds v=>ds=[]∧∃m i D,m<16 ^ (j+1)∧j≤3∧hexU n=hexU m++D∧i+3=65+j∧σ 1= .int .u64 (m:Nat)∧σ 3= .bool false∧σ 4= .bool false∧σ 12= .pointer (some ⟨w.heap.size,0,Option.none⟩)∧σ 13=vi (i:Nat)∧σ 14= .int .u64 4∧σ 15= .int .u64 16∧σ 16= .int .u64 15∧Dig w.heap.size i v D∧Ext w v) 3 ?_ ?_
  ·exact⟨rfl,n,65,[],by simpa using hn,by decide,by simp,by decide,vr0,vr0,vr0,vr0,vr0,vr0,vr0,vr0,⟨_,_,hA,rfl,rfl,fun j h=>absurd h (by simp)⟩,hE1⟩
  ·rintro j σ ds v ⟨rfl,m,i,D,hm,hj,hD,hi,s1,s3,s4,s12,s13,s14,s15,s16,hdg,hE⟩
   by_cases hlt:m<16
   ·have dd:decide ((16:Int)≤(m:Int))=false:=decide_eq_false (by omega)
    refine go (an9 s1 s3 s4 s12 s13 s14 s15 s16 dd) ?_
    exact⟨rfl,rfl,m,i,D,hlt,hD,by omega,(vq1 s1),(vq1 s3),(vq1 s4),(vq1 s12),(vq1 s13),hdg,hE⟩
   have dd:decide ((16:Int)≤(m:Int))=true:=decide_eq_true (by omega)
   have hj1:1≤j:=by
    rcases Nat.eq_zero_or_pos j with rfl|h
    ·simp at hm;omega
    ·exact h
   have hm6:m<65536:=Nat.lt_of_lt_of_le hm (Nat.pow_le_pow_right (j:=4) (by decide) (by omega))
   obtain⟨cur,T,hb,hsz,hil,hat⟩:=hdg.ex
   have hi1:(i:Int) - 1=((i - 1:Nat):Int):=by omega
   refine go (an9 s1 s3 s4 s12 s13 s14 s15 s16 (an2 dd hi1)) ?_
   have ha:=zgl (P:=Tryz.prog) (t:=114) hm6
   have ha2:=zgl (P:=Tryz.prog) (t:=262) hm6
   have hix:=ix_dig (k:=m % 16) (by omega)
   have z1:(0:Int)≤((i - 1:Nat):Int):=by omega
   have l1:((i - 1:Nat):Int)<((65:Nat):Int):=by omega
   have hsh:=b_shr4u (P:=Tryz.prog) (t:=114) (n:=m)
   refine rq ?_;intro gd K hgd hK
   try simp (disch:=first|omega|assumption|rfl) only[go_sem,s1,s12,s16,ha,ha2,hix,z1,l1,Nat.zero_add]
   refine za9 (P:=Tryz.prog) (b:=w.heap.size) (j:=i - 1) rfl rfl rfl hb (by omega) (.inl (Nat.zero_le _)) ?_
   intro w2 hs2 hb2 hk2
   try simp only[go_sem]
   refine hK _ _ ?_;clear hK hgd;clear K;try clear gd
   have hE2:Ext w w2:=Keep.to_ext hE rfl (fun b (hb:b=w.heap.size)=>by omega) hk2
   refine go (an9 s1 s3 s4 s12 s13 s14 s15 s16 hsh) ?_
   refine⟨j - 1,by omega,rfl,m / 16,i - 1,hexD (m % 16)::D,?_,by omega,?_,by omega,vr0,(vq1 s3),(vq1 s4),(vq1 s12),vr0,(vq1 s14),(vq1 s15),(vq1 s16),Dig.push hsz (by omega) hil hat hb2,hE2⟩
   ·rw[Nat.pow_succ]at hm
    rw[show j - 1+1=j by omega]
    revert hm
    generalize 16 ^ j=q
    intro hm
    omega
   ·rw[hD,zh1 hlt,List.append_assoc];rfl
 rintro _ σ _ v ⟨rfl,rfl,m,i,D,hlt,hD,hi0,s1,s3,s4,s12,s13,hdg,hE⟩
 obtain⟨cur,T,hb,hsz,hil,hat⟩:=hdg.ex
 have hi1:(i:Int) - 1=((i - 1:Nat):Int):=by omega
 have hix:=ix_dig (k:=m) hlt
 have z1:(0:Int)≤((i - 1:Nat):Int):=by omega
 have l1:((i - 1:Nat):Int)<((65:Nat):Int):=by omega
 refine go (an6 s1 s3 s4 s12 s13 hi1) ?_
 refine rq ?_;intro gd K hgd hK
 try simp (disch:=first|omega|assumption|rfl) only[go_sem,s1,s12,hix,z1,l1,Nat.zero_add]
 refine za9 (P:=Tryz.prog) (b:=w.heap.size) (j:=i - 1) rfl rfl rfl hb (by omega) (.inl (Nat.zero_le _)) ?_
 intro w2 hs2 hb2 hk2
 try simp only[go_sem]
 refine hK _ _ ?_;clear hK hgd;clear K;try clear gd
 have hE2:Ext w w2:=Keep.to_ext hE rfl (fun b (hb:b=w.heap.size)=>by omega) hk2
 obtain⟨cur2,T2,hb2',hsz2,hil2,hat2⟩:=(Dig.push (c:=hexD m) hsz hi0 hil hat hb2).ex
 have hfin:hexU n=hexD m::D:=by rw[hD,zfG hlt];rfl
 have hlen:(hexU n).length=65 - (i - 1):=by rw[hfin,List.length_cons];omega
 have hadd:(⟨w.heap.size,0,Option.none⟩:Addr).add (i - 1)=⟨w.heap.size,i - 1,Option.none⟩:=by simp[Addr.add];omega
 refine go (an3 s3 s4 s12) ?_
 refine rq ?_;intro gd K hgd hK
 try simp (disch:=first|omega|assumption|rfl) only[go_sem,s12]
 refine op_slAl (n:=65) (l:=i - 1) (a:=⟨w.heap.size,0,Option.none⟩) rfl (by decide) rfl rfl (by omega) ((vq1 s12)) (vr0) ?_
 try simp only[go_sem]
 refine zcc (l:=hexU n) (a:=some ⟨w.heap.size,i - 1,Option.none⟩) (c:=65 - (i - 1)) rfl rfl rfl (by rw[hlen,←hadd];first| (simp only[go_sem];done)| (simp only[go_sem];rfl)) (fun j hj=>?_) ?_
 ·have hj2:j<(hexD m::D).length:=by rw[←hfin];exact hj
  have h3:zaf w2 (some ⟨w.heap.size,i - 1+j,Option.none⟩)=some (zaj (hexD m::D)[j]):=zac hb2' (hat2 j hj2)
  rw[zaW]
  simp only[hfin]
  exact h3
 try simp only[go_sem]
 refine hK _ _ ?_;clear hK hgd;clear K;try clear gd
 repeat refine c_r ?_
 refine zaB (.inr rfl) Tryz.ntmps194 rfl (zal (vr0) (zal (v:=vs (hexU n)) (vr0) zay)) ?_
 exact⟨⟨_,rfl⟩,hE2⟩
theorem zfr{w:World}(hW:WY w)(u:Nat)(hu:u<65536):Fn Tryz.prog 60 #[.int .u64 (u:Nat),vi 16] w (fun v w'=>v=vs (hexU u)∧Ext w w'):=by
 have d1:decide ((16:Int)=10)=false:=rfl
 have inner:Fn Tryz.prog 122 #[.int .u64 (u:Nat),vi 16] w (fun v w'=>v=vs (hexU u)∧Ext w w'):=by
  refine enter Tryz.func122 Tryz.ntmps122 rfl rfl ?_
  refine go d1 ?_
  refine rc trivial (bits16n hW hu) ?_
  rintro _ w1 ⟨⟨l,rfl⟩,hE1⟩
  refine rgo trivial ?_
  refine rt0 Tryz.ntmps122 ?_
  exact⟨rfl,hE1⟩
 refine enter Tryz.func60 Tryz.ntmps60 rfl rfl ?_
 refine go trivial ?_
 refine rc trivial inner ?_
 rintro _ w1 ⟨rfl,hE1⟩
 refine rgo trivial ?_
 refine rt0 Tryz.ntmps60 ?_
 exact⟨rfl,hE1⟩
theorem zd1{w:World}(hW:WY w){cs:List Value}{d:DatL}(hD:DatAt w cs d)(hS:DatT d):Fn Tryz.prog 33 #[.agg cs.toArray] w (fun u w'=>u=vs (zcQ hexU d)∧Ext w w'):=
 DText_ok hW hD hS (fun u hu=>by have:=zcF 3 u (by simpa using hu);omega) (fun _ u hv hu=>zfr hv u hu)
def tyT(k:Int):Lab:=if (zcH k tyTab).2=true then(zcH k tyTab).1 else [84,89,80,69]++Lib.itoa k
theorem zgd{n:Int}(h0: -9223372036854775808≤n)(h1:n≤9223372036854775807):(Lib.itoa n).length≤30:=by
 unfold Lib.itoa
 split
 ·have:=zbs 19 n.natAbs (by omega)
  have:=zbs 19 (-n).toNat (by omega)
  simp only[List.length_cons]
  omega
 ·have:=zbs 19 n.toNat (by omega)
  omega
theorem zgn{w:World}(hW:WY w)(k:Int)(h0: -9223372036854775808≤k)(h1:k≤9223372036854775807):Fn Tryz.prog 63 #[vi k] w (fun u w'=>u=vs (tyT k)∧Ext w w'):=by
 refine enter Tryz.func63 Tryz.ntmps63 rfl rfl ?_
 refine go trivial ?_
 refine rc trivial (zeL w) ?_
 rintro v w1 ⟨hR,hE1⟩
 refine rd trivial (zh7 hR (by decide) k) ?_
 rintro _ w2 ⟨rfl,hE2⟩
 have hE12:=hE1.trans hE2
 have hi:=zgd h0 h1
 unfold tyT
 cases hf:(zcH k tyTab).2 with
 |true=>
  refine rgo hf ?_
  rw[if_pos rfl]
  refine rt0 Tryz.ntmps63 ?_
  exact⟨rfl,hE12⟩
 |false=>
  refine rgo hf ?_
  rw[if_neg (by decide)]
  refine rc trivial (zgq (hW.ext hE12) k h0 h1) ?_
  rintro _ w3 ⟨rfl,hE3⟩
  have l1:([84,89,80,69]:Lab).length+(Lib.itoa k).length≤9223372036854775807:=by simp;omega
  refine rgo l1 ?_
  refine rt0 Tryz.ntmps63 ?_
  exact⟨rfl,hE12.trans hE3⟩
theorem zfv{k:Int}(h0: -9223372036854775808≤k)(h1:k≤9223372036854775807):(tyT k).length≤40:=by
 have h2:=zgd h0 h1
 have:∀T:List (Int×Lab),(∀x∈T,x.2.length≤5)→(zcH k T).1.length≤5:=fun T=>by
  induction T with
  |nil=>intro _;exact Nat.zero_le _
  |cons x T ih=>
   intro h
   unfold zcH
   split
   ·exact h x (List.mem_cons_self ..)
   ·exact ih fun y hy=>h y (List.mem_cons_of_mem _ hy)
 have h3:=this tyTab (by decide)
 unfold tyT
 split
 ·omega
 ·simp only[List.length_append,List.length_cons,List.length_nil];omega
theorem za7(sep:Lab)(l:List Lab):(zby sep l).length≤sep.length*l.length+zar l:=by
 cases l with
 |nil=>exact Nat.zero_le _
 |cons x r=>
  have:=zex sep r
  have e:zar (x::r)=x.length+zar r:=by simp[zar]
  show(x++_).length≤_
  rw[List.length_append,this,e,List.length_cons,Nat.mul_succ];omega
def recT(r:RecL):Lab:=zby [32] [zbx r.owner,numT r.ttl,[73,78],tyT r.dat.ty,zcQ hexU r.dat]
structure RecT(r:RecL):Prop where
 ow:(∀l∈r.owner,l.length≤1000)∧r.owner.length≤1000
 tl:0≤r.ttl∧r.ttl≤4294967295
 ty: -9223372036854775808≤r.dat.ty∧r.dat.ty≤9223372036854775807
 dat:DatT r.dat
theorem zgB{w:World}(hW:WY w){cs:List Value}{r:RecL}(hR:RecAt w cs r)(hT:RecT r):Fn Tryz.prog 113 #[.agg cs.toArray] w (fun u w'=>u=vs (recT r)∧Ext w w'):=by
 obtain⟨ow,ds,rfl,how,hD⟩:=hR.ex
 obtain⟨nm,nu,tx,rw',rfl,_⟩:=hD.ex
 obtain⟨u,hu⟩:∃u:Nat,r.ttl=u:=⟨r.ttl.toNat,by have:=hT.tl;omega⟩
 have hu2:=hT.tl
 refine enter Tryz.func113 Tryz.ntmps113 rfl rfl ?_
 repeat refine c_r ?_
 refine rg0 ?_
 repeat refine c_r ?_
 refine zaI ?_
 intro w1 hE1 hz1 hA
 have c0:zaf w1 (some ⟨w.heap.size,0,Option.none⟩)=some ow:=zac hA rfl
 have c1:zaf w1 (some ⟨w.heap.size,1,Option.none⟩)=some (.int .u32 (u:Int)):=by rw[←hu];exact zac hA rfl
 have c2:zaf w1 (some ⟨w.heap.size,2,Option.none⟩)=some (vi r.dat.ty):=zac hA rfl
 have c3:zav w1 (some ⟨w.heap.size,2,Option.none⟩) 5=some [vi r.dat.ty,nm,nu,tx,rw']:=zam (o:=2) (k:=5) hA (by simp)
 refine zaK (fun _=>false) [(0,true),(1,true),(3,true),(4,true),(5,true),(7,true),(8,true),(9,true),(11,true),(12,true),(2,false),(6,false),(10,false),(13,false),(14,false),(15,false),(16,true)] NoS mixed (by kernel_rfl) ?_;intro gd K x hgd hx hxe hK;have hx0:=zbc hxe;clear hxe
 have d0:=zaa hx0 c0
 have d1:=zaa hx0 c1
 have d2:=zaa hx0 c2
 have d3:=zai hx0 c3
 simp (disch:=first|omega|assumption|rfl) only[go_sem,d0,d1,d2,d3,Nat.zero_add]
 have hWx:=(hW.ext hE1).ext hx0
 have hEx:=hE1.trans hx0
 obtain⟨g1,g2⟩:=zcx (fx:=hexU) (fun u hu=>by have:=zcF 3 u (by simpa using hu);omega) hT.dat
 refine Fn.mono (zdu _ _ _ (how.ext hEx) (fun l hl=>by have:=hT.ow.1 l hl;omega) hT.ow.2) ?_
 rintro _ y1 ⟨rfl,hy1⟩
 refine⟨.inr hy1.keep,?_⟩
 have e1:=zaa hy1 d1
 have e2:=zaa hy1 d2
 have e3:=zai hy1 d3
 simp (disch:=first|omega|assumption|rfl) only[go_sem,e1,e2,e3,Nat.zero_add]
 refine Fn.mono (zbA (hWx.ext hy1) u (by omega)) ?_
 rintro _ y2 ⟨rfl,hy2⟩
 refine⟨.inr hy2.keep,?_⟩
 have f2:=zaa hy2 e2
 have f3:=zai hy2 e3
 simp (disch:=first|omega|assumption|rfl) only[go_sem,f2,f3,Nat.zero_add]
 refine Fn.mono (zgn ((hWx.ext hy1).ext hy2) r.dat.ty hT.ty.1 hT.ty.2) ?_
 rintro _ y3 ⟨rfl,hy3⟩
 refine⟨.inr hy3.keep,?_⟩
 have g3:=zai hy3 f3
 simp (disch:=first|omega|assumption|rfl) only[go_sem,g3,Nat.zero_add]
 refine Fn.mono (zd1 (((hWx.ext hy1).ext hy2).ext hy3) (hD.ext (((hEx.trans hy1).trans hy2).trans hy3)) hT.dat) ?_
 rintro _ y4 ⟨rfl,hy4⟩
 refine⟨.inr hy4.keep,?_⟩
 simp (disch:=first|omega|assumption|rfl) only[go_sem]
 have a1:=zbE hT.ow.1 hT.ow.2
 have a2:=zbs 19 u (by omega)
 have a3:=zfv hT.ty.1 hT.ty.2
 have a4:(zcQ hexU r.dat).length≤300000000:=by
  have:=za7 [32] (zbD hexU r.dat)
  unfold zcQ
  rw[show ([32]:Lab).length=1 from rfl]at this
  omega
 obtain⟨xs,hxs⟩:∃xs:List Lab,[zbx r.owner,Lib.decDigits u,[73,78],tyT r.dat.ty,zcQ hexU r.dat]=xs:=⟨_,rfl⟩
 have hxl:xs.length=5:=by rw[←hxs];rfl
 have hln:zar xs≤1000000000:=by
  rw[←hxs]
  simp only[zar,List.map_cons,List.map_nil,List.sum_cons,List.sum_nil,List.length_cons,List.length_nil]
  omega
 have hrt:recT r=zby [32] xs:=by unfold recT numT;rw[←hxs,hu,Int.toNat_natCast]
 refine zbf (z:=vs []) (l:=xs.map vs) (by rw[List.length_map,hxl]) (by rw[←hxs];rfl) rfl rfl rfl rfl (fun v hv=>by obtain⟨q,_,rfl⟩:=List.mem_map.1 hv;rfl) (by rw[List.length_map];omega) ?_
 intro y5 hy5 hys5 hyo
 refine⟨.inr hy5.keep,?_⟩
 simp (disch:=first|omega|assumption|rfl) only[go_sem]
 refine Fn.mono (zc7 (sep:=[32]) hyo.row (by omega) (by decide) (by decide) hln) ?_
 rintro _ y6 ⟨rfl,hy6⟩
 refine⟨.inr hy6.keep,?_⟩
 simp (disch:=first|omega|assumption|rfl) only[go_sem]
 refine hK _ _ ?_;clear hK hgd;clear K;try clear gd
 repeat refine c_r ?_
 refine rt0 Tryz.ntmps113 ?_
 rw[hrt]
 exact⟨rfl,(((((hEx.trans hy1).trans hy2).trans hy3).trans hy4).trans hy5).trans hy6⟩
end Go.Proofs.YtanmnkbccfcagaaGreatDoor
