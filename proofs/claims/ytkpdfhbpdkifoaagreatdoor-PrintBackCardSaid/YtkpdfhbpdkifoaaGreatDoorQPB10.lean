/-
  Texts of a proof, joined: LO, LQ, LR, LS, LT, QF, NB, QG, QH, QI, QM, QW, Y3, M6rq, QX, QY.
  Conditions: none.
-/
import Derived.Test.YtkpdfhbpdkifoaaGreatDoorQPB09
import Derived.Test.YtkpdfhbpdkifoaaGreatDoorQPB05
import Derived.Test.YtkpdfhbpdkifoaaGreatDoorQPB03
import Derived.Test.YtkpdfhbpdkifoaaGreatDoorQPB08
import Derived.Test.YtkpdfhbpdkifoaaGreatDoorQPB06
import Derived.Test.YtkpdfhbpdkifoaaGreatDoorQPB07
import Derived.Test.YtkpdfhbpdkifoaaGreatDoorQPB01
import Derived.Test.YtkpdfhbpdkifoaaGreatDoorQPB04
import Derived.Test.YtkpdfhbpdkifoaaGreatDoorQPB02
set_option linter.unusedVariables false
set_option linter.unusedSimpArgs false
set_option linter.defProp false
set_option linter.unnecessarySimpa false
set_option maxHeartbeats 8000000
namespace Go.Proofs.YtkpdfhbpdkifoaaGreatDoor
open Go
set_option maxRecDepth 10000
def cw(x:Lab×Bool):List Value:=[vs x.1,.bool x.2]
theorem ziT{w:World}{v:Value}{ws:List (Lab×Bool)}:Rows 2 WdC w v ws↔RowK 2 w v (ws.map cw):=by
 constructor
 ·rintro⟨L,h1,h2,h3⟩
  have:L=ws.map cw:=by
   refine List.ext_getElem (by simpa using h2) fun i hi hj=>?_
   rw[List.getElem_map]
   exact h3 i hi (by simpa using hj)
  rw[←this];exact h1
 ·intro h
  exact⟨_,h,by simp,fun i hi hj=>by rw[List.getElem_map];exact rfl⟩
theorem numI_few(a b d:Int):(numI a b d).1.length≤4096:=by
 unfold numI
 split
 ·exact Nat.zero_le _
 ·rename_i h1
  split
  ·exact Nat.zero_le _
  ·rename_i h2
   obtain⟨x,y,z,rfl,rfl,rfl,hxy,hy,hz⟩:=zhQ (by simpa using h1)
   have hdv:((y:Int) - (x:Int)) / (z:Int)=(((y - x) / z:Nat):Int):=by rw[Int.natCast_ediv];congr 1;omega
   rw[hdv]at h2
   show(zcS _ _ _).length≤_
   rw[zfO]
   simp only[Int.toNat_natCast]
   omega
def PutIs(s:Lab)(n:Int)(out:Lab):Prop:=∀w,WX w→Fn Tryz.prog 160 #[vs s,vi n] w (fun v w'=>v= .tuple #[vs out,vi 0]∧Ext w w')
structure PutsIs(ws:List (Lab×Bool))(n:Int)(vs':List (Lab×Bool)):Prop where
 len:vs'.length=ws.length
 put:∀i (h:i<ws.length) (h':i<vs'.length),PutIs ws[i].1 n vs'[i].1
 flag:∀i (h:i<ws.length) (h':i<vs'.length),vs'[i].2=ws[i].2
inductive zgV(ws:List (Lab×Bool)):LdS→List Int→LdS→Prop
 |done (st:LdS):zgV ws st [] st
 |more (st:LdS) (n:Int) (ns:List Int) (o:Lab) (q:Bool) (r:List (Lab×Bool)) (st1 st2:LdS):PutsIs ws n ((o,q)::r)→o.length≤1000000→(za6 o st.origin).2=0→AddR {st with owner:=some (za6 o st.origin).1} Option.none r 0 st1→zgV ws st1 ns st2→zgV ws st (n::ns) st2
theorem cw_set{ws vs':List (Lab×Bool)}{i:Nat}(h:i<ws.length)(h':i<vs'.length)(hf:vs'[i].2=ws[i].2):((vs'.take i++ws.drop i).map cw).set i ((((vs'.take i++ws.drop i).map cw)[i]'(by simp;omega)).set 0 (vs vs'[i].1))=(vs'.take (i+1)++ws.drop (i+1)).map cw:=by
 have e1:vs'.take i++ws.drop i=vs'.take i++ws[i]::ws.drop (i+1):=by rw[List.drop_eq_getElem_cons h]
 have hl:(vs'.take i).length=i:=by rw[List.length_take];omega
 have e2:((vs'.take i++ws.drop i).map cw)[i]'(by simp;omega)=cw ws[i]:=by
  rw[List.getElem_map]
  congr 1
  rw[List.getElem_append_right (by omega)]
  simp[hl]
 rw[e2,e1,List.map_append,List.map_cons,List.set_append_right _ _ (by rw[List.length_map,hl];exact Nat.le_refl _)]
 rw[show i - ((vs'.take i).map cw).length=0 by rw[List.length_map,hl,Nat.sub_self],List.set_cons_zero]
 rw[show (cw ws[i]).set 0 (vs vs'[i].1)=cw vs'[i] by unfold cw;rw[hf];rfl]
 rw[zak h',List.map_append,List.map_append,List.append_assoc]
 rfl
section
variable {D : Nat → Prop} {B b : Nat} {w x : World} {fs : Value → World → Prop} {st : LdS} {fv ov rv orv owv : Value} {G : List (RecL × List Value)}
theorem zjb{W0:World}(hX:WX W0)(hE0:Ext W0 w)(hb0:W0.heap.size≤b)(h:LdX D B w b fs st){wv:Value}{r:Lab}{ws:List (Lab×Bool)}{st':LdS}(hw:Hz (fun i=>b≤i∧¬D i) w (fun X=>Rows 2 WdC X wv ((r,false)::ws)))
  {a c d:Nat} {ns:List Int} (hra:zbS r=((a,c,d),0)) (hnu:numI a c d=(ns,0)) (hrun:zgV ws st ns st') (hrl:r.length≤1000000) (hl3:3≤ws.length) (hl:ws.length≤1000) (hb1:∀x∈ws.take 2,x.2=false) (hd:d≤9223372036854775807):
  Fn Tryz.prog 132 #[.pointer (some ⟨b,0,Option.none⟩),wv] w (fun v w'=>v=vi 0∧LdX D B w' b fs st'∧za7 D b w w'):=by
 obtain⟨wa,wc,rfl,hcap,hwg⟩:=hw.now.open
 have hbl:=h.lt
 have hDd:=h.dd
 have hX3:∀{X:World},za7 D b w X→WX X:=fun hk=>hX.ext (Keep.to_ext hE0 rfl (fun i hi=>by omega) hk)
 obtain⟨xa,rfl,x1,hx1,c0,hcut,hdr⟩:∃xa,wa=some xa∧∃x1:Addr,adr (some xa) 1=some x1∧zad w (some xa)=some (vs r)∧Rows 2 WdC w (.slice wa 3 wc) (((r,false)::ws).take 3)∧∀X,Rows 2 WdC X (.slice wa ((r,false)::ws).length wc) ((r,false)::ws)→Rows 2 WdC X (.slice (if wc=1 then wa else adr wa (1*2)) (((r,false)::ws).length - 1) (wc - 1)) ws:=by
  obtain⟨xa,cc,he,hc,c0,x1,hx1,c1⟩:=row1 hw.now
  injection he with he1 he2 he3
  subst he1
  refine⟨xa,rfl,x1,hx1,c0,?_,fun X h=>h.drop (m:=1) (by simp)⟩
  exact hw.now.take (by rw[List.length_cons];omega) (by rw[List.length_cons]at hcap;omega)
 have d4:decide (((((r,false)::ws).length:Nat):Int)<4)=false:=decide_eq_false (by rw[List.length_cons];omega)
 have l3:(3:Int)≤(wc:Int):=by rw[List.length_cons]at hcap;omega
 have t3:(3:Int).toNat=3:=rfl
 have z3:(0:Int)≤3:=by decide
 have z0:(0:Int)≤0:=by decide
 have l1:(0:Int)<((((r,false)::ws).length:Nat):Int):=by rw[List.length_cons];omega
 refine enter Tryz.func132 Tryz.ntmps132 rfl rfl ?_
 refine go trivial ?_
 refine rcg [(3,15)] (an9 d4 l3 t3 z3 Nat.sub_zero Nat.zero_mul zam (show(if wc=0 then some xa else some xa)=some xa from by split<;>rfl) trivial) (zgT hcut (by rw[List.length_take];omega) (fun x hx=>?_)) ?_
 ·rcases List.mem_cons.1 (show x∈(r,false)::ws.take 2 from hx) with rfl|hx
  ·rfl
  ·exact hb1 x hx
 rintro _ w1 ⟨rfl,hE1⟩
 refine reg [(3,15)] (an2 d4 trivial) ?_
 refine go trivial ?_
 have c0':=zab hE1 c0
 refine rq ?_;intro gd K hgd hK
 try simp (disch:=first|omega|assumption|rfl) only[go_sem,z0,l1,Int.toNat_zero,Nat.zero_mul,zam,c0']
 refine Fn.mono (Parse_ok (hX3 (hE1.mono fun _ _ h=>h.elim)) r hrl) ?_
 rintro _ w2 ⟨rfl,hE2⟩
 rw[hra]
 try simp only[go_sem]
 refine zbm (P:=Tryz.prog) (l:=[vi a,vi c,vi d]) rfl (fun v hv=>by simp at hv;rcases hv with rfl|rfl|rfl<;>rfl) rfl rfl ?_
 intro w3 hE3 hs3 hA3
 try simp only[go_sem]
 refine hK _ _ ?_;clear hK hgd;clear K;try clear gd
 have hE03:=((hE1.trans hE2).trans hE3)
 refine go (show decide ((0:Int)=0)=true from rfl) ?_
 have q3:=zal (n:=3) (l:=[vi a,vi c,vi d]) hA3 rfl
 refine rc q3 (zjn w3 a c d (by omega)) ?_
 rintro _ w4 ⟨lv,rfl,hrn,hE4,hlv⟩
 rw[hnu]at hrn ⊢
 obtain⟨na,nc,rfl,hnc,hng⟩:=hrn
 simp only[List.length_map]at hng hnc hlv ⊢
 have hE04:=hE03.trans hE4
 have hs04:=hE04.size
 have hs03:=hE03.size
 have hnsl:ns.length≤4096:=by have:=numI_few a c d;rw[hnu]at this;exact this
 obtain⟨D1,hD1⟩:∃D1:Nat→Prop,D1=fun i=>D i∨(w.heap.size≤i∧i<w4.heap.size):=⟨_,rfl⟩
 have h4:LdX D1 B w4 b fs st:=h.step hE04 (fun i hi=>by rw[hD1]at hi;exact hi)
 have hKL:∀{X Y:World},za7 D1 b X Y→za7 D b X Y:=fun hk=>hk.mono fun i _ h=>⟨h.1,fun hd=>h.2 (by rw[hD1];exact .inl hd)⟩
 have hkw4:za7 D b w w4:=hE04.mono fun _ _ h=>h.elim
 have l2:(1:Int)≤((((r,false)::ws).length:Nat):Int):=by rw[List.length_cons];omega
 have l4:(1:Int)≤(wc:Int):=by rw[List.length_cons]at hcap;omega
 have z1:(0:Int)≤1:=by decide
 have t1:(1:Int).toNat=1:=rfl
 refine rgo (show decide ((0:Int)=0)=true from rfl) ?_
 refine zbq ns.length (fun i σ v=>(σ 0= .pointer (some ⟨b,0,Option.none⟩)∧σ 1= .slice (some xa) ((r,false)::ws).length wc∧σ 40= .slice na ns.length nc∧σ 41=vi ns.length∧σ 42=vi i)∧∃sti,LdX D1 B v b fs sti∧zgV ws sti (ns.drop i) st'∧za7 D1 b w4 v) ?_ ?_ ?_
 ·exact⟨⟨vr0,vr0,vr0,vr0,vr0⟩,st,h4,hrun,Keep.refl _ _⟩
 ·rintro i σ v hi rr ⟨⟨s0,s1,s40,s41,s42⟩,sti,hv,hgr,hkv⟩
  rw[List.drop_eq_getElem_cons hi]at hgr
  obtain⟨n,hn⟩:∃n,ns[i]=n:=⟨_,rfl⟩
  have g0:=hng i (by simpa using hi)
  rw[List.getElem_map,hn]at g0
  rw[hn]at hgr
  have g:zad v (adr na i)=some (vi n):=zeX hkv (fun y hy hb=>by
   cases na with
   |none=>cases hy
   |some z=>
    have:=hlv z _ _ rfl
    have e:y.block=z.block:=by injection hy with hy;rw[←hy];exact zcj z i
    exact hb.2 (by rw[hD1,e];exact .inr (by omega))) g0
  cases hgr with
  |more _ _ _ o q rest st1 _ hput hol ho0 hadd hgr=>
   obtain⟨vs',hvs⟩:∃l,(o,q)::rest=l:=⟨_,rfl⟩
   rw[hvs]at hput
   have hkwv:=hkw4.trans (hKL hkv)
   have hrv:=hdr v (hw v hkwv)
   obtain⟨xn,rfl⟩:=Option.isSome_iff_exists.1 (zai g)
   obtain⟨xi,hxi⟩:∃xi,adr (some xn) (i*1)=some xi:=⟨_,rfl⟩
   have hi0:(0:Int)≤(i:Int):=by omega
   have hi1:(i:Int)<(ns.length:Int):=by omega
   have hi2:(i:Int)+1=((i+1:Nat):Int):=by push_cast;rfl
   have hsv:=hkv.size
   refine go (an9 s0 s1 s40 s41 s42 (show adr (some xn) (i*1)=adr (some xn) i by rw[Nat.mul_one]) g (an3 hi0 hi1 Int.toNat_natCast) rr) ?_
   refine rc (an5 s1 l2 l4 z1 t1) (S_wd.Clone_ok (ziT.1 hrv) (fun x hx=>?_) (fun x hx=>?_) (by rw[List.length_map];omega)) ?_
   ·obtain⟨y,_,rfl⟩:=List.mem_map.1 hx;rfl
   ·obtain⟨y,_,rfl⟩:=List.mem_map.1 hx;intro z hz;simp[cw]at hz;rcases hz with rfl|rfl<;>rfl
   rintro u v1 ⟨hu,hE1v⟩
   have hs1v:=hE1v.size
   have hwl:(ws.map cw).length=ws.length:=List.length_map ..
   obtain⟨p,cap,rfl,hpv,hcp,hcm,hSD⟩:∃p cap,u= .slice (some ⟨p,0,Option.none⟩) ws.length cap∧v.heap.size≤p∧ws.length≤cap∧cap≤maxLen∧SD 2 v1 p 164 cap (ws.map cw):=by
    rcases hu.cases with ⟨_,e⟩| ⟨p,cap,e,h1,h2,h3,h4⟩
    ·have:ws.length=0:=by rw[←hwl,e];rfl
     omega
    ·rw[hwl]at e h2
     exact⟨p,cap,e,h1,h2,h3,h4⟩
   have hvl:=hput.len
   refine rgo trivial ?_
   refine zas (Q:=fun e' σ' ds' v'=>e'= .exit 2∧ds'=[]∧(σ' 0= .pointer (some ⟨b,0,Option.none⟩)∧σ' 1= .slice (some xa) ((r,false)::ws).length wc∧σ' 40= .slice (some xn) ns.length nc∧σ' 41=vi ns.length∧σ' 42=vi i∧σ' 10= .slice (some ⟨p,0,Option.none⟩) ws.length cap)∧SD 2 v' p 164 cap (vs'.map cw)∧Ext v v') ?_ ?_
   ·refine zbq ws.length (fun j σ v'=>(σ 0= .pointer (some ⟨b,0,Option.none⟩)∧σ 1= .slice (some xa) ((r,false)::ws).length wc∧σ 40= .slice (some xn) ns.length nc∧σ 41=vi ns.length∧σ 42=vi i∧σ 10= .slice (some ⟨p,0,Option.none⟩) ws.length cap∧σ 9=vi n∧σ 50=vi ws.length∧σ 51=vi j)∧SD 2 v' p 164 cap ((vs'.take j++ws.drop j).map cw)∧Ext v v') ?_ ?_ ?_
    ·exact⟨⟨(vr1 s0),(vr1 s1),(vr1 s40),(vr1 s41),(vr1 s42),vr0,vr0,vr0,vr0⟩,by simpa using hSD,hE1v⟩
    ·rintro j σ1 v2 hj r1 ⟨⟨s0,s1,s40,s41,s42,s10,s9,s50,s51⟩,hSD2,hE2v⟩
     have hjv:j<vs'.length:=by omega
     obtain⟨y,hy⟩:∃y,ws[j]=y:=⟨_,rfl⟩
     obtain⟨y',hy'⟩:∃y,vs'[j]=y:=⟨_,rfl⟩
     have hP:=hput.put j hj hjv
     rw[hy,hy']at hP
     have hDl:j<((vs'.take j++ws.drop j).map cw).length:=by simp;omega
     have gj:=hSD2.get hDl
     have eDj:((vs'.take j++ws.drop j).map cw)[j]=cw y:=by
      rw[List.getElem_map]
      congr 1
      rw[List.getElem_append_right (by rw[List.length_take];omega),List.getElem_drop,←hy]
      congr 1
      rw[List.length_take];omega
     rw[eDj]at gj
     have gj0:zad v2 (some ⟨p,j*2,Option.none⟩)=some (vs y.1):=by
      have:=zaN gj (j:=0) (by simp[cw])
      rw[zam]at this
      exact this
     have j0:(0:Int)≤(j:Int):=by omega
     have j1:(j:Int)<(ws.length:Int):=by omega
     have j2:(j:Int)+1=((j+1:Nat):Int):=by push_cast;rfl
     have aj:adr (some (⟨p,0,Option.none⟩:Addr)) (j*2)=some ⟨p,j*2,Option.none⟩:=by rw[zaZ,Nat.zero_add]
     refine go (an9 s0 s1 s40 s41 s42 s10 s9 s50 (an2 s51 r1)) ?_
     refine rq ?_;intro gd K hgd hK
     try simp (disch:=first|omega|assumption|rfl) only[go_sem,s9,s10,j0,j1,aj,gj0,Nat.add_zero,Int.toNat_natCast]
     refine Fn.mono (hP v2 (hX3 (hkwv.trans (hE2v.mono fun _ _ h=>h.elim)))) ?_
     rintro _ v2' ⟨rfl,hE2'⟩
     try simp (disch:=first|omega|assumption|rfl) only[go_sem,s10,s9,j0,j1,aj,Nat.add_zero,Int.toNat_natCast]
     refine SD.setAt (P:=Tryz.prog) (t:=9) (hSD2.ext hE2') (j:=j) (i:=0) hDl (by decide) rfl rfl rfl ?_
     intro v3 hs3v hSD3 hk3v
     try simp only[go_sem]
     refine hK _ _ ?_;clear hK hgd;clear K;try clear gd
     refine go (an9 s0 s1 s40 s41 s42 s10 s9 s50 (an4 s51 (show decide ((0:Int)=0)=true from rfl) j2 r1)) ?_
     have hset:=cw_set hj hjv (hput.flag j hj hjv)
     rw[hy']at hset
     rw[hset]at hSD3
     exact⟨rfl,⟨(vq1 s0),(vq1 s1),(vq1 s40),(vq1 s41),(vq1 s42),(vq1 s10),(vq1 s9),(vq1 s50),(vq1 j2)⟩,hSD3,Keep.to_ext (hE2v.trans hE2') rfl (fun i hi=>by omega) hk3v⟩
    ·rintro σ1 v2 r1 ⟨⟨s0,s1,s40,s41,s42,s10,s9,s50,s51⟩,hSD2,hE2v⟩
     refine go (an9 s0 s1 s40 s41 s42 s10 s50 s51 r1) ?_
     rw[List.drop_length,List.append_nil,List.take_of_length_le (by omega)]at hSD2
     exact⟨rfl,rfl,⟨(vr1 s0),(vr1 s1),(vr1 s40),(vr1 s41),(vr1 s42),(vr1 s10)⟩,hSD2,hE2v⟩
   rintro _ σ2 _ v3 ⟨rfl,rfl,⟨s0,s1,s40,s41,s42,s10⟩,hSD3,hE3v⟩
   have hs3v:=hE3v.size
   have hpl:=hSD3.lt
   obtain⟨D2,hD2⟩:∃D2:Nat→Prop,D2=fun i=>D1 i∨(v.heap.size≤i∧i<v3.heap.size):=⟨_,rfl⟩
   have h3:LdX D2 B v3 b fs sti:=hv.step hE3v (fun i hi=>by rw[hD2]at hi;exact hi)
   have hp2:D2 p:=by rw[hD2];exact .inr ⟨hpv,hpl⟩
   have hvl':vs'.length=ws.length:=hvl
   have hrows:Rows 2 WdC v3 (.slice (some ⟨p,0,Option.none⟩) ws.length cap) vs':=by
    have:=(OwnK.of_sd hSD3 hpv (by rw[List.length_map];omega) hcm).rowK
    rw[List.length_map,hvl']at this
    exact ziT.2 this
   rw[←hvs]at hrows
   obtain⟨xa',c',he',hc',cc0,x1',hx1',cc1⟩:=row1 hrows
   injection he' with he1 he2 he3
   injection he1 with he1
   subst he1 he3
   have hl0:(0:Int)<(ws.length:Int):=by omega
   have hl1':(1:Int)≤(ws.length:Int):=by omega
   have hl2:(1:Int)≤(cap:Int):=by omega
   have hf:ownF sti o={sti with owner:=some (za6 o sti.origin).1}:=if_pos ho0
   refine go trivial ?_
   refine rc (an9 s0 s10 z0 hl0 Int.toNat_zero Nat.zero_mul zam cc0 trivial) (zl0 h3 o (by omega)) ?_
   rintro _ v4 ⟨rfl,h4v,hk4v⟩
   rw[hf]at h4v
   rw[ho0]
   refine rgo (show decide ((0:Int)=0)=true from rfl) ?_
   have hrows4:Rows 2 WdC v4 (.slice (some ⟨p,0,Option.none⟩) ws.length cap) ((o,q)::rest):=by
    have:=(OwnK.of_sd (hSD3.keep hk4v (fun h=>h.2 hp2)) hpv (by rw[List.length_map];omega) hcm).rowK
    rw[List.length_map,hvl',←hvs]at this
    exact ziT.2 this
   have hrl2:rest.length≤1000000:=by have:=congrArg List.length hvs;rw[List.length_cons]at this;omega
   have hrd:=hrows4.drop (m:=1) (by omega)
   have hkw4v:za7 D b v v4:=(hE3v.mono fun _ _ h=>h.elim).trans (hk4v.mono fun i _ h=>⟨h.1,fun hd=>h.2 (by rw[hD2,hD1];exact .inl (.inl hd))⟩)
   refine rq ?_;intro gd K hgd hK
   try simp (disch:=first|omega|assumption|rfl) only[go_sem,s0,s10,hl1',hl2,z1,t1]
   refine⟨by kernel_rfl,?_⟩
   rw[show bdV Tryz.prog 84 []=some (tmV Option.none) from by kernel_rfl]
   try simp (disch:=first|omega|assumption|rfl) only[go_sem,s0,s10,hl1',hl2,z1,t1]
   refine Fn.mono (add_ok (hX3 (hkwv.trans hkw4v)) h4v hrd hadd hrl2) ?_
   rintro _ v5 ⟨rfl,h5v,hk5v⟩
   try simp only[go_sem]
   refine hK _ _ ?_;clear hK hgd;clear K;try clear gd
   refine go (an8 s0 s1 s40 s41 s42 (show decide ((0:Int)=0)=true from rfl) hi2 rr) ?_
   refine⟨rfl,⟨(vq1 s0),(vq1 s1),(vq1 s40),(vq1 s41),(vq1 hi2)⟩,_,h5v.step (Keep.refl _ _) (fun i hi=> .inl (by rw[hD2];exact .inl hi)),hgr,hkv.trans ((hE3v.mono fun _ _ h=>h.elim).trans ((hk4v.trans hk5v).mono fun i _ h=>⟨h.1,fun hd=>h.2 (by rw[hD2];exact .inl hd)⟩))⟩
 ·rintro σ v rr ⟨⟨s0,s1,s40,s41,s42⟩,sti,hv,hgr,hkv⟩
  rw[List.drop_length]at hgr
  cases hgr
  refine go (an6 s0 s1 s40 s41 s42 rr) ?_
  refine rt0 Tryz.ntmps132 ?_
  exact⟨rfl,hv.step (Keep.refl _ _) (fun i hi=> .inl (by rw[hD1];exact .inl hi)),hkw4.trans (hKL hkv)⟩
end
theorem zg1{w:World}{v:Value}{ps:List Lab}(h:Row w v (ps.map vs)):∃a c,v= .slice a ps.length c∧ps.length≤c∧∀i (hi:i<ps.length),∃x,a=some x∧zad w (adr (some x) i)=some (vs ps[i]):=by
 obtain⟨a,c,rfl,hc,hg⟩:=h
 refine⟨a,c,by rw[List.length_map],by simpa using hc,fun i hi=>?_⟩
 have g:=hg i (by rw[List.length_map];exact hi)
 rw[List.getElem_map]at g
 obtain⟨x,rfl⟩:=Option.isSome_iff_exists.1 (zai g)
 exact⟨x,rfl,g⟩
theorem znv{w:World}{lv:Value}{l:List Lab}{n:Lab}(hl:Row w lv (l.map vs))(hlen:l.length≤1000000000):
  Fn Tryz.prog 178 #[lv,vs n] w (fun v w'=>(∃k,v=vi k∧decide (k≥0)=decide (n∈l))∧w'=w):=by
 obtain⟨a,c,rfl,_,hga⟩:=zg1 hl
 refine enter Tryz.func178 Tryz.ntmps178 rfl rfl ?_
 refine go trivial ?_
 refine zbq l.length (fun i σ v=>(σ 8=vi i∧σ 7=vi l.length∧σ 0= .slice a l.length c∧σ 1=vs n)∧v=w∧n∉l.take i) ?_ ?_ ?_
 ·exact⟨⟨vr0,vr0,vq0,vq0⟩,rfl,by simp⟩
 ·rintro i σ v hi r ⟨s,rfl,ht⟩
  obtain⟨x1,rfl,g1⟩:=hga i hi
  by_cases h:n=l[i]
  ·refine go (an4 s r g1 (decide_eq_true h)) ?_
   refine rt0 Tryz.ntmps178 ?_
   exact⟨⟨(i:Int),rfl,by rw[decide_eq_true (show(i:Int)≥0 by omega),decide_eq_true (h▸List.getElem_mem hi)]⟩,rfl⟩
  ·refine go (an4 s r g1 (decide_eq_false h)) ?_
   refine⟨rfl,sc (an2 s r),rfl,fun hm=>?_⟩
   rw[zak hi]at hm
   rcases List.mem_append.1 hm with hm|hm
   ·exact ht hm
   ·exact h (List.mem_singleton.1 hm)
 ·rintro σ v r ⟨s,rfl,ht⟩
  rw[List.take_length]at ht
  refine go (an2 s r) ?_
  refine rt0 Tryz.ntmps178 ?_
  exact⟨⟨-1,rfl,by rw[decide_eq_false ht];rfl⟩,rfl⟩
theorem ziS{w:World}{lv:Value}{l:List Lab}{n:Lab}(hl:Row w lv (l.map vs))(hlen:l.length≤1000000000):
  Fn Tryz.prog 156 #[lv,vs n] w (fun v w'=>v= .bool (decide (n∈l))∧w'=w):=by
 obtain⟨a,c,rfl,_⟩:=id (zg1 hl)
 refine enter Tryz.func156 Tryz.ntmps156 rfl rfl ?_
 refine go trivial ?_
 refine rc trivial (znv (n:=n) hl hlen) ?_
 rintro _ _ ⟨⟨k,rfl,hk⟩,rfl⟩
 refine rgo hk ?_
 refine rt0 Tryz.ntmps156 ?_
 exact⟨rfl,rfl⟩
def OutAt(b:Nat)(w:World)(v:Value):Option FltL→Prop
 |Option.none=>v= .pointer Option.none
 |some f=>∃p,p≠b∧v= .pointer (some ⟨p,0,Option.none⟩)∧w.heap[p]? =some (.cells #[vs f.path,vi f.line,vi f.err] 116 (0,0))
theorem OutAt.keep{b:Nat}{w x:World}{v:Value}{o:Option FltL}(h:OutAt b w v o)(hk:Keep (fun i=>i=b) w x):OutAt b x v o:=by
 cases o with
 |none=>exact h
 |some f=>
  obtain⟨p,h1,h2,h3⟩:=h
  exact⟨p,h1,h2,(hk.block p (Array.getElem?_eq_some_iff.1 h3).1 h1).trans h3⟩
def fltE(st:LdS)(e:Int):Option FltL:=if e=0 then Option.none else some ⟨st.path,st.line,e⟩
def FlOk(W0:World)(B b:Nat)(fl:List (Lab×Lab))(inc:LdS→Lab→Option FltL→LdS→Prop):Prop:=∀(D:Nat→Prop) (w:World) (fs:Value→World→Prop) (st:LdS) (p:Lab) (o:Option FltL) (st':LdS),(∀v X,fs v X→Rows 2 zfc X v fl)→Ext W0 w→LdX D B w b fs st→inc st p o st'→
 Fn Tryz.prog 32 #[.pointer (some ⟨b,0,Option.none⟩),vs p] w (fun v w'=>OutAt b w' v o∧LdX D B w' b fs st'∧za7 D b w w')
inductive zlg(fl:List (Lab×Lab))(inc:LdS→Lab→Option FltL→LdS→Prop)(st:LdS)(p:Lab)(o:Nm):Option FltL→LdS→Prop
 |ring:(zde p fl).2=true→p∈st.reads→zlg fl inc st p o (fltE st 9) st
 |deep:(zde p fl).2=true→p∉st.reads→8<st.reads.length→zlg fl inc st p o (fltE st 10) st
 |read (out:Option FltL) (st1:LdS):(zde p fl).2=true→p∉st.reads→st.reads.length≤8→0≤st.many→st.many<64→inc {st with many:=st.many+1,origin:=o} p out st1→zlg fl inc st p o out {st with out:=st1.out,reads:=st1.reads,many:=st1.many}
inductive zlk(fl:List (Lab×Lab))(inc:LdS→Lab→Option FltL→LdS→Prop)(st:LdS):List (Lab×Bool)→Option FltL→LdS→Prop
 |one (p:Lab) (q:Bool) (out:Option FltL) (st':LdS):zlg fl inc st p st.origin out st'→zlk fl inc st [(p,q)] out st'
 |bad (p s:Lab) (q:Bool):s.length≤1000000→¬(za6 s st.origin).2=0→zlk fl inc st [(p,q),(s,false)] (fltE st (za6 s st.origin).2) st
 |two (p s:Lab) (q:Bool) (out:Option FltL) (st':LdS):s.length≤1000000→(za6 s st.origin).2=0→NmT (za6 s st.origin).1→zlg fl inc st p (za6 s st.origin).1 out st'→zlk fl inc st [(p,q),(s,false)] out st'
section
variable {D : Nat → Prop} {B b : Nat} {w x : World} {fs : Value → World → Prop} {st : LdS} {fv ov rv orv owv : Value} {G : List (RecL × List Value)}
theorem zcZ{e:Int}{p:Value}(h:LdX D B w b fs st)(hp:p= .pointer (some ⟨b,0,Option.none⟩)):Fn Tryz.prog 97 #[p,vi e] w (fun v w'=>OutAt b w' v (fltE st e)∧Ext w w'):=by
 subst hp
 by_cases he:e=0
 ·subst he
  refine Fn.mono (fault_no w _) ?_
  rintro _ w' ⟨rfl,hw⟩
  rw[hw]
  exact⟨rfl,Keep.refl _ _⟩
 ·refine Fn.mono (fault_ok h he) ?_
  rintro _ w' ⟨hE,p,rfl,hp⟩
  unfold fltE
  rw[if_neg he]
  refine⟨⟨p,fun e=>?_,rfl,hp⟩,hE⟩
  obtain⟨fv,ov,rv,orv,owv,G,h⟩:=h.ext hE
  have:=h.h
  rw[e]at hp
  rw[hp]at this
  injection this with this
  injection this with h1
  have:=congrArg Array.size h1
  exact absurd this (by show¬(3:Nat)=13;decide)
def OwR(X:World)(v:Value):Option Nm→Prop
 |some n=>Row X v (n.map vs)
 |Option.none=>v= .slice Option.none 0 0
theorem ownR{M:Nat→Prop}{w:World}{v:Value}{o:Option Nm}:OwnerZ M w v o↔Hz M w (fun X=>OwR X v o):=by
 cases o with
 |none=>exact⟨fun h _ _=>h,fun h=>h.now⟩
 |some n=>exact Iff.rfl
theorem LX.to{fs':Value→World→Prop}(h:LX D B w b fs st fv ov rv orv owv G)(hf:∀v X,fs v X→fs' v X):LX D B w b fs' st fv ov rv orv owv G:={h with ff:=fun X hX=>hf _ _ (h.ff X hX)}
theorem ask_len{fl:List (Lab×Lab)}{inc:LdS→Lab→Option FltL→LdS→Prop}{ws:List (Lab×Bool)}{out:Option FltL}{st':LdS}(h:zlk fl inc st ws out st'):1≤ws.length∧ws.length≤2∧∀x∈ws.drop 1,x.2=false:=by
 cases h with
 |one p q _ _ _=>exact⟨by simp,by simp,fun x hx=>by cases hx⟩
 |bad p s q _ _=>exact⟨by simp,by simp,fun x hx=>by rw[List.mem_singleton.1 hx]⟩
 |two p s q _ _ _ _ _ _=>exact⟨by simp,by simp,fun x hx=>by rw[List.mem_singleton.1 hx]⟩
theorem zkM{W0:World}(hX:WX W0)(hE0:Ext W0 w)(hb0:W0.heap.size≤b)(h:LdX D B w b fs st){fl:List (Lab×Lab)}{inc:LdS→Lab→Option FltL→LdS→Prop}{wv:Value}{ws:List (Lab×Bool)}{out:Option FltL}{st':LdS}(hF:∀v X,fs v X→Rows 2 zfc X v fl)(hfl:fl.length≤1000000)(hrl:st.reads.length≤1000)(hw':Hz (fun i=>b≤i∧¬D i) w (fun X=>Rows 2 WdC X wv ws))(hq:zlk fl inc st ws out st')(hc:FlOk W0 B b fl inc):
  Fn Tryz.prog 131 #[.pointer (some ⟨b,0,Option.none⟩),wv] w (fun v w'=>OutAt b w' v out∧LdX D B w' b fs st'∧za7 D b w w'):=by
 have hw:=hw'.now
 obtain⟨hn1,hn2,hnb⟩:=ask_len hq
 obtain⟨n,hn⟩:∃n,ws.length=n:=⟨_,rfl⟩
 have hb1:=h.lt
 have hDd:=h.dd
 obtain⟨fv,ov,rv,orv,owv,G,h⟩:=h
 have hbB:=h.lt
 have hBw:=h.le
 obtain⟨p,q,rest,rfl⟩:∃p q rest,ws=(p,q)::rest:=by
  cases ws with
  |nil=>simp at hn1
  |cons x r=>exact⟨x.1,x.2,r,rfl⟩
 obtain⟨xa,wc,rfl,hcap,c0,x1,hx1,c1⟩:=row1 hw
 have hdr:=hw.drop (m:=1) (by simp)
 rw[List.length_cons]at hn
 rw[hn]at hdr hcap hw hw' ⊢
 have hDb:¬D b:=fun hd=>by have:=hDd b hd;omega
 rw[List.drop_one,List.tail_cons]at hdr hnb
 have hn1:1≤n:=by omega
 have hn2:n≤2:=by rw[List.length_cons]at hn2;omega
 have z0:(0:Int)≤0:=by decide
 have z1:(0:Int)≤1:=by decide
 have t1:(1:Int).toNat=1:=rfl
 have l0:(0:Int)<(n:Int):=by omega
 have l1:(1:Int)≤(n:Int):=by omega
 have l2:(1:Int)≤(wc:Int):=by omega
 have d1:decide ((n:Int)<1)=false:=decide_eq_false (by omega)
 have d2:decide ((2:Int)<(n:Int))=false:=decide_eq_false (by omega)
 refine enter Tryz.func131 Tryz.ntmps131 rfl rfl ?_
 refine go trivial ?_
 refine rcg [(3,15),(8,20)] (an6 d1 d2 l1 l2 z1 t1) (zgT hdr (by omega) hnb) ?_
 rintro _ w1 ⟨rfl,hE1⟩
 refine reg [(3,15),(8,20)] (an2 d1 d2) ?_
 have h1:=h.ext hE1
 have q9:zar w1 (some ⟨b,4,Option.none⟩) 9=some [vs st.path,vi st.line,orv,owv,.bool st.owner.isSome,.int .u32 (st.ttl.getD 0),.bool st.ttl.isSome,.int .u32 (st.last.getD 0),.bool st.last.isSome]:=by
  have h13:=zal (n:=13) h1.h rfl
  have:=zbI (m:=4) (k:=9) h13
  rw[zaZ]at this
  exact this
 have hone:∀v∈([vs st.path,vi st.line,orv,owv,.bool st.owner.isSome,.int .u32 (st.ttl.getD 0),.bool st.ttl.isSome,.int .u32 (st.last.getD 0),.bool st.last.isSome]:List Value),one v=true:=fun v hv=>by
  simp only[List.mem_cons,List.not_mem_nil,or_false]at hv
  rcases hv with rfl|rfl|rfl|rfl|rfl|rfl|rfl|rfl|rfl
  ·rfl
  ·rfl
  ·exact h.fo.now.isOne
  ·exact h.fw.one
  all_goals rfl
 refine go trivial ?_
 refine rq ?_;intro gd K hgd hK
 try simp (disch:=first|omega|assumption|rfl) only[go_sem,q9]
 refine zbm (P:=Tryz.prog) (l:=[vs st.path,vi st.line,orv,owv,.bool st.owner.isSome,.int .u32 (st.ttl.getD 0),.bool st.ttl.isSome,.int .u32 (st.last.getD 0),.bool st.last.isSome]) rfl hone rfl rfl ?_
 intro w2 hE2 hs2 hA
 try simp only[go_sem]
 refine hK _ _ ?_;clear hK hgd;clear K;try clear gd
 obtain⟨A,hAe⟩:∃A,w1.heap.size=A:=⟨_,rfl⟩
 rw[hAe]at hA hs2 ⊢
 have hs1:=hE1.size
 have hE02:=hE1.trans hE2
 obtain⟨D1,hD1⟩:∃D1:Nat→Prop,D1=fun i=>D i∨i=A:=⟨_,rfl⟩
 have hKL:∀{X Y:World},za7 D1 b X Y→za7 D b X Y:=fun hk=>hk.mono fun i _ h=>⟨h.1,fun hd=>h.2 (by rw[hD1];exact .inl hd)⟩
 have hAD:D1 A:=by rw[hD1];exact .inr rfl
 have h2:LX D1 B w2 b fs st fv ov rv orv owv G:=h.step hE02 (fun i hi=>by rw[hD1]at hi;rcases hi with hi|hi;exact .inl hi;exact .inr (by omega))
 have q2:zad w2 (some ⟨A,2,Option.none⟩)=some orv:=zaa hA rfl
 have hbad:∀{X:World},Ext w2 X→LdX D B X b fs st∧za7 D b w X:=fun hE=>⟨⟨_,_,_,_,_,_,(h.ext hE02).ext hE⟩,(hE02.trans hE).mono fun _ _ h=>h.elim⟩
 refine go (an2 q2 Nat.zero_add) ?_
 refine zas (Q:=fun e' σ' ds' v'=>ds'=[]∧Ext w2 v'∧((e'= .ret∧OutAt b v' (σ' 4) out∧st'=st)∨
  (e'= .normal∧∃o orow,(σ' 0= .pointer (some ⟨b,0,Option.none⟩)∧σ' 1= .slice (some xa) n wc∧σ' 5= .pointer (some ⟨A,0,Option.none⟩)∧σ' 6=orow)∧NmT o∧Hz (MutL D1 b ov rv) v' (fun X=>Row X orow (o.map vs))∧zlg fl inc st p o out st'))) ?_ ?_
 ·cases hq with
  |one _ _ _ _ hi=>
   obtain rfl:n=1:=by simp at hn;omega
   refine go (show decide (((1:Nat):Int)=2)=false from rfl) ?_
   exact⟨rfl,Keep.refl _ _,.inr ⟨rfl,st.origin,orv,⟨vr0,vr0,vr0,vr0⟩,h.ot,h2.fo,hi⟩⟩
  |bad _ s _ hsl he=>
   obtain rfl:n=2:=by simp at hn;omega
   obtain⟨cs,g0,hcs⟩:=(zdj hw).2.2 1 (by simp)
   unfold WdC at hcs
   rw[hcs]at g0
   obtain⟨x2,hx2⟩:∃x2,adr (some xa) (1*2)=some x2:=⟨_,rfl⟩
   have g1:zad w2 (some x2)=some (vs s):=by
    have:=zaN (zah hE02 g0) (j:=0) (by simp)
    rw[zam,hx2]at this
    exact this
   refine go (show decide (((2:Nat):Int)=2)=true from rfl) ?_
   refine rc (an8 z1 (show(1:Int)<((2:Nat):Int) by decide) t1 (Nat.one_mul 2) hx2 zam g1 (Nat.add_zero 0)) (zcM w2 s orv st.origin (by omega) h2.fo.now h2.ot) ?_
   rintro _ w3 ⟨hE3,nv,rfl,hr,hk⟩
   refine rgo (decide_eq_false he) ?_
   refine rc trivial (zcZ (st:=st) ⟨_,_,_,_,_,_,h2.ext hE3⟩ rfl) ?_
   rintro fv' w4 ⟨ho4,hE4⟩
   refine rgo trivial ?_
   exact⟨rfl,hE3.trans hE4,.inl ⟨rfl,ho4,rfl⟩⟩
  |two _ s _ _ _ hsl he hnt hi=>
   obtain rfl:n=2:=by simp at hn;omega
   obtain⟨cs,g0,hcs⟩:=(zdj hw).2.2 1 (by simp)
   unfold WdC at hcs
   rw[hcs]at g0
   obtain⟨x2,hx2⟩:∃x2,adr (some xa) (1*2)=some x2:=⟨_,rfl⟩
   have g1:zad w2 (some x2)=some (vs s):=by
    have:=zaN (zah hE02 g0) (j:=0) (by simp)
    rw[zam,hx2]at this
    exact this
   refine go (show decide (((2:Nat):Int)=2)=true from rfl) ?_
   refine rc (an8 z1 (show(1:Int)<((2:Nat):Int) by decide) t1 (Nat.one_mul 2) hx2 zam g1 (Nat.add_zero 0)) (zcM w2 s orv st.origin (by omega) h2.fo.now h2.ot) ?_
   rintro _ w3 ⟨hE3,nv,rfl,hr,hk⟩
   rw[he]
   refine rgo (show decide ((0:Int)=0)=true from rfl) ?_
   exact⟨rfl,hE3,.inr ⟨rfl,_,nv,⟨vr0,vr0,vr0,vr0⟩,hnt,zi0 hr hk (fun i hi=>(h2.mut i hi).2),hi⟩⟩
 rintro e' σ3 _ w3 ⟨rfl,hE3,(⟨rfl,ho3,rfl⟩| ⟨rfl,o,orow,⟨s0,s1,s5,s6⟩,hnt,hor,hi⟩)⟩
 ·repeat refine c_r ?_
  refine rt0 Tryz.ntmps131 ?_
  exact⟨ho3,hbad hE3⟩
 have h3:=h2.ext hE3
 have hE03:=hE02.trans hE3
 have k0:zad w3 (some ⟨b,0,Option.none⟩)=some fv:=zaa h3.h rfl
 have c03:=zab hE03 c0
 have hff:=hF fv w3 h3.ff.now
 have hfound:(zde p fl).2=true:=by cases hi<;>assumption
 refine go trivial ?_
 repeat refine c_r ?_
 refine zas (Q:=fun e' σ' ds' v'=>e'= .normal∧ds'=[]∧(σ' 0= .pointer (some ⟨b,0,Option.none⟩)∧σ' 1= .slice (some xa) n wc∧σ' 5= .pointer (some ⟨A,0,Option.none⟩)∧σ' 6=orow∧σ' 10= .bool true)∧Ext w3 v') ?_ ?_
 ·refine zaF (fun _=>false) [(0,true),(1,true),(2,true),(3,true),(4,true),(5,true),(6,true),(7,true),(8,false),(9,true),(10,true),(11,true),(12,true),(13,true)] NoS mixed (by kernel_rfl) ?_;intro gd K x hgd hx hxe hK;have hx0:=zaT hxe;clear hxe
  have k0x:=zab hx0 k0
  have c0x:=zab hx0 c03
  simp (disch:=first|omega|assumption|rfl) only[go_sem,s0,s1,k0x,c0x,z0,l0,Int.toNat_zero,Nat.zero_mul,zam]
  refine Fn.mono (zjs (hF fv x (h3.ext hx0).ff.now) hfl p) ?_
  rintro _ y1 ⟨rfl,hy1⟩
  refine⟨.inr hy1,?_⟩
  rw[hfound]
  simp (disch:=first|omega|assumption|rfl) only[go_sem]
  refine hK _ _ ?_;clear hK hgd;clear K;try clear gd
  exact⟨rfl,rfl,⟨(vr1 s0),(vr1 s1),(vr1 s5),(vr1 s6),vr0⟩,hx0.trans hy1⟩
 rintro _ σ4 _ w4 ⟨rfl,rfl,⟨s0,s1,s5,s6,s10⟩,hE4⟩
 have h4:=h3.ext hE4
 have hE04:=hE03.trans hE4
 have k2:zad w4 (some ⟨b,2,Option.none⟩)=some rv:=zaa h4.h rfl
 have c04:=zab hE4 c03
 refine go (an2 s10 Bool.not_true) ?_
 repeat refine c_r ?_
 refine zas (Q:=fun e' σ' ds' v'=>e'= .normal∧ds'=[]∧(σ' 0= .pointer (some ⟨b,0,Option.none⟩)∧σ' 1= .slice (some xa) n wc∧σ' 5= .pointer (some ⟨A,0,Option.none⟩)∧σ' 6=orow∧σ' 69= .bool (decide (p∈st.reads)))∧Ext w4 v') ?_ ?_
 ·refine zaF (fun _=>false) [(0,true),(1,true),(2,true),(3,true),(4,true),(5,true),(6,true),(7,true),(8,false),(9,true)] NoS mixed (by kernel_rfl) ?_;intro gd K x hgd hx hxe hK;have hx0:=zaT hxe;clear hxe
  have k2x:=zab hx0 k2
  have c0x:=zab hx0 c04
  simp (disch:=first|omega|assumption|rfl) only[go_sem,s0,s1,k2x,c0x,z0,l0,Int.toNat_zero,Nat.zero_mul,zam]
  refine Fn.mono (ziS (n:=p) (h4.ext hx0).ow.row (by omega)) ?_
  rintro _ v' ⟨rfl,hv'⟩
  rw[hv']
  clear hv' v'
  refine⟨.inr (Keep.refl _ _),?_⟩
  simp (disch:=first|omega|assumption|rfl) only[go_sem]
  refine hK _ _ ?_;clear hK hgd;clear K;try clear gd
  exact⟨rfl,rfl,⟨(vr1 s0),(vr1 s1),(vr1 s5),(vr1 s6),vr0⟩,hx0⟩
 rintro _ σ5 _ w5 ⟨rfl,rfl,⟨s0,s1,s5,s6,s69⟩,hE5⟩
 have h5:=h4.ext hE5
 have hE25:Ext w2 w5:=(hE3.trans hE4).trans hE5
 have c05:=zab hE5 c04
 have hA5:=Ext.at hE25 hA
 have k25:zad w5 (some ⟨b,2,Option.none⟩)=some rv:=zaa h5.h rfl
 have k35:zad w5 (some ⟨b,3,Option.none⟩)=some (vi st.many):=zaa h5.h rfl
 obtain⟨ra,rc',rfl,hrc⟩:∃ra rc',rv= .slice ra st.reads.length rc'∧True:=by
  obtain⟨a,c,e,_⟩:=zg1 h5.ow.row
  exact⟨a,c,e,trivial⟩
 cases hi with
 |ring hf hm=>
  refine go (an2 s69 (decide_eq_true hm)) ?_
  refine rc s0 (zcZ (st:=st) ⟨_,_,_,_,_,_,h5⟩ rfl) ?_
  rintro fv' w6 ⟨ho6,hE6⟩
  refine rgo trivial ?_
  refine rt0 Tryz.ntmps131 ?_
  exact⟨ho6,hbad (hE25.trans hE6)⟩
 |deep hf hm hr8=>
  refine go (an6 s0 s69 (decide_eq_false hm) k25 Nat.zero_add (decide_eq_true (show(8:Int)<(st.reads.length:Int) by omega))) ?_
  refine rc s0 (zcZ (st:=st) ⟨_,_,_,_,_,_,h5⟩ rfl) ?_
  rintro fv' w6 ⟨ho6,hE6⟩
  refine rgo trivial ?_
  refine rt0 Tryz.ntmps131 ?_
  exact⟨ho6,hbad (hE25.trans hE6)⟩
 |read _ st1 hf hm hr8 hm0 hm64 hinc=>
  have wm:IntKind.i64.wrap (st.many+1)=st.many+1:=zd5 (by omega) (by omega)
  refine go (an7 s0 s69 (decide_eq_false hm) k25 Nat.zero_add (decide_eq_false (show¬(8:Int)<(st.reads.length:Int) by omega)) (an2 k35 (decide_eq_false (show¬(64:Int)≤st.many by omega)))) ?_
  have hor5:Hz (MutL D1 b ov (.slice ra st.reads.length rc')) w5 (fun X=>Row X orow (o.map vs)):=Hz.app hor (hE4.trans hE5) (fun _ _ h=>h.elim) (fun _ _ h=>h)
  have h1or:one orow=true:=hor5.now.isOne
  refine rq ?_;intro gd K hgd hK
  try simp (disch:=first|omega|assumption|rfl) only[go_sem,s0,k35,wm,Nat.zero_add]
  refine zaq (P:=Tryz.prog) rfl rfl rfl h5.h (by show(3:Nat)<13;decide) (by simp) ?_
  intro w6 hs6 hb6 hk6
  try simp only[go_sem]
  refine hK _ _ ?_;clear hK hgd;clear K;try clear gd
  have h6:LX D1 B w6 b fs {st with many:=st.many+1} fv ov _ orv owv G:=LX.turn h5 (st':={st with many:=st.many+1}) hk6 hb6 rfl rfl h5.fo h5.fw h5.ot
  have hor6:Hz (MutL D1 b ov (.slice ra st.reads.length rc')) w6 (fun X=>Row X orow (o.map vs)):=Hz.app hor5 hk6 (fun i _ e=> .inl e) (fun _ _ h=>h)
  refine go trivial ?_
  refine rq ?_;intro gd K hgd hK
  try simp (disch:=first|omega|assumption|rfl) only[go_sem,s0,s6,Nat.zero_add]
  refine zaq (P:=Tryz.prog) rfl rfl h1or h6.h (by show(6:Nat)<13;decide) (by simp) ?_
  intro w7 hs7 hb7 hk7
  try simp only[go_sem]
  refine hK _ _ ?_;clear hK hgd;clear K;try clear gd
  have h7:LX D1 B w7 b fs {st with many:=st.many+1,origin:=o} fv ov _ orow owv G:=LX.turn h6 (st':={st with many:=st.many+1,origin:=o}) hk7 hb7 rfl rfl hor6 h6.fw hnt
  have hkb:Keep (fun i=>i=b) w5 w7:=hk6.trans hk7
  have hfo5:Hz (MutL D1 b ov (.slice ra st.reads.length rc')) w7 (fun X=>Row X orv (st.origin.map vs)):=Hz.app h5.fo hkb (fun i _ e=> .inl e) (fun _ _ h=>h)
  have hfw5:Hz (MutL D1 b ov (.slice ra st.reads.length rc')) w7 (fun X=>OwR X owv st.owner):=Hz.app (ownR.1 h5.fw) hkb (fun i _ e=> .inl e) (fun _ _ h=>h)
  have h7':LX D1 B w7 b (fun v X=>fs v X∧Row X orv (st.origin.map vs)∧OwR X owv st.owner) {st with many:=st.many+1,origin:=o} fv ov _ orow owv G:={h7 with ff:=fun X hX=>⟨h7.ff X hX,hfo5 X hX,hfw5 X hX⟩}
  have hAb:¬A=b:=by have:=hbB;omega
  have hA7:=(hkb.block A (by have:=hE25.size;omega) hAb).trans hA5
  have hkw7:za7 D b w w7:=((hE04.trans hE5).mono fun _ _ h=>h.elim).trans (hkb.mono fun i _ e=>⟨by omega,by rw[e];exact hDb⟩)
  have c07:zad w7 (some xa)=some (vs p):=by
   obtain⟨xa',_,e',_,c0',_⟩:=row1 (hw' w7 hkw7)
   injection e' with e1
   rw[e1];exact c0'
  have hE07:Ext W0 w7:=Keep.to_ext (hE0.trans (hE04.trans hE5)) rfl (fun i hi=>by omega) hkb
  refine go trivial ?_
  refine rc (an7 s0 s1 z0 l0 Int.toNat_zero Nat.zero_mul (an2 zam c07)) (hc D1 w7 _ _ p out st1 (fun v X h=>hF v X h.1) hE07 ⟨_,_,_,_,_,_,h7'⟩ hinc) ?_
  rintro fv' w8 ⟨ho8,h8,hk8⟩
  obtain⟨fv8,ov8,rv8,orv8,owv8,G8,h8⟩:=h8
  have hA8:=(hk8.block A (by have:=hE25.size;have:=hkb.size;omega) fun h=>h.2 hAD).trans hA7
  have q8:zar w8 (some ⟨A,0,Option.none⟩) 9=some [vs st.path,vi st.line,orv,owv,.bool st.owner.isSome,.int .u32 (st.ttl.getD 0),.bool st.ttl.isSome,.int .u32 (st.last.getD 0),.bool st.last.isSome]:=zal (n:=9) (l:=[vs st.path,vi st.line,orv,owv,.bool st.owner.isSome,.int .u32 (st.ttl.getD 0),.bool st.ttl.isSome,.int .u32 (st.last.getD 0),.bool st.last.isSome]) hA8 rfl
  refine rgo trivial ?_
  refine rq ?_;intro gd K hgd hK
  try simp (disch:=first|omega|assumption|rfl) only[go_sem,s0,s5,q8,Nat.zero_add]
  refine zeG (P:=Tryz.prog) [fv8,ov8,rv8,vi st1.many] [vs st1.path,vi st1.line,orv8,owv8,.bool st1.owner.isSome,.int .u32 (st1.ttl.getD 0),.bool st1.ttl.isSome,.int .u32 (st1.last.getD 0),.bool st1.last.isSome] (B:=[]) (l:=[vs st.path,vi st.line,orv,owv,.bool st.owner.isSome,.int .u32 (st.ttl.getD 0),.bool st.ttl.isSome,.int .u32 (st.last.getD 0),.bool st.last.isSome]) h8.h rfl hone rfl rfl ?_
  intro w9 hs9 hb9 hk9
  try simp only[go_sem]
  refine hK _ _ ?_;clear hK hgd;clear K;try clear gd
  have h9:LX D1 B w9 b _ {st with out:=st1.out,reads:=st1.reads,many:=st1.many} fv8 ov8 rv8 orv owv G8:=LX.turn h8 (st':={st with out:=st1.out,reads:=st1.reads,many:=st1.many}) hk9 hb9 rfl rfl (fun X hX=>(h8.ff X hX).2.1) (ownR.2 fun X hX=>(h8.ff X hX).2.2) h5.ot
  refine go trivial ?_
  refine rt0 Tryz.ntmps131 ?_
  refine⟨?_,⟨_,_,_,_,_,_,(h9.to fun v X h=>h.1).step (Keep.refl _ _) fun i hi=> .inl (by rw[hD1];exact .inl hi)⟩,?_⟩
  ·exact ho8.keep hk9
  ·exact(hkw7.trans (hKL hk8)).trans (hk9.mono fun i _ e=>⟨by omega,by rw[e];exact hDb⟩)
end
abbrev wInc:Lab:=[36,73,78,67,76,85,68,69]
abbrev wGen:Lab:=[36,71,69,78,69,82,65,84,69]
abbrev wOrg:Lab:=[36,79,82,73,71,73,78]
abbrev wTtl:Lab:=[36,84,84,76]
inductive DirIs(fl:List (Lab×Lab))(inc:LdS→Lab→Option FltL→LdS→Prop)(st:LdS):List (Lab×Bool)→Option FltL→LdS→Prop
 |incl (ws:List (Lab×Bool)) (out:Option FltL) (st':LdS):zlk fl inc st ws out st'→DirIs fl inc st ((wInc,false)::ws) out st'
 |gen (r:Lab) (ws:List (Lab×Bool)) (a c d:Nat) (ns:List Int) (st':LdS):zbS r=((a,c,d),0)→numI a c d=(ns,0)→zgV ws st ns st'→r.length≤1000000→3≤ws.length→ws.length≤1000→(∀x∈ws.take 2,x.2=false)→d≤9223372036854775807→DirIs fl inc st ((wGen,false)::(r,false)::ws) Option.none st'
 |ttl (s:Lab):s.length≤1000000000→DirIs fl inc st [(wTtl,false),(s,false)] (fltE st (decP 2147483647 s).2) (if (decP 2147483647 s).2=0 then{st with ttl:=some ((decP 2147483647 s).1:Int)} else st)
 |org (s:Lab) (n:Nm):s.length≤1000000→za6 s st.origin=(n,0)→NmT n→DirIs fl inc st [(wOrg,false),(s,false)] Option.none {st with origin:=n}
 |other (t:Lab) (ws:List (Lab×Bool)):[36].isPrefixOf t=true→t≠wInc→t≠wGen→t≠wOrg→t≠wTtl→DirIs fl inc st ((t,false)::ws) (fltE st 4) st
inductive EntIs(fl:List (Lab×Lab))(inc:LdS→Lab→Option FltL→LdS→Prop)(st:LdS):EntL→Option FltL→LdS→Prop
 |blank (ln:Int) (t:Lab) (q:Bool) (ws:List (Lab×Bool)) (e:Int) (st':LdS):ws.length<100000→RecR st true ((t,q)::ws) e st'→EntIs fl inc st ⟨ln,true,(t,q)::ws⟩ (fltE st' e) st'
 |rcd (ln:Int) (t:Lab) (ws:List (Lab×Bool)) (e:Int) (st':LdS):ws.length<100000→[36].isPrefixOf t=false→RecR st false ((t,false)::ws) e st'→EntIs fl inc st ⟨ln,false,(t,false)::ws⟩ (fltE st' e) st'
 |dir (ln:Int) (t:Lab) (ws:List (Lab×Bool)) (out:Option FltL) (st':LdS):[36].isPrefixOf t=true→DirIs fl inc st ((t,false)::ws) out st'→EntIs fl inc st ⟨ln,false,(t,false)::ws⟩ out st'
section
variable {D : Nat → Prop} {B b : Nat} {w x : World} {fs : Value → World → Prop} {st : LdS} {fv ov rv orv owv : Value} {G : List (RecL × List Value)}
theorem zlK(h:LdX D B w b fs st)(s:Lab)(hl:s.length≤500000000){n:Nm}(hn:za6 s st.origin=(n,0))(hnT:NmT n):Fn Tryz.prog 133 #[.pointer (some ⟨b,0,Option.none⟩),vs wOrg,vs s] w (fun v w'=>v=vi 0∧LdX D B w' b fs {st with origin:=n}∧za7 D b w w'):=by
 obtain⟨fv,ov,rv,orv,owv,G,h⟩:=h
 have k6:zad w (some ⟨b,6,Option.none⟩)=some orv:=zaa h.h rfl
 have hD:¬D b:=fun e=>by have:=(h.dd b e).1;omega
 refine enter Tryz.func133 Tryz.ntmps133 rfl rfl ?_
 refine go (show decide (wOrg=([36,84,84,76]:Lab))=false from rfl) ?_
 refine rc (an3 k6 Nat.zero_add Nat.add_zero) (zcM w s orv st.origin hl h.fo.now h.ot) ?_
 rintro _ w1 ⟨hE1,nv,rfl,hr,hk⟩
 rw[hn]at hr ⊢
 have h1:=h.ext hE1
 obtain⟨na,nc,rfl,_⟩:=id hr
 simp only[List.length_map]at hr hk ⊢
 refine rgo (show decide ((0:Int)=0)=true from rfl) ?_
 refine rq ?_;intro gd K hgd hK
 try simp (disch:=first|omega|assumption|rfl) only[go_sem,Nat.zero_add]
 refine zaq (P:=Tryz.prog) rfl rfl rfl h1.h (by show(6:Nat)<13;decide) (by simp) ?_
 intro w3 hs3 hb3 hk3
 try simp only[go_sem]
 refine hK _ _ ?_;clear hK hgd;clear K;try clear gd
 refine go trivial ?_
 refine rt0 Tryz.ntmps133 ?_
 refine⟨rfl,⟨fv,ov,rv,.slice na n.length nc,owv,G,LX.turn h1 (st':={st with origin:=n}) hk3 hb3 rfl rfl (zi0 (w:=w) hr hk fun i hi=>(h.mut i hi).2) h1.fw hnT⟩,?_⟩
 exact(hE1.mono fun _ _ h=>h.elim).trans (hk3.mono fun i _ e=>⟨by omega,by rw[e];exact hD⟩)
theorem ziw{W0:World}(hX:WX W0)(hE0:Ext W0 w)(hb0:W0.heap.size≤b)(h:LdX D B w b fs st){fl:List (Lab×Lab)}{inc:LdS→Lab→Option FltL→LdS→Prop}{wv:Value}{ws:List (Lab×Bool)}{out:Option FltL}{st':LdS}(hF:∀v X,fs v X→Rows 2 zfc X v fl)(hfl:fl.length≤1000000)(hrl:st.reads.length≤1000)(hw:Hz (fun i=>b≤i∧¬D i) w (fun X=>Rows 2 WdC X wv ws))(hq:DirIs fl inc st ws out st')(hc:FlOk W0 B b fl inc):
  Fn Tryz.prog 96 #[.pointer (some ⟨b,0,Option.none⟩),wv] w (fun v w'=>OutAt b w' v out∧LdX D B w' b fs st'∧za7 D b w w'):=by
 have hX1:∀{X:World},Ext w X→WX X:=fun hE=>hX.ext (hE0.trans hE)
 have z0:(0:Int)≤0:=by decide
 have z1:(0:Int)≤1:=by decide
 have t1:(1:Int).toNat=1:=rfl
 obtain⟨t,r,rfl⟩:∃t r,ws=(t,false)::r:=by cases hq<;>exact⟨_,_,rfl⟩
 obtain⟨xa,c,rfl,hcc,c0,x1,hx1,c1⟩:=row1 hw.now
 have l0:(0:Int)<((r.length+1:Nat):Int):=by omega
 have l1:(1:Int)≤((r.length+1:Nat):Int):=by omega
 have l2:(1:Int)≤(c:Int):=by omega
 have hdr:Hz (fun i=>b≤i∧¬D i) w (fun X=>Rows 2 WdC X (.slice (if c=1 then some xa else adr (some xa) (1*2)) (r.length+1 - 1) (c - 1)) r):=fun X hX=>(hw X hX).drop (m:=1) (by omega)
 refine enter Tryz.func96 Tryz.ntmps96 rfl rfl ?_
 refine go trivial ?_
 refine go (an7 z0 l0 Int.toNat_zero Nat.zero_mul zam c0 trivial) ?_
 cases hq with
 |incl _ _ _ hq=>
  refine go (show decide (wInc=([36,73,78,67,76,85,68,69]:Lab))=true from rfl) ?_
  refine rc (an4 l1 l2 z1 t1) (zkM hX hE0 hb0 h hF hfl hrl hdr hq hc) ?_
  rintro u w1 ⟨ho,h1,hk1⟩
  refine rgo trivial ?_
  refine rt0 Tryz.ntmps96 ?_
  exact⟨ho,h1,hk1⟩
 |gen rg r2 a cc d ns _ hr hn hg hl1 hl3 hl4 hb1 hd=>
  refine go (an2 (show decide (wGen=([36,73,78,67,76,85,68,69]:Lab))=false from rfl) (show decide (wGen=([36,71,69,78,69,82,65,84,69]:Lab))=true from rfl)) ?_
  refine rc (an4 l1 l2 z1 t1) (zjb hX hE0 hb0 h hdr hr hn hg hl1 hl3 hl4 hb1 hd) ?_
  rintro _ w1 ⟨rfl,h1,hk1⟩
  refine rgo trivial ?_
  refine rc trivial (zcZ (st:=st') h1 rfl) ?_
  rintro u w2 ⟨ho,hE2⟩
  refine rgo trivial ?_
  refine rt0 Tryz.ntmps96 ?_
  exact⟨ho,h1.ext hE2,hk1.trans (hE2.mono fun _ _ h=>h.elim)⟩
 |ttl s hs=>
  obtain⟨cs,g0,hcs⟩:=(zdj hw.now).2.2 1 (by simp)
  unfold WdC at hcs
  rw[hcs]at g0
  obtain⟨x2,hx2⟩:∃x2,adr (some xa) (1*2)=some x2:=⟨_,rfl⟩
  rw[hx2]at g0
  have g1:zad w (some x2)=some (vs s):=by
   have:=zaN g0 (j:=0) (by simp)
   rw[zam]at this
   exact this
  obtain⟨x3,hx3⟩:∃x3,adr (some x2) 1=some x3:=⟨_,rfl⟩
  have g2:zad w (some x3)=some (.bool false):=by
   have:=zaN g0 (j:=1) (by simp)
   rw[hx3]at this
   exact this
  obtain⟨m,hm⟩:∃m,([(s,false)]:List (Lab×Bool)).length+1=m:=⟨_,rfl⟩
  have hm2:m=2:=by rw[←hm];rfl
  rw[hm]
  have d2:decide ((m:Int)=2)=true:=decide_eq_true (by omega)
  have l3:(1:Int)<(m:Int):=by omega
  refine go (an4 (show decide (wTtl=wInc)=false from rfl) (show decide (wTtl=wGen)=false from rfl) (show decide (wTtl=wOrg)=false from rfl) (show decide (wTtl=wTtl)=true from rfl)) ?_
  refine rgg [(3,28)] (an9 d2 l3 z1 t1 hx2 (Nat.one_mul 2) hx3 g2 Bool.not_false) ?_
  refine go trivial ?_
  repeat refine c_r ?_
  refine zas (Q:=fun e' σ' ds' v'=>e'= .normal∧ds'=[]∧(σ' 0= .pointer (some ⟨b,0,Option.none⟩)∧σ' 5=vi (decP 2147483647 s).2)∧LdX D B v' b fs (if (decP 2147483647 s).2=0 then{st with ttl:=some ((decP 2147483647 s).1:Int)} else st)∧za7 D b w v') ?_ ?_
  ·refine zaF (fun i=>i==9) [(0,true),(1,true),(2,true),(3,true),(4,true),(5,true),(6,true),(7,true),(8,true),(9,false),(10,true)] NoS mixed (by kernel_rfl) ?_;intro gd K x hgd hx hxe hK;have hx0:=zaT hxe;clear hxe
   have c0x:=zab hx0 c0
   have g1x:=zab hx0 g1
   simp (disch:=first|omega|assumption|rfl) only[go_sem,c0x,g1x,z0,z1,l3,t1,hx2,Nat.one_mul,Int.toNat_zero,Nat.zero_mul,zam]
   refine Fn.mono (zlI (hX1 hx0) (h.ext hx0) s hs) ?_
   rintro _ y1 ⟨rfl,h1,hk1⟩
   refine⟨.inl rfl,?_⟩
   simp (disch:=first|omega|assumption|rfl) only[go_sem]
   refine hK _ _ ?_;clear hK hgd;clear K;try clear gd
   exact⟨rfl,rfl,⟨vr0,vr0⟩,h1,(hx0.mono fun _ _ h=>h.elim).trans hk1⟩
  rintro _ σ2 _ w2 ⟨rfl,rfl,⟨s0,s5⟩,h2,hk2⟩
  obtain⟨st1,hst1⟩:∃x,(if (decP 2147483647 s).2=0 then{st with ttl:=some ((decP 2147483647 s).1:Int)} else st)=x:=⟨_,rfl⟩
  rw[hst1]at h2 ⊢
  have hfl2:fltE st (decP 2147483647 s).2=fltE st1 (decP 2147483647 s).2:=by rw[←hst1];unfold fltE;split<;>rfl
  rw[hfl2]
  refine go trivial ?_
  refine rc (an2 s0 s5) (zcZ (st:=st1) h2 rfl) ?_
  rintro u w3 ⟨ho,hE3⟩
  refine rgo trivial ?_
  refine rt0 Tryz.ntmps96 ?_
  exact⟨ho,h2.ext hE3,hk2.trans (hE3.mono fun _ _ h=>h.elim)⟩
 |org s n hs hn hnT=>
  obtain⟨cs,g0,hcs⟩:=(zdj hw.now).2.2 1 (by simp)
  unfold WdC at hcs
  rw[hcs]at g0
  obtain⟨x2,hx2⟩:∃x2,adr (some xa) (1*2)=some x2:=⟨_,rfl⟩
  rw[hx2]at g0
  have g1:zad w (some x2)=some (vs s):=by
   have:=zaN g0 (j:=0) (by simp)
   rw[zam]at this
   exact this
  obtain⟨x3,hx3⟩:∃x3,adr (some x2) 1=some x3:=⟨_,rfl⟩
  have g2:zad w (some x3)=some (.bool false):=by
   have:=zaN g0 (j:=1) (by simp)
   rw[hx3]at this
   exact this
  obtain⟨m,hm⟩:∃m,([(s,false)]:List (Lab×Bool)).length+1=m:=⟨_,rfl⟩
  have hm2:m=2:=by rw[←hm];rfl
  rw[hm]
  have d2:decide ((m:Int)=2)=true:=decide_eq_true (by omega)
  have l3:(1:Int)<(m:Int):=by omega
  refine go (an4 (show decide (wOrg=wInc)=false from rfl) (show decide (wOrg=wGen)=false from rfl) (show decide (wOrg=wOrg)=true from rfl) trivial) ?_
  refine rgg [(3,28)] (an9 d2 l3 z1 t1 hx2 (Nat.one_mul 2) hx3 g2 Bool.not_false) ?_
  refine go trivial ?_
  repeat refine c_r ?_
  refine zas (Q:=fun e' σ' ds' v'=>e'= .normal∧ds'=[]∧(σ' 0= .pointer (some ⟨b,0,Option.none⟩)∧σ' 5=vi 0)∧LdX D B v' b fs {st with origin:=n}∧za7 D b w v') ?_ ?_
  ·refine zaF (fun i=>i==9) [(0,true),(1,true),(2,true),(3,true),(4,true),(5,true),(6,true),(7,true),(8,true),(9,false),(10,true)] NoS mixed (by kernel_rfl) ?_;intro gd K x hgd hx hxe hK;have hx0:=zaT hxe;clear hxe
   have c0x:=zab hx0 c0
   have g1x:=zab hx0 g1
   simp (disch:=first|omega|assumption|rfl) only[go_sem,c0x,g1x,z0,z1,l3,t1,hx2,Nat.one_mul,Int.toNat_zero,Nat.zero_mul,zam]
   refine Fn.mono (zlK (h.ext hx0) s (by omega) hn hnT) ?_
   rintro _ y1 ⟨rfl,h1,hk1⟩
   refine⟨.inl rfl,?_⟩
   simp (disch:=first|omega|assumption|rfl) only[go_sem]
   refine hK _ _ ?_;clear hK hgd;clear K;try clear gd
   exact⟨rfl,rfl,⟨vr0,vr0⟩,h1,(hx0.mono fun _ _ h=>h.elim).trans hk1⟩
  rintro _ σ2 _ w2 ⟨rfl,rfl,⟨s0,s5⟩,h2,hk2⟩
  refine go trivial ?_
  refine rc (an2 s0 s5) (zcZ (st:={st with origin:=n}) h2 rfl) ?_
  rintro u w3 ⟨ho,hE3⟩
  refine rgo trivial ?_
  refine rt0 Tryz.ntmps96 ?_
  exact⟨ho,h2.ext hE3,hk2.trans (hE3.mono fun _ _ h=>h.elim)⟩
 |other _ _ hp n1 n2 n3 n4=>
  refine go (an4 (decide_eq_false n1) (decide_eq_false n2) (decide_eq_false n3) (decide_eq_false n4)) ?_
  refine rc trivial (zcZ (st:=st) h rfl) ?_
  rintro u w2 ⟨ho,hE2⟩
  refine rgo trivial ?_
  refine rt0 Tryz.ntmps96 ?_
  exact⟨ho,h.ext hE2,hE2.mono fun _ _ h=>h.elim⟩
theorem zj6{W0:World}(hX:WX W0)(hE0:Ext W0 w)(hb0:W0.heap.size≤b)(h:LdX D B w b fs st){fl:List (Lab×Lab)}{inc:LdS→Lab→Option FltL→LdS→Prop}{wv:Value}{en:EntL}{out:Option FltL}{st':LdS}(hF:∀v X,fs v X→Rows 2 zfc X v fl)(hfl:fl.length≤1000000)(hrl:st.reads.length≤1000)(hw:Hz (fun i=>b≤i∧¬D i) w (fun X=>Rows 2 WdC X wv en.words))(hq:EntIs fl inc st en out st')(hc:FlOk W0 B b fl inc):
  Fn Tryz.prog 62 #[.pointer (some ⟨b,0,Option.none⟩),.agg #[vi en.line,.bool en.blank,wv]] w (fun v w'=>OutAt b w' v out∧LdX D B w' b fs st'∧za7 D b w w'):=by
 have z0:(0:Int)≤0:=by decide
 obtain⟨t,q,r,hr⟩:∃t q r,en.words=(t,q)::r:=by cases hq<;>exact⟨_,_,_,rfl⟩
 rw[hr]at hw
 obtain⟨xa,c,rfl,hcc,c0,x1,hx1,c1⟩:=row1 hw.now
 have l0:(0:Int)<((r.length+1:Nat):Int):=by omega
 have g0:zar w (some xa) 2=some [vs t,.bool q]:=by
  obtain⟨cs,g,hcs⟩:=(zdj hw.now).2.2 0 (by simp)
  unfold WdC at hcs
  rw[hcs,Nat.zero_mul,zam]at g
  exact g
 refine enter Tryz.func62 Tryz.ntmps62 rfl rfl ?_
 refine go trivial ?_
 refine zan ?_
 intro w1 hE1 hs1 hA
 have q2:zad w1 (some ⟨w.heap.size,2,Option.none⟩)=some (.slice (some xa) (r.length+1) c):=zaa hA rfl
 have g01:=zah hE1 g0
 refine go (an2 q2 Nat.zero_add) ?_
 refine rq ?_;intro gd K hgd hK
 try simp (disch:=first|omega|assumption|rfl) only[go_sem,q2,z0,l0,Int.toNat_zero,Nat.zero_mul,zam,g01,Nat.zero_add]
 refine zbm (P:=Tryz.prog) (l:=[vs t,.bool q]) rfl (fun v hv=>by simp at hv;rcases hv with rfl|rfl<;>rfl) rfl rfl ?_
 intro w2 hE2 hs2 hB
 try simp only[go_sem]
 refine hK _ _ ?_;clear hK hgd;clear K;try clear gd
 have hE02:=hE1.trans hE2
 have hA2:=Ext.at hE2 hA
 have p1:zad w2 (some ⟨w.heap.size,1,Option.none⟩)=some (.bool en.blank):=zaa hA2 rfl
 have p2:zad w2 (some ⟨w.heap.size,2,Option.none⟩)=some (.slice (some xa) (r.length+1) c):=zaa hA2 rfl
 have p3:zar w2 (some ⟨w.heap.size,0,Option.none⟩) 3=some [vi en.line,.bool en.blank,.slice (some xa) (r.length+1) c]:=zal (n:=3) (l:=[vi en.line,.bool en.blank,.slice (some xa) (r.length+1) c]) hA2 rfl
 have r0:zad w2 (some ⟨w1.heap.size,0,Option.none⟩)=some (vs t):=zaa hB rfl
 have r1:zad w2 (some ⟨w1.heap.size,1,Option.none⟩)=some (.bool q):=zaa hB rfl
 have h2:=h.ext hE02
 have hw2:Hz (fun i=>b≤i∧¬D i) w2 (fun X=>Rows 2 WdC X (.slice (some xa) (r.length+1) c) ((t,q)::r)):=Hz.app hw hE02 (fun _ _ h=>h.elim) fun _ _ h=>h
 have hE2':=hE0.trans hE02
 have hkE:za7 D b w w2:=hE02.mono fun _ _ h=>h.elim
 refine go trivial ?_
 cases hq with
 |blank ln _ _ _ e _ hl hrec=>
  injection hr with hr1 hr2
  injection hr1 with hr3 hr4
  subst hr2 hr3 hr4
  refine rgg [(3,13),(8,18)] (an4 p1 Nat.zero_add Bool.not_true trivial) ?_
  refine go trivial ?_
  refine rc p3 (zhT hX hE2' hb0 h2 hw2 hrec (by rw[List.length_cons];omega)) ?_
  rintro _ w3 ⟨rfl,h3,hk3⟩
  refine rd trivial (zcZ (st:=st') h3 rfl) ?_
  rintro u w4 ⟨ho,hE4⟩
  refine rgo trivial ?_
  refine rt0 Tryz.ntmps62 ?_
  exact⟨ho,h3.ext hE4,(hkE.trans hk3).trans (hE4.mono fun _ _ h=>h.elim)⟩
 |rcd ln t _ e _ hl hp hrec=>
  injection hr with hr1 hr2
  injection hr1 with hr3 hr4
  subst hr2 hr3 hr4
  refine rcg [(3,13),(8,18)] (an6 p1 r0 r1 Nat.zero_add Nat.add_zero Bool.not_false) (ze7 w2 t [36]) ?_
  rintro _ w2' ⟨rfl,hw2'⟩
  rw[hw2',hp]
  clear hw2' w2'
  refine reg [(3,13),(8,18)] Bool.not_false ?_
  refine go trivial ?_
  refine rc p3 (zhT hX hE2' hb0 h2 hw2 hrec (by rw[List.length_cons];omega)) ?_
  rintro _ w3 ⟨rfl,h3,hk3⟩
  refine rd trivial (zcZ (st:=st') h3 rfl) ?_
  rintro u w4 ⟨ho,hE4⟩
  refine rgo trivial ?_
  refine rt0 Tryz.ntmps62 ?_
  exact⟨ho,h3.ext hE4,(hkE.trans hk3).trans (hE4.mono fun _ _ h=>h.elim)⟩
 |dir ln t _ _ _ hp hd=>
  injection hr with hr1 hr2
  injection hr1 with hr3 hr4
  subst hr2 hr3 hr4
  refine rcg [(3,13),(8,18)] (an6 p1 r0 r1 Nat.zero_add Nat.add_zero Bool.not_false) (ze7 w2 t [36]) ?_
  rintro _ w2' ⟨rfl,hw2'⟩
  rw[hw2',hp]
  clear hw2' w2'
  refine reg [(3,13),(8,18)] Bool.not_false ?_
  refine go trivial ?_
  refine rc (an2 p2 Nat.zero_add) (ziw hX hE2' hb0 h2 hF hfl hrl hw2 hd hc) ?_
  rintro u w3 ⟨ho,h3,hk3⟩
  refine rgo trivial ?_
  refine rt0 Tryz.ntmps62 ?_
  exact⟨ho,h3,hkE.trans hk3⟩
end
inductive EntsIs(fl:List (Lab×Lab))(inc:LdS→Lab→Option FltL→LdS→Prop):LdS→List EntL→Option FltL→LdS→Prop
 |nil (st:LdS):EntsIs fl inc st [] Option.none st
 |flt (st:LdS) (en:EntL) (es:List EntL) (f:FltL) (st1:LdS):st.reads.length≤1000→EntIs fl inc {st with line:=en.line} en (some f) st1→EntsIs fl inc st (en::es) (some f) st1
 |more (st:LdS) (en:EntL) (es:List EntL) (st1:LdS) (out:Option FltL) (st2:LdS):st.reads.length≤1000→EntIs fl inc {st with line:=en.line} en Option.none st1→EntsIs fl inc st1 es out st2→EntsIs fl inc st (en::es) out st2
def zeE(fl:List (Lab×Lab)):Nat→LdS→Lab→Option FltL→LdS→Prop
 |0,_,_,_,_=>False
 |k+1,st,p,out,st'=>∃xs st1,zde p fl=(za0 (xs.map Prod.fst),true)∧LnsOk xs∧st.reads.length≤1000∧EntsIs fl (zeE fl k) {st with path:=p,reads:=st.reads++ [p]} (entF 1 xs) out st1∧
  (out=Option.none→1≤st1.reads.length∧st1.reads.length≤10000∧st'={st1 with reads:=st1.reads.dropLast})∧(¬out=Option.none→st'=st1)
theorem Own.dropLast{B:Nat}{w:World}{e:TypeId}{a:Option Addr}{n c:Nat}{l:List Value}(h:Own B w e (.slice a n c) l)(hl:1≤l.length):Own B w e (.slice a (n - 1) c) l.dropLast:=by
 obtain⟨h1,h2⟩:=h
 rcases h2 with ⟨_,h0⟩| ⟨g,cap,cur,hv,hg,hb,hn,hm,hc,hx⟩
 ·omega
 ·injection hv with v1 v2 v3
  refine⟨by simp,.inr ⟨g,cap,cur,?_,hg,hb,by rw[List.length_dropLast];omega,hm,hc,?_⟩⟩
  ·rw[v1,v3,List.length_dropLast,v2]
  ·rw[List.length_dropLast,Nat.mul_one,←hx,List.dropLast_eq_take,List.take_take,List.length_take]
   congr 1
   have:cur.toList.length=cap:=by simp[hc]
   rw[this];omega
section
variable {D : Nat → Prop} {B b : Nat} {w x : World} {fs : Value → World → Prop} {st : LdS} {fv ov rv orv owv : Value} {G : List (RecL × List Value)}
theorem LX.reads(h:LX D B w b fs st fv ov rv orv owv G){y1 y2:World}{rv':Value}{l:List Lab}(ho:Own B y2 9 rv' (l.map vs))(hE0:Ext w y1)(hk:Keep (fun i=>some i=rv.ownBlock) y1 y2)(hb2:∀i,some i=rv'.ownBlock→some i=rv.ownBlock∨y1.heap.size≤i)
  (hk3:Keep (fun i=>i=b) y2 x) (hb:x.heap[b]? =some (.cells (zkd fv ov rv' orv owv st).toArray 88 (0,0))):LX D B x b fs {st with reads:=l} fv ov rv' orv owv G:=by
 have hl:=h.lt
 have hle:=h.le
 have e1:=hE0.size
 have e2:=hk.size
 have e3:=hk3.size
 have hkk:Keep (fun i=>some i=rv.ownBlock∨i=b) w x:=((hE0.mono fun _ _ h=>h.elim).trans (hk.mono fun _ _ e=> .inl e)).trans (hk3.mono fun _ _ e=> .inr e)
 have hT:∀i,i<w.heap.size→(some i=rv.ownBlock∨i=b)→MutL D b ov rv i:=fun i _ e=>e.elim (fun e=> .inr (.inr (.inl e))) .inl
 have hM:∀i,i<w.heap.size→MutL D b ov rv' i→MutL D b ov rv i:=fun i hi hm=>by
  rcases hm with e|e|e|e
  ·exact .inl e
  ·exact .inr (.inl e)
  ·rcases hb2 i e with e|e
   ·exact .inr (.inr (.inl e))
   ·omega
  ·exact .inr (.inr (.inr e))
 refine⟨hb,hl,by omega,h.oo.keep hkk fun i hi e=>?_,ho.keep hk3 fun i hi e=>by have:=(ho.ge hi).1;omega,fun i hi e=>?_,fun i hi=>?_,h.ol,fun y hy=>Hz.app (h.fr y hy) hkk hT hM,Hz.app h.ff hkk hT hM,Hz.app h.fo hkk hT hM,OwnerZ.app h.fw hkk hT hM,h.ot⟩
 ·rcases e with e|e
  ·exact h.d i hi e
  ·have:=(h.oo.ge hi).1;omega
 ·rcases hb2 i e with e2|e2
  ·exact h.d i hi e2
  ·have:=(h.oo.ge hi).2;omega
 ·obtain⟨a1,a2,a3,a4⟩:=h.dd i hi
  exact⟨a1,by omega,a3,fun e=>(hb2 i e).elim a4 fun e=>by omega⟩
theorem file_ok{W0:World}(hX:WX W0)(hb0:W0.heap.size≤b){fl:List (Lab×Lab)}(hfl:fl.length≤1000000){k:Nat}(hc:FlOk W0 B b fl (zeE fl k)):FlOk W0 B b fl (zeE fl (k+1)):=by
 rintro D w fs st p out st' hF hE0 h ⟨xs,st1,hfind,hxs,hrl,hes,hn1,hn2⟩
 have hX1:∀{X:World},Ext w X→WX X:=fun hE=>hX.ext (hE0.trans hE)
 have hDd:=h.dd
 obtain⟨fv,ov,rv,orv,owv,G,h⟩:=h
 have hbB:=h.lt
 have hBw:=h.le
 have hDb:¬D b:=fun hd=>by have:=hDd b hd;omega
 have k0:zad w (some ⟨b,0,Option.none⟩)=some fv:=zaa h.h rfl
 refine enter Tryz.func32 Tryz.ntmps32 rfl rfl ?_
 refine go trivial ?_
 refine rc k0 (zjs (hF fv w h.ff.now) hfl p) ?_
 rintro _ w1 ⟨rfl,hE1⟩
 rw[hfind]
 refine rgo Bool.not_true ?_
 refine rc trivial (zlj (hX1 hE1) hxs) ?_
 rintro _ w2 ⟨hE2,ev,rfl,hevb,hev⟩
 refine rgo (show decide ((0:Int)=0)=true from rfl) ?_
 obtain⟨es,hesE⟩:∃es,entF 1 xs=es:=⟨_,rfl⟩
 rw[hesE]at hes hev
 have hE02:=hE1.trans hE2
 have hs1:=hE1.size
 have hs2:=hE2.size
 obtain⟨D1,hD1⟩:∃D1:Nat→Prop,D1=fun i=>D i∨(w1.heap.size≤i∧i<w2.heap.size):=⟨_,rfl⟩
 have hKL:∀{X Y:World},za7 D1 b X Y→za7 D b X Y:=fun hk=>hk.mono fun i _ h=>⟨h.1,fun hd=>h.2 (by rw[hD1];exact .inl hd)⟩
 have hD1b:¬D1 b:=fun hd=>by rw[hD1]at hd;rcases hd with hd|hd;exact hDb hd;omega
 have h2:LX D1 B w2 b fs st fv ov rv orv owv G:=h.step hE02 (fun i hi=>by rw[hD1]at hi;rcases hi with hi|hi;exact .inl hi;exact .inr (by omega))
 refine rq ?_;intro gd K hgd hK
 try simp (disch:=first|omega|assumption|rfl) only[go_sem,Nat.zero_add]
 refine zaq (P:=Tryz.prog) rfl rfl rfl h2.h (by show(4:Nat)<13;decide) (by simp) ?_
 intro w3 hs3 hb3 hk3
 try simp only[go_sem]
 refine hK _ _ ?_;clear hK hgd;clear K;try clear gd
 have h3:LX D1 B w3 b fs {st with path:=p} fv ov rv orv owv G:=LX.turn h2 (st':={st with path:=p}) hk3 hb3 rfl rfl h2.fo h2.fw h2.ot
 have k2:zad w3 (some ⟨b,2,Option.none⟩)=some rv:=zaa h3.h rfl
 refine go (an2 k2 Nat.zero_add) ?_
 refine rq ?_;intro gd K hgd hK
 try simp (disch:=first|omega|assumption|rfl) only[go_sem,k2,Nat.zero_add]
 refine zbk rfl rfl rfl rfl rfl ?_
 intro w4 hE4 hs4 hown4
 try simp (disch:=first|omega|assumption|rfl) only[go_sem,k2,Nat.zero_add]
 have h4:=h3.ext hE4
 refine za8 (e:=9) h4.ow hown4.row rfl rfl rfl rfl rfl rfl (vq0) (vq0) (fun q hq=>by simp at hq;subst hq;rfl) (by simp;omega) (by decide) h4.le ?_
 intro rv' w5 ho5 hX5 hk5 hb5
 try simp (disch:=first|omega|assumption|rfl) only[go_sem,Nat.zero_add]
 have hby5:=(hk5.block b (by have:=h4.le;omega) fun e=>by have:=(h4.ow.ge e).1;omega).trans h4.h
 refine zaq (P:=Tryz.prog) rfl rfl (by obtain⟨a,c,rfl⟩:=ho5.slice;rfl) hby5 (by show(2:Nat)<13;decide) (by simp) ?_
 intro w6 hs6 hb6 hk6
 try simp only[go_sem]
 refine hK _ _ ?_;clear hK hgd;clear K;try clear gd
 have h6:LX D1 B w6 b fs {st with path:=p,reads:=st.reads++ [p]} fv ov rv' orv owv G:=LX.reads h3 (l:=st.reads++ [p]) (by rw[List.map_append];exact ho5) hE4 hk5 hb5 hk6 hb6
 have hkk:Keep (fun i=>i=b∨some i=rv.ownBlock) w2 w6:=(((hk3.mono fun i _ e=> .inl e).trans (hE4.mono fun _ _ h=>h.elim)).trans (hk5.mono fun i _ e=> .inr e)).trans (hk6.mono fun i _ e=> .inl e)
 have hk26:za7 D1 b w2 w6:=hkk.mono fun i _ e=>by
  rcases e with e|e
  ·exact⟨by omega,by rw[e];exact hD1b⟩
  ·exact⟨by have:=(h2.ow.ge e).1;omega,fun hd=>(h2.dd i hd).2.2.2 e⟩
 obtain⟨ea,ec,rfl,hec,heg⟩:=hev.now.open
 refine go trivial ?_
 have hel:es.length≤1000000000:=by have:=zhq 1 xs;rw[hesE]at this;have:=hxs.few;omega
 have hkE:za7 D b w w2:=hE02.mono fun _ _ h=>h.elim
 have hk02:∀{X:World},za7 D1 b w2 X→Keep (fun i=>i<w1.heap.size) w2 X:=fun hk=>hk.mono fun i hi h=>by
  by_cases hlt:i<w1.heap.size
  ·exact hlt
  ·exact absurd (by rw[hD1];exact .inr ⟨by omega,hi⟩) h.2
 refine zbq es.length (fun i σ v=>(σ 0= .pointer (some ⟨b,0,Option.none⟩)∧σ 55= .slice ea es.length ec∧σ 56=vi es.length∧σ 57=vi i)∧∃sti,LdX D1 B v b fs sti∧EntsIs fl (zeE fl k) sti (es.drop i) out st1∧za7 D1 b w6 v) ?_ ?_ ?_
 ·exact⟨⟨vr0,vr0,vr0,vr0⟩,_,⟨_,_,_,_,_,_,h6⟩,hes,Keep.refl _ _⟩
 ·rintro i σ v hi r ⟨⟨s0,s55,s56,s57⟩,sti,hv,hgr,hkv⟩
  rw[List.drop_eq_getElem_cons hi]at hgr
  obtain⟨en,hen⟩:∃en,es[i]=en:=⟨_,rfl⟩
  rw[hen]at hgr
  have hk2v:=hk26.trans hkv
  obtain⟨cs,g,hcs⟩:=(zdj (hev v (hk02 hk2v))).2.2 i hi
  rw[hen]at hcs
  obtain⟨wv,rfl,hwv⟩:=hcs
  obtain⟨xa,rfl⟩:=Option.isSome_iff_exists.1 (zav g)
  have hxb:=hevb xa _ _ rfl
  have hcell:∀{X:World},za7 D1 b v X→zar X (adr (some xa) (i*3)) 3=some [vi en.line,.bool en.blank,wv]:=fun hk=>zf6 hk (fun a ha hb=>hb.2 (by
   have hbl:a.block=xa.block:=by injection ha with ha;rw[←ha];exact zcj xa _
   obtain⟨cs2,g2,_⟩:=(zdj hev.now).2.2 i hi
   have:=zkc g2 (by decide) ha
   rw[hD1,hbl]
   exact .inr ⟨hxb,by omega⟩)) g
  have hwords:∀{X:World},za7 D1 b v X→Rows 2 WdC X wv en.words:=fun {X} hk=>by
   obtain⟨cs',g',hcs'⟩:=(zdj (hev X (hk02 (hk2v.trans hk)))).2.2 i hi
   rw[hcell hk]at g'
   rw[hen]at hcs'
   obtain⟨wv',e',hw'⟩:=hcs'
   rw[←Option.some.inj g']at e'
   injection e' with _ e'
   injection e' with _ e'
   injection e' with e' _
   rw[e'];exact hw'
  obtain⟨xi,hxi⟩:∃xi,adr (some xa) (i*3)=some xi:=⟨_,rfl⟩
  rw[hxi]at g
  have hi0:(0:Int)≤(i:Int):=by omega
  have hi1:(i:Int)<(es.length:Int):=by omega
  have hi2:(i:Int)+1=((i+1:Nat):Int):=by push_cast;rfl
  obtain⟨wa,wc,rfl,_⟩:=id hwv.open
  refine go (an5 s0 s55 s56 s57 r) ?_
  refine rq ?_;intro gd K hgd hK
  try simp (disch:=first|omega|assumption|rfl) only[go_sem,s55,s57,hi0,hi1,hxi,g]
  refine zbm (P:=Tryz.prog) (l:=[vi en.line,.bool en.blank,.slice wa en.words.length wc]) rfl (fun v hv=>by simp at hv;rcases hv with rfl|rfl|rfl<;>rfl) rfl rfl ?_
  intro v1 hE1v hs1v hBv
  try simp only[go_sem]
  refine hK _ _ ?_;clear hK hgd;clear K;try clear gd
  have q0:zad v1 (some ⟨v.heap.size,0,Option.none⟩)=some (vi en.line):=zaa hBv rfl
  have hv1:=hv.ext hE1v
  obtain⟨fvi,ovi,rvi,orvi,owvi,Gi,hv1⟩:=hv1
  refine go (an2 q0 Nat.zero_add) ?_
  refine rq ?_;intro gd K hgd hK
  try simp (disch:=first|omega|assumption|rfl) only[go_sem,s0,q0,Nat.zero_add]
  refine zaq (P:=Tryz.prog) rfl rfl rfl hv1.h (by show(5:Nat)<13;decide) (by simp) ?_
  intro v2 hs2v hb2v hk2vv
  try simp only[go_sem]
  refine hK _ _ ?_;clear hK hgd;clear K;try clear gd
  have hv2:LX D1 B v2 b fs {sti with line:=en.line} fvi ovi rvi orvi owvi Gi:=LX.turn hv1 (st':={sti with line:=en.line}) hk2vv hb2v rfl rfl hv1.fo hv1.fw hv1.ot
  have hvb:b<v.heap.size:=hv.lt
  have hBv2:=(hk2vv.block v.heap.size (by omega) (by omega)).trans hBv
  have q3:zar v2 (some ⟨v.heap.size,0,Option.none⟩) 3=some [vi en.line,.bool en.blank,.slice wa en.words.length wc]:=zal (n:=3) (l:=[vi en.line,.bool en.blank,.slice wa en.words.length wc]) hBv2 rfl
  have hkvv:za7 D1 b v v2:=(hE1v.mono fun _ _ h=>h.elim).trans (hk2vv.mono fun i _ e=>⟨by omega,by rw[e];exact hD1b⟩)
  have hE2v:Ext W0 v2:=Keep.to_ext (hE0.trans hE02) rfl (fun i hi=>by omega) (hk2v.trans hkvv)
  refine go trivial ?_
  cases hgr with
  |flt _ _ _ f _ hr1 hent=>
   refine rc (an2 s0 q3) (zj6 hX hE2v hb0 (st:={sti with line:=en.line}) ⟨_,_,_,_,_,_,hv2⟩ hF hfl hr1 (fun X hX=>hwords (hkvv.trans hX)) hent hc) ?_
   rintro u v3 ⟨⟨pf,hpf1,rfl,hpf3⟩,hv3,hk3v⟩
   refine rgo trivial ?_
   refine rt0 Tryz.ntmps32 ?_
   rw[hn2 (by simp)]
   exact⟨⟨pf,hpf1,rfl,hpf3⟩,hv3.step (Keep.refl _ _) (fun i hi=> .inl (by rw[hD1];exact .inl hi)),hkE.trans (hKL ((hk2v.trans hkvv).trans hk3v))⟩
  |more _ _ _ sti' _ _ hr1 hent hrest=>
   refine rc (an2 s0 q3) (zj6 hX hE2v hb0 (st:={sti with line:=en.line}) ⟨_,_,_,_,_,_,hv2⟩ hF hfl hr1 (fun X hX=>hwords (hkvv.trans hX)) hent hc) ?_
   rintro u v3 ⟨rfl,hv3,hk3v⟩
   refine rgo (an6 s0 s55 s56 s57 hi2 r) ?_
   exact⟨rfl,⟨(vq1 s0),(vq1 s55),(vq1 s56),(vq1 hi2)⟩,_,hv3,hrest,hkv.trans (hkvv.trans hk3v)⟩
 ·rintro σ v r ⟨⟨s0,s55,s56,s57⟩,sti,hv,hgr,hkv⟩
  rw[List.drop_length]at hgr
  cases hgr
  obtain⟨hr1,hr2,rfl⟩:=hn1 rfl
  obtain⟨fvi,ovi,rvi,orvi,owvi,Gi,hv⟩:=hv
  obtain⟨ra,rc,rfl,hrc,_⟩:=zg1 hv.ow.row
  have k2v:zad v (some ⟨b,2,Option.none⟩)=some (.slice ra st1.reads.length rc):=zaa hv.h rfl
  have wl:IntKind.i64.wrap ((st1.reads.length:Int) - 1)=((st1.reads.length - 1:Nat):Int):=by rw[zd5 (by omega) (by omega)];omega
  have m0:(0:Int)≤((st1.reads.length - 1:Nat):Int):=by omega
  have m1:((st1.reads.length - 1:Nat):Int)≤(rc:Int):=by omega
  refine go (an5 s0 s55 s56 s57 r) ?_
  repeat refine c_r ?_
  refine zas (Q:=fun e' σ' ds' v'=>e'= .normal∧ds'=[]∧LdX D1 B v' b fs {st1 with reads:=st1.reads.dropLast}∧za7 D1 b v v') ?_ ?_
  ·refine zaF (fun i=>i==14) [(0,true),(1,true),(2,true),(3,true),(4,true),(5,true),(6,true),(7,true),(8,true),(9,true),(10,true),(11,true),(12,true),(13,true),(14,false)] NoS mixed (by kernel_rfl) ?_;intro gd K x hgd hx hxe hK;have hx0:=zaT hxe;clear hxe
   have k2x:=zab hx0 k2v
   simp (disch:=first|omega|assumption|rfl) only[go_sem,s0,k2x,wl,m0,m1,Nat.zero_add,Int.toNat_natCast]
   have hvx:=hv.ext hx0
   have hd:Own B x 9 (.slice ra (st1.reads.length - 1) rc) (st1.reads.dropLast.map vs):=by
    rw[List.map_dropLast]
    exact Own.dropLast hvx.ow (by rw[List.length_map];exact hr1)
   rw[show (if rc=0 then ra else adr ra 0)=ra from by split;rfl;exact zam ra,Nat.sub_zero,Nat.sub_zero]
   refine zaq (P:=Tryz.prog) rfl rfl rfl hvx.h (by show(2:Nat)<13;decide) (by simp) ?_
   intro y1 hs1y hb1y hk1y
   refine⟨.inl rfl,?_⟩
   simp (disch:=first|omega|assumption|rfl) only[go_sem]
   refine hK _ _ ?_;clear hK hgd;clear K;try clear gd
   have hfin:=LX.reads hvx (l:=st1.reads.dropLast) hd (Keep.refl _ _) (Keep.refl _ _) (fun i hi=> .inl (by cases ra<;>exact hi)) hk1y hb1y
   exact⟨rfl,rfl,⟨_,_,_,_,_,_,hfin⟩,(hx0.mono fun _ _ h=>h.elim).trans (hk1y.mono fun i _ e=>⟨by omega,by rw[e];exact hD1b⟩)⟩
  rintro _ σ2 _ v2 ⟨rfl,rfl,h2v,hk2v⟩
  refine go trivial ?_
  refine rt0 Tryz.ntmps32 ?_
  exact⟨rfl,h2v.step (Keep.refl _ _) (fun i hi=> .inl (by rw[hD1];exact .inl hi)),hkE.trans (hKL ((hk26.trans hkv).trans hk2v))⟩
theorem zj5{W0:World}(hX:WX W0)(hb0:W0.heap.size≤b){fl:List (Lab×Lab)}(hfl:fl.length≤1000000):∀k,FlOk W0 B b fl (zeE fl k)
 |0=>fun _ _ _ _ _ _ _ _ _ _ h=>h.elim
 |k+1=>file_ok hX hb0 hfl (zj5 hX hb0 hfl k)
end
def ld0(o:Nm):LdS:=⟨[],0,o,Option.none,Option.none,Option.none,[],[],0⟩
def LoadIs(fl:List (Lab×Lab))(p:Lab)(o:Nm)(out:Option FltL)(st':LdS):Prop:=(∃k,zeE fl k (ld0 o) p out st')∨((zde p fl).2=false∧out=some ⟨p,0,4⟩∧st'=ld0 o)
def LoadAt(w:World)(v:Value)(out:Option FltL)(R:List RecL):Prop:=match out with
 |Option.none=>∃rv,v= .tuple #[rv,.pointer Option.none]∧RecsAt w rv R
 |some f=>∃p,v= .tuple #[.slice Option.none 0 0,.pointer (some ⟨p,0,Option.none⟩)]∧w.heap[p]? =some (.cells #[vs f.path,vi f.line,vi f.err] 116 (0,0))
section
variable {D : Nat → Prop} {B b : Nat} {w x : World} {fs : Value → World → Prop} {st : LdS}
theorem file_no(h:LdX D B w b fs st){fl:List (Lab×Lab)}{p:Lab}(hF:∀v X,fs v X→Rows 2 zfc X v fl)(hfl:fl.length≤1000000)(hno:(zde p fl).2=false):
  Fn Tryz.prog 32 #[.pointer (some ⟨b,0,Option.none⟩),vs p] w (fun v w'=>OutAt b w' v (some ⟨p,0,4⟩)∧LdX D B w' b fs st∧za7 D b w w'):=by
 have hbl:=h.lt
 have hh:=h
 obtain⟨fv,ov,rv,orv,owv,G,h⟩:=h
 have k0:zad w (some ⟨b,0,Option.none⟩)=some fv:=zaa h.h rfl
 refine enter Tryz.func32 Tryz.ntmps32 rfl rfl ?_
 refine go trivial ?_
 refine rc k0 (zjs (hF fv w h.ff.now) hfl p) ?_
 rintro _ w1 ⟨rfl,hE1⟩
 rw[hno]
 refine rgo Bool.not_false ?_
 refine rq ?_;intro gd K hgd hK
 try simp only[go_sem]
 refine⟨by kernel_rfl,?_⟩
 rw[show bdV Tryz.prog 116 [(0,vs p),(1,vi 0),(2,vi 4)]=some (.agg #[vs p,vi 0,vi 4]) from by kernel_rfl]
 try simp only[go_sem]
 refine hK _ _ ?_;clear hK hgd;clear K;try clear gd
 refine zan ?_
 intro w2 hE2 hs2 hA
 refine go trivial ?_
 refine rt0 Tryz.ntmps32 ?_
 have hE:=hE1.trans hE2
 have hs1:=hE1.size
 exact⟨⟨_,by omega,rfl,hA⟩,hh.ext hE,hE.mono fun _ _ h=>h.elim⟩
end
theorem Load_ok{w:World}(hX:WX w){fv ov:Value}{fl:List (Lab×Lab)}{p:Lab}{o:Nm}{out:Option FltL}{st':LdS}(hf:Rows 2 zfc w fv fl)(hfl:fl.length≤1000000)(ho:Row w ov (o.map vs))(hoT:NmT o)(hq:LoadIs fl p o out st'):
  Fn Tryz.prog 8 #[fv,vs p,ov] w (fun v w'=>Ext w w'∧LoadAt w' v out st'.out):=by
 obtain⟨fa,fc,rfl,_⟩:=hf.open
 obtain⟨oa,oc,rfl,_⟩:=id ho
 refine enter Tryz.func8 Tryz.ntmps8 rfl rfl ?_
 refine go trivial ?_
 refine rq ?_;intro gd K hgd hK
 try simp only[go_sem]
 refine⟨by kernel_rfl,?_⟩
 rw[show bdV Tryz.prog 86 [(2,.slice oa (o.map vs).length oc)]=some (.agg #[vs [],vi 0,.slice oa (o.map vs).length oc,.slice Option.none 0 0,.bool false,.int .u32 0,.bool false,.int .u32 0,.bool false]) from by kernel_rfl]
 try simp only[go_sem]
 refine⟨by kernel_rfl,?_⟩
 rw[show bdV Tryz.prog 88 [(0,.slice fa fl.length fc),(4,.agg #[vs [],vi 0,.slice oa (o.map vs).length oc,.slice Option.none 0 0,.bool false,.int .u32 0,.bool false,.int .u32 0,.bool false])]=some (.agg #[.slice fa fl.length fc,.slice Option.none 0 0,.slice Option.none 0 0,vi 0,vs [],vi 0,.slice oa (o.map vs).length oc,.slice Option.none 0 0,.bool false,.int .u32 0,.bool false,.int .u32 0,.bool false]) from by kernel_rfl]
 try simp only[go_sem]
 refine hK _ _ ?_;clear hK hgd;clear K;try clear gd
 repeat refine c_r ?_
 refine zan ?_
 intro w1 hE1 hs1 hA
 obtain⟨b,hb⟩:∃b,w.heap.size=b:=⟨_,rfl⟩
 rw[hb]at hA hs1 ⊢
 have nomut:∀{i:Nat},MutL NoS b (.slice Option.none 0 0) (.slice Option.none 0 0) i→i=b:=fun h=>by
  rcases h with h|h|h|h
  ·exact h
  ·cases h
  ·cases h
  ·exact h.elim
 have h0:LX NoS (b+1) w1 b (fun v X=>Rows 2 zfc X v fl) (ld0 o) (.slice fa fl.length fc) (.slice Option.none 0 0) (.slice Option.none 0 0) (.slice oa (o.map vs).length oc) (.slice Option.none 0 0) []:=by
  refine⟨hA,by omega,by omega,Owns.nil _ _ _ _ _,Own.nil _ _ _,(fun i h=>by cases h),fun i h=>h.elim,rfl,(fun x hx=>by cases hx),fun X hX=>?_,fun X hX=>?_,rfl,hoT⟩
  ·exact hf.ext (Keep.to_ext hE1 rfl (fun i hi=>by have:=nomut hi;omega) hX)
  ·exact ho.ext (Keep.to_ext hE1 rfl (fun i hi=>by have:=nomut hi;omega) hX)
 have hfile:Fn Tryz.prog 32 #[.pointer (some ⟨b,0,Option.none⟩),vs p] w1 (fun v w'=>OutAt b w' v out∧LdX NoS (b+1) w' b (fun v X=>Rows 2 zfc X v fl) st'∧za7 NoS b w1 w'):=by
  rcases hq with ⟨k,hk⟩| ⟨hno,rfl,rfl⟩
  ·exact zj5 hX (by omega) hfl k NoS w1 _ _ p out st' (fun _ _ h=>h) hE1 ⟨_,_,_,_,_,_,h0⟩ hk
  ·exact file_no ⟨_,_,_,_,_,_,h0⟩ (fun _ _ h=>h) hfl hno
 refine go trivial ?_
 refine rc trivial hfile ?_
 rintro u w2 ⟨ho2,h2,hk2⟩
 have hE2:Ext w w2:=Keep.to_ext hE1 rfl (fun i hi=>by have:=hi.1;omega) hk2
 cases out with
 |some f=>
  obtain⟨q,hq1,rfl,hq3⟩:=ho2
  refine rgo trivial ?_
  refine zaf (.inr rfl) Tryz.ntmps8 rfl (zac (vr0) (zac (vr0) zae)) ?_
  exact⟨hE2,q,rfl,hq3⟩
 |none=>
  obtain rfl:u= .pointer Option.none:=ho2
  obtain⟨fv2,ov2,rv2,orv2,owv2,G2,h2⟩:=h2
  have k1:zad w2 (some ⟨b,1,Option.none⟩)=some ov2:=zaa h2.h rfl
  have hrecs:Rows 7 (RecAt w2) w2 ov2 st'.out:=by
   obtain⟨L,g1,g2,g3⟩:=h2.oo.rows
   refine⟨L,g1,by rw[h2.ol,List.length_map];exact g2,fun i hi hi'=>?_⟩
   have hG:i<G2.length:=by omega
   have:=(h2.fr G2[i] (List.getElem_mem hG)).now
   have e:=(g3 i hi hG).1
   have e2:st'.out[i]=G2[i].1:=by simp[h2.ol]
   rw[e2,e];exact this
  obtain⟨L,g1,g2,g3⟩:=hrecs
  refine rgo trivial ?_
  refine rc k1 (S_rec.Clip_ok g1) ?_
  rintro u w3 ⟨hu,hw3⟩
  rw[hw3]at hu ⊢
  clear hw3 w3
  obtain⟨ua,uc,rfl,_⟩:=id hu
  refine rgo trivial ?_
  refine zaf (.inr rfl) Tryz.ntmps8 rfl (zac (vr0) (zac (vr0) zae)) ?_
  exact⟨hE2,_,rfl,L,hu,g2,g3⟩
theorem zin:∀(k:Int) (T:List (Int×Lab)),(zbV k T).2=true→(k,(zbV k T).1)∈T
 |k,[],h=>by cases h
 |k,x::T,h=>by
  unfold zbV at h ⊢
  by_cases hx:x.1=k
  ·rw[if_pos hx]at h ⊢
   rw[←hx];exact List.mem_cons_self ..
  ·rw[if_neg hx]at h ⊢
   exact List.mem_cons_of_mem _ (zin k T h)
theorem zj4{s:Lab}:∀{T:List (Lab×Int)},(∀x∈T,x.1≠s)→zfa s T=(0,false)
 | [],_=>rfl
 |x::T,h=>by rw[zfa,if_neg (h x (List.mem_cons_self ..)),zj4 fun y hy=>h y (List.mem_cons_of_mem _ hy)]
theorem zil{l:Lab}(h:∀c∈l,digB c=true):zaI l=l:=by
 unfold zaI
 have:∀c,digB c=true→zhn c=c:=fun c=>zcA (P:=fun c=>digB c=true→zhn c=c) (by decide+kernel) c
 rw[List.map_congr_left (g:=id) fun c hc=>this c (h c hc),List.map_id]
theorem zhG{k:Int}(h1:1≤k)(h2:k≤65535):zdO (tyT k)=(k,0)∧dgW (tyT k)=false∧inW (tyT k)=false∧TkB (tyT k)∧(tyT k).length≤40∧[36].isPrefixOf (tyT k)=false:=by
 have hlen:=zgW (k:=k) (by omega) (by omega)
 unfold tyT at*
 cases hf:(zbV k tyTab).2 with
 |true=>
  have hm:=zin k tyTab hf
  rw[if_pos rfl]
  have key:∀x∈tyTab,zdO x.2=(x.1,0)∧dgW x.2=false∧inW x.2=false∧x.2.all plnB=true∧x.2≠ []∧x.2.length≤40∧[36].isPrefixOf x.2=false:=by decide+kernel
  obtain⟨a,b,c,d,e,f,g⟩:=key _ hm
  exact⟨a,b,c,zcx e fun x hx=>List.all_eq_true.1 d x hx,f,g⟩
 |false=>
  rw[if_neg (by decide)]
  rw[hf,if_neg (by decide)]at hlen
  obtain⟨n,rfl⟩:∃n:Nat,k=(n:Int):=⟨k.toNat,by omega⟩
  rw[zhi]at hlen ⊢
  have hdg:=zbY n
  have hfl:zaI ([84,89,80,69]++Lib.decDigits n)=[116,121,112,101]++Lib.decDigits n:=by
   have:zaI ([84,89,80,69]++Lib.decDigits n)=zaI [84,89,80,69]++zaI (Lib.decDigits n):=by unfold zaI;rw[List.map_append]
   rw[this,zil hdg]
   rfl
  have hno:zfa ([116,121,112,101]++Lib.decDigits n) nyTab=(0,false):=zj4 fun x hx e=>by
   have h4:x.1.take 4=[116,121,112,101]:=by rw[e];rfl
   have key:∀x∈nyTab,¬x.1.take 4=[116,121,112,101]:=by decide+kernel
   exact key x hx h4
  have hp:([116,121,112,101]:Lab).isPrefixOf ([116,121,112,101]++Lib.decDigits n)=true:=by simp
  have ht:Lib.trimPrefix ([116,121,112,101]++Lib.decDigits n) [116,121,112,101]=Lib.decDigits n:=by
   unfold Lib.trimPrefix
   rw[if_pos (by unfold Lib.hasPrefix;simp)]
   rfl
  refine⟨?_,?_,?_,zcx (by simp) fun c hc=>?_,hlen,rfl⟩
  ·unfold zdO
   rw[hfl,hno,hp,ht,zcq (by omega)]
   rw[if_neg (by decide),if_neg (by simp),if_neg (by simp;omega)]
  ·unfold dgW
   have:¬Lib.trimS ([84,89,80,69]++Lib.decDigits n) digs10=[]:=fun e=>by
    have:=(zd9 _).1 e
    have:=List.all_eq_true.1 this 84 (by simp)
    exact absurd this (by decide)
   rw[decide_eq_false this,Bool.and_false]
  ·unfold inW
   rw[hfl]
   exact decide_eq_false fun e=>by cases e
  ·rcases List.mem_append.1 hc with h|h
   ·exact(by decide:∀c∈([84,89,80,69]:Lab),plnB c=true) c h
   ·exact zji (hdg c h)
theorem zfm{s:Lab}(h:Prn s):zgm s:=by
 have h10:∀c,prnB c=true→c≠10∧c≠13:=fun c=>zcA (P:=fun c=>prnB c=true→c≠10∧c≠13) (by decide+kernel) c
 refine⟨fun e=>(h10 _ (h _ e)).1 rfl,fun e=>?_⟩
 exact(h10 13 (h 13 (List.mem_of_getLast? e))).2 rfl
theorem prs_back{o:Nm}{d:DatL}(hc:zbv d=0)(hT:DatT d):PrsIs d.ty (wF false (za5 hexU d) [] false) o d 0:=fun w wv oa on oc hX hr ho hoT=>by
 refine Fn.mono (back_ok hX ho hoT hc hT hr) ?_
 rintro v w' ⟨hE,cs,rfl,hg⟩
 exact⟨hE,cs,rfl,(zko hg).1,(zko hg).2,fun _=>hg⟩
theorem zlA{s:Lab}{ws:List (Lab×Bool)}(h:Toks s ws):∀x∈ws,x.1.length≤s.length:=by
 induction h with
 |nil=>intro x hx;cases hx
 |blank c s ws _ _ ih=>intro x hx;have:=ih x hx;simp;omega
 |semi s=>intro x hx;cases hx
 |word p s ws _ _ _ _ ih=>
  intro x hx
  rw[List.length_append]
  rcases List.mem_cons.1 hx with rfl|hx
  ·exact Nat.le_add_right _ _
  ·have:=ih x hx;omega
 |quot q s ws _ _ ih=>
  intro x hx
  rcases List.mem_cons.1 hx with rfl|hx
  ·simp;omega
  ·have:=ih x hx;simp;omega
theorem zht{d:DatL}(hc:zbv d=0)(hF:DatF d)(hN:znq d):(za5 hexU d).length≤90000:=by
 obtain⟨⟨t1,t2⟩,hf,hnm,_,_,_⟩:=zbp hc
 obtain⟨f1,f2,f3,f4,f5⟩:=hF.f4
 have f8:=hF.n8
 by_cases h1:d.ty=1
 ·obtain⟨_,_,_,h4⟩:=zbx hf (a:=0) (c:=0) (r:=4) (by rw[h1];rfl)
  have h4:=h4 (by decide)
  rw[zly hf h1]
  have a:=za4 [46] (d.raw.map fun c=>Lib.decDigits c.toNat)
  have b:zaG (d.raw.map fun c=>Lib.decDigits c.toNat)≤20*d.raw.length:=zbj fun c _=>by have:=zbo 19 c.toNat (by have:=c.toNat_lt;omega);omega
  rw[List.length_map]at a
  simp only[List.length_cons,List.length_nil]at a
  omega
 by_cases h28:d.ty=28
 ·obtain⟨h16,htx⟩:=tx_28 hf h28
  rw[htx]
  have a:=za4 [58] ((List.range 8).map (zh0 d.raw))
  have b:zaG ((List.range 8).map (zh0 d.raw))≤4*(List.range 8).length:=zbj fun i _=>by
   have g1:=(d.raw.getD (2*i) 0).toNat_lt
   have g2:=(d.raw.getD (2*i+1) 0).toNat_lt
   exact zcX 3 _ (by omega)
  rw[List.length_map,List.length_range]at a
  rw[List.length_range]at b
  simp only[List.length_cons,List.length_nil]at a
  omega
 by_cases h16:d.ty=16
 ·rw[tx_16 hf h16]
  have a:=za4 [32] (d.texts.map quoT)
  have b:zaG (d.texts.map quoT)≤1300*d.texts.length:=zbj fun t ht=>by
   have h1:=zeh t
   have h2:=f3 t ht
   unfold quoT
   rw[List.length_cons,List.length_append]
   show _+1+1≤_
   omega
  have c:1300*d.texts.length≤1300*40:=Nat.mul_le_mul_left _ f2
  rw[List.length_map]at a
  simp only[List.length_cons,List.length_nil]at a
  omega
 by_cases h15:d.ty=15
 ·obtain⟨m,n,hm,hn,htx⟩:=tx_15 hf h15
  rw[htx]
  have a:=zcT (hN.1 m (by rw[hm];simp)).2
  have b:=zec (hnm n (by rw[hn];simp))
  simp only[List.length_append,List.length_cons,List.length_nil]
  omega
 by_cases hn:d.ty=2∨d.ty=5∨d.ty=12∨d.ty=39∨d.ty=6
 ·rw[zgX hf hn]
  have a:=za4 [32] (d.names.map zaV++d.nums.map numT)
  rw[zer,List.length_append,List.length_map,List.length_map]at a
  have b:zaG (d.names.map zaV)≤2000*d.names.length:=zbj fun n hn=>zec (hnm n hn)
  have c:zaG (d.nums.map numT)≤20*d.nums.length:=zbj fun m hm=>zcT (hN.1 m hm).2
  have b2:2000*d.names.length≤2000*8:=Nat.mul_le_mul_left _ f8
  have c2:20*d.nums.length≤20*12:=Nat.mul_le_mul_left _ f1
  simp only[List.length_cons,List.length_nil]at a
  omega
 ·rw[zlz hf (by omega)]
  have a:=zbo 19 d.raw.length (by omega)
  have b:=zcp d.raw
  simp only[List.length_append,List.length_cons,List.length_nil]
  split<;>simp only[List.length_cons,List.length_nil]<;>omega
theorem zmi(n:Nm):[36].isPrefixOf (zaV n)=false:=by
 have h36:∀c,∃x r,labB c=x::r∧x≠36:=fun c=>by
  have:∀c,((labB c).headD 36 !=36)=true:=fun c=>zcA (P:=fun c=>((labB c).headD 36 !=36)=true) (by decide+kernel) c
  have h:=this c
  cases hl:labB c with
  |nil=>rw[hl]at h;cases h
  |cons x r=>rw[hl]at h;exact⟨x,r,rfl,by simpa using h⟩
 have key:∀x r,x≠36→[36].isPrefixOf (x::r:Lab)=false:=fun x r h=>by
  simp[List.isPrefixOf,Ne.symm h]
 unfold zaV
 split
 ·rfl
 ·cases n with
  |nil=>rename_i h;exact absurd rfl h
  |cons l n=>
   cases l with
   |nil=>exact key 46 _ (by decide)
   |cons c l=>
    obtain⟨x,r,e,hx⟩:=h36 c
    rw[List.flatMap_cons,show zau (c::l)=labB c++zau l from by unfold zau;rw[List.flatMap_cons],e]
    exact key x _ hx
theorem zjQ{n:Nat}:dgW (Lib.decDigits n)=true∧inW (Lib.decDigits n)=false:=by
 have h1:Lib.trimS (Lib.decDigits n) digs10=[]:=(zd9 _).2 (List.all_eq_true.2 fun c hc=>zbY n c hc)
 refine⟨?_,?_⟩
 ·unfold dgW
  rw[decide_eq_false (zfY n),decide_eq_true h1];rfl
 ·unfold inW
  rw[zil (zbY n)]
  refine decide_eq_false fun e=>?_
  have:=zbY n 105 (by rw[e];simp)
  exact absurd this (by decide)
theorem recG_T{r:RecL}(h:RecG r):RecT r∧zby r:=by
 have hF:=few_D h.dat h.num
 have ow:=few_T h.few
 have hd:=zbp h.chk
 exact⟨⟨ow,⟨h.ttl.1,by have:=h.ttl.2;omega⟩,⟨by have:=hd.1.1;omega,by have:=hd.1.2;omega⟩,hF.1⟩,⟨ow.lb,by have:=ow.2;omega,hF.2.1⟩⟩
theorem optL_is{K:Value→World→Prop}{o:Option Value}{v:Value}{w:World}{F:Prop}{m:Lck K F}(h:o=some v)(hK:K v w):optL o w K F m:=by
 subst h;rw[zh1];exact hK
theorem zhJ:∀(ls:List Lab) (m:Nat),(∀l∈ls,l.length≤m)→(za0 ls).length≤ls.length*(m+1)
 | [],m,_=>by simp[za0]
 |l::ls,m,h=>by
  have ih:=zhJ ls m fun x hx=>h x (List.mem_cons_of_mem _ hx)
  have:=h l (List.mem_cons_self ..)
  rw[zbT,List.length_append,List.length_cons,List.length_cons,Nat.add_mul]
  omega
section
variable {fl : List (Lab × Lab)} {inc : LdS → Lab → Option FltL → LdS → Prop} {st st' : LdS} {t ty : Lab} {q : Bool} {ws dw : List (Lab × Bool)} {hs : List (Nat × Bool)} {n : Nm} {d : DatL} {τ e : Int}
end
theorem bare_hd{p:Lab}(h:BareW p)(h0:p≠ []):zdv p=false:=by
 cases h with
 |nil=>exact absurd rfl h0
 |pair d r _=>rfl
 |one c r h1 h2 _=>
  have h32:¬c=32:=fun e=>h1 (by rw[e];decide)
  have h9:¬c=9:=fun e=>h1 (by rw[e];decide)
  simp[zdv,h32,h9]
theorem zm9{p s:Lab}(h0:p≠ []):zdv (p++s)=zdv p:=by
 cases p with
 |nil=>exact absurd rfl h0
 |cons c r=>rfl
theorem tok_bare{p:Lab}(h:BareW p):∀s w:Lab,wF false (p++s) w false=wF false s (w++p) false:=by
 induction h with
 |nil=>intro s w;simp
 |pair d r _ ih=>
  intro s w
  show wF false (92::d::(r++s)) w false=_
  rw[zeF,ih,List.append_assoc];rfl
 |one c r h1 h2 _ ih=>
  intro s w
  have h34:c≠34:=fun e=>h1 (by rw[e];decide)
  have h32:c≠32:=fun e=>h1 (by rw[e];decide)
  show wF false (c::(r++s)) w false=_
  rw[zdA h2 h34 h32,ih,List.append_assoc];rfl
theorem tkb_of{p:Lab}(h0:p≠ [])(hb:BareW p)(hp:Prn p):TkB p:=⟨⟨h0,tok_bare hb⟩,hb,hp⟩
theorem zed(l:Lab):BareW (zau l)∧Prn (zau l):=⟨zdw fun c _=>(zfp c).1,zej fun c _=>(zfp c).2⟩
theorem zj9:BareW ([46]:Lab)∧Prn ([46]:Lab):=⟨zc3 1 _ (by decide) (by decide),by unfold Prn;decide⟩
theorem lab_36{c:UInt8}{l:Lab}(s:Lab):[36].isPrefixOf (zau (c::l)++s)=false:=by
 have h36:∃x r,labB c=x::r∧x≠36:=by
  have:∀c,((labB c).headD 36 !=36)=true:=fun c=>zcA (P:=fun c=>((labB c).headD 36 !=36)=true) (by decide+kernel) c
  have h:=this c
  cases hl:labB c with
  |nil=>rw[hl]at h;cases h
  |cons x r=>rw[hl]at h;exact⟨x,r,rfl,by simpa using h⟩
 obtain⟨x,r,e,hx⟩:=h36
 rw[show zau (c::l)=labB c++zau l from by unfold zau;rw[List.flatMap_cons],e]
 simp[List.isPrefixOf,Ne.symm hx]
theorem zeI{n o:Nm}(hn:zaL n=0):TkB (zbe n o)∧[36].isPrefixOf (zbe n o)=false∧(zbe n o).length≤70000:=by
 have hT:=zec hn
 unfold zbe
 by_cases h1:zaB n=zaB o
 ·rw[if_pos h1]
  exact⟨zcx (by decide) (by decide),rfl,by decide⟩
 rw[if_neg h1]
 by_cases h2:zgp n o=true
 ·rw[if_pos h2]
  unfold zgp at h2
  simp only[Bool.and_eq_true,decide_eq_true_eq]at h2
  obtain⟨g1,g2⟩:=h2
  obtain⟨n1,n2⟩:=zci hn
  obtain⟨t,ht⟩:∃t,n.take (n.length - o.length)=t:=⟨_,rfl⟩
  have tl:∀l∈t,errL l=0:=fun l hl=>n1 l (List.mem_of_mem_take (ht▸hl))
  have htl:t.length≤n.length:=by rw[←ht,List.length_take];omega
  rw[ht]
  have hlab:=zb6 hn
  have hnl:=zeV hn
  cases t with
  |nil=>
   exfalso
   apply h1
   have h0:n.length - o.length=0:=by
    have:=congrArg List.length ht
    rw[List.length_take]at this
    simp at this
    omega
   rw[h0,List.drop_zero]at g2
   exact g2
  |cons l t=>
   have hl:=zhp (tl l (List.mem_cons_self ..))
   have hs:zaM [46] ((l::t).map zau)=zau l++(t.map zau).flatMap fun y=>[46]++y:=rfl
   have hlen:=za4 [46] ((l::t).map zau)
   have hlen2:zaG ((l::t).map zau)≤252*(l::t).length:=zbj fun x hx=>by
    have h63:=(hlab x (List.mem_of_mem_take (ht▸hx))).2
    have:=zb0 x
    omega
   rw[List.length_map]at hlen
   refine⟨?_,?_,?_⟩
   ·rw[hs]
    refine tkb_of (fun e=>(zeb hl _).2.2 e) ((zed l).1.app (zdw fun y hy=>?_)) ((zed l).2.app (zej fun y hy=>?_))
    ·obtain⟨x,_,rfl⟩:=List.mem_map.1 hy;exact zj9.1.app (zed x).1
    ·obtain⟨x,_,rfl⟩:=List.mem_map.1 hy;exact zj9.2.app (zed x).2
   ·rw[hs]
    cases l with
    |nil=>exact absurd rfl hl
    |cons c l=>exact lab_36 _
   ·have h9:t.length+1≤n.length:=htl
    rw[show ([46]:Lab).length=1 from rfl,Nat.one_mul,List.length_cons]at hlen
    rw[List.length_cons]at hlen2
    omega
 ·rw[if_neg h2]
  exact⟨zea n,zmi n,by omega⟩
def aftT(m:Int)(r:RecL):Lab:=(if r.ttl=m then [] else numT r.ttl++ [32])++([73,78]++([32]++(tyT r.dat.ty++([32]++za5 hexU r.dat))))
def aftW(m:Int)(r:RecL):List (Lab×Bool):=(if r.ttl=m then [] else [(numT r.ttl,false)])++([73,78],false)::(tyT r.dat.ty,false)::wF false (za5 hexU r.dat) [] false
def lnP(m:Int)(o:Nm)(fr:Bool)(r:RecL):Lab×List (Lab×Bool):=((if fr=true then zbe r.owner o else [])++([32]++aftT m r),(if fr=true then [(zbe r.owner o,false)] else [])++aftW m r)
theorem aft_toks{m:Int}{r:RecL}(h:RecG r):Toks (aftT m r) (aftW m r)∧Prn (aftT m r)∧(aftT m r).length≤95000:=by
 obtain⟨⟨t1,t2⟩,_,_,_,_,_⟩:=zbp h.chk
 obtain⟨hd,hp⟩:=zfZ h.chk
 obtain⟨_,_,_,hty,p5,_⟩:=zhG t1 t2
 have hin:TkB [73,78]:=zcx (by simp) (by decide)
 have p32:Prn [32]:=by unfold Prn;decide
 have hdl:=zht h.chk h.dat h.num
 have hnl:=zcT (n:=r.ttl) (by have:=h.ttl;omega)
 have hT:=zbl hin (zbl hty hd)
 have hP:=hin.p.app (p32.app (hty.p.app (p32.app hp)))
 unfold aftT aftW
 split
 ·refine⟨hT,hP,?_⟩
  simp only[List.length_append,List.length_cons,List.length_nil]
  omega
 ·have e:numT r.ttl++ [32]++([73,78]++([32]++(tyT r.dat.ty++([32]++za5 hexU r.dat))))=numT r.ttl++([32]++([73,78]++([32]++(tyT r.dat.ty++([32]++za5 hexU r.dat))))):=by simp
  rw[e]
  refine⟨zbl (zcy _) hT,(zcy _).p.app (p32.app hP),?_⟩
  simp only[List.length_append,List.length_cons,List.length_nil]
  omega
theorem lnP_ok{m:Int}{o:Nm}{fr:Bool}{r:RecL}(h:RecG r):Toks (lnP m o fr r).1 (lnP m o fr r).2∧zgm (lnP m o fr r).1∧(lnP m o fr r).1.length≤200000:=by
 obtain⟨a1,a2,a3⟩:=aft_toks (m:=m) h
 obtain⟨s1,s2,s3⟩:=zeI (o:=o) h.own
 have p32:Prn [32]:=by unfold Prn;decide
 unfold lnP
 cases fr with
 |true=>
  refine⟨zbl s1 a1,zfm (s1.p.app (p32.app a2)),?_⟩
  simp only[if_true,List.length_append,List.length_cons,List.length_nil]
  omega
 |false=>
  refine⟨.blank 32 _ _ (.inl rfl) a1,zfm (p32.app a2),?_⟩
  show(32::aftT m r).length≤_
  rw[List.length_cons];omega
theorem zmk{m:Int}{o:Nm}{fr:Bool}{r:RecL}(h:RecG r):zdv (lnP m o fr r).1=!fr:=by
 obtain⟨s1,_⟩:=zeI (o:=o) h.own
 unfold lnP
 cases fr with
 |true=>
  show zdv (zbe r.owner o++_)=false
  rw[zm9 s1.t.1]
  exact bare_hd s1.b s1.t.1
 |false=>rfl
theorem zmx(w0:Lab)(m:Int)(r:RecL):zaM [32] ((w0::(if r.ttl=m then [] else [numT r.ttl]))++ [[73,78],tyT r.dat.ty,za5 hexU r.dat])=w0++([32]++aftT m r):=by
 unfold aftT
 split
 ·show zaM [32] [w0,[73,78],tyT r.dat.ty,za5 hexU r.dat]=_
  rw[zaP,zaP,zaP,zbX];rfl
 ·show zaM [32] [w0,numT r.ttl,[73,78],tyT r.dat.ty,za5 hexU r.dat]=_
  rw[zaP,zaP,zaP,zaP,zbX];simp
def zc9(m:Int)(o:Nm):Option Nm→List RecL→List (Lab×List (Lab×Bool))
 |_,[]=>[]
 |p,r::C=>lnP m o (!decide (p=some r.owner)) r::zc9 m o (some r.owner) C
theorem zgD(m:Int)(o:Nm):∀(C:List RecL) (p:Option Nm),(zc9 m o p C).length=C.length
 | [],_=>rfl
 |r::C,p=>by rw[zc9,List.length_cons,zgD m o C,List.length_cons]
theorem zic{m:Int}{o:Nm}:∀(C:List RecL) (p:Option Nm),(∀r∈C,RecG r)→∀x∈zc9 m o p C,Toks x.1 x.2∧zgm x.1∧x.1.length≤200000
 | [],_,_,x,hx=>by cases hx
 |r::C,p,h,x,hx=>by
  rw[zc9]at hx
  rcases List.mem_cons.1 hx with rfl|hx
  ·exact lnP_ok (h r (List.mem_cons_self ..))
  ·exact zic C _ (fun y hy=>h y (List.mem_cons_of_mem _ hy)) x hx
theorem zgB{m:Int}{o:Nm}:∀(C pre:List RecL),((List.range C.length).map fun j=>(pre.length+j,zdb (pre++C) (pre.length+j))).flatMap (zfR (pre++C) m o)=za0 ((zc9 m o (pre.getLast?.map RecL.owner) C).map Prod.fst)
 | [],pre=>rfl
 |r::C,pre=>by
  have ih:=zgB (m:=m) (o:=o) C (pre++ [r])
  have hg:(pre++r::C)[pre.length]? =some r:=by simp
  have hfr:zdb (pre++r::C) pre.length=!decide (pre.getLast?.map RecL.owner=some r.owner):=by
   unfold zdb
   rw[hg]
   cases hp:pre.getLast? with
   |none=>
    have:pre=[]:=List.getLast?_eq_none_iff.1 hp
    subst this
    simp
   |some l=>
    obtain⟨q,rfl⟩:=List.getLast?_eq_some_iff.1 hp
    have h1:((q++ [l])++r::C)[(q++ [l]).length - 1]? =some l:=by
     rw[List.append_assoc];simp
    rw[h1,decide_eq_false (by simp),Bool.false_or]
    congr 1
    exact decide_eq_decide.2 ⟨fun e=>e.symm,fun e=>e.symm⟩
  rw[List.length_cons,List.range_succ_eq_map,List.map_cons,List.map_map,List.flatMap_cons,zc9,List.map_cons,zbT]
  have hl:zfR (pre++r::C) m o (pre.length+0,zdb (pre++r::C) (pre.length+0))=(lnP m o (!decide (pre.getLast?.map RecL.owner=some r.owner)) r).1++ [10]:=by
   rw[Nat.add_zero,hfr]
   unfold zfR zhf
   rw[hg]
   simp only
   rw[zmx]
   rfl
  have e0:pre++ [r]++C=pre++r::C:=by simp
  rw[show ((pre++ [r]).getLast?.map RecL.owner)=some r.owner by simp,e0]at ih
  rw[hl,←ih,List.append_assoc]
  have e1:∀j∈List.range C.length,((fun j=>(pre.length+j,zdb (pre++r::C) (pre.length+j)))∘Nat.succ) j=((pre++ [r]).length+j,zdb (pre++r::C) ((pre++ [r]).length+j)):=fun j _=>by
   show(pre.length+(j+1),zdb _ (pre.length+(j+1)))=_
   rw[List.length_append,show pre.length+([r]:List RecL).length+j=pre.length+(j+1) by simp;omega]
  rw[List.map_congr_left e1]
  rfl
structure Sim(q r:RecL):Prop where
 own:zaB q.owner=zaB r.owner
 ttl:q.ttl=r.ttl
 dat:q.dat=r.dat
theorem zjX{m:Int}{r:RecL}{st:LdS}{q:Nm}(h:RecG r)(ht:st.ttl=some m)(ho:st.owner=some q)(hl:st.out.length<4096):zjr st (aftW m r) 0 {st with last:=some r.ttl,out:=st.out++ [⟨q,r.ttl,r.dat⟩]}:=by
 obtain⟨⟨t1,t2⟩,_,_,_,_,_⟩:=zbp h.chk
 obtain⟨p1,p2,p3,_,p5,_⟩:=zhG t1 t2
 have hdl:=zht h.chk h.dat h.num
 have hdt:=(zfZ h.chk).1
 have hwl:=zfg hdt
 have hwe:=zlA hdt
 have hF:=few_D h.dat h.num
 obtain⟨τ,hτ⟩:∃τ:Nat,r.ttl=(τ:Int):=⟨r.ttl.toNat,by have:=h.ttl;omega⟩
 have hτm:τ≤2147483647:=by have:=h.ttl;omega
 have hnum:numT r.ttl=Lib.decDigits τ:=by unfold numT;rw[hτ];rfl
 have hnl:=zbo 19 τ (by omega)
 have hdec:decP 2147483647 (Lib.decDigits τ)=(τ,0):=zcq hτm
 have i1:dgW [73,78]=false∧inW [73,78]=true:=by decide+kernel
 obtain⟨W,hW⟩:∃W,wF false (za5 hexU r.dat) [] false=W:=⟨_,rfl⟩
 rw[hW]at hwl hwe
 have hadd:∀tm:Option Int,orT (orT tm st.ttl) st.last=some r.ttl→AddR st tm ((tyT r.dat.ty,false)::W) 0 {st with last:=some r.ttl,out:=st.out++ [⟨q,r.ttl,r.dat⟩]}:=fun tm htm=>
  AddR.data _ _ r.dat 0 _ (by omega) (by rw[p1]) (by rw[p1,←hW];exact prs_back h.chk hF.1) (.inr ⟨rfl,hl,q,r.ttl,ho,htm,rfl⟩)
 unfold aftW
 rw[hW]
 by_cases hm:r.ttl=m
 ·rw[if_pos hm]
  have hhd:zcm 0 false false (([73,78],false)::(tyT r.dat.ty,false)::W)=[(0,false)]:=by
   rw[zcm,show goH (([73,78]:Lab),false) false false=true from by unfold goH;rw[i1.1,i1.2];rfl,if_pos rfl,i1.1,i1.2]
   rw[zcm,show goH (tyT r.dat.ty,false) (false||false) (false||true)=false from by unfold goH;rw[p2,p3];rfl,if_neg (by decide)]
  show zjr st (([73,78],false)::(tyT r.dat.ty,false)::W) 0 _
  refine⟨by simp only[List.length_cons];omega,fun x hx=>?_,fun y hy hd=>?_,?_,by rw[ho];rfl⟩
  ·rcases List.mem_cons.1 hx with rfl|hx
   ·decide
   rcases List.mem_cons.1 hx with rfl|hx
   ·show(tyT r.dat.ty).length≤_;omega
   ·have:=hwe x hx;omega
  ·rw[hhd]at hy
   rw[List.mem_singleton.1 hy]at hd;cases hd
  ·rw[hhd]
   exact hadd _ (by show orT (orT Option.none st.ttl) st.last=_;rw[ht,hm];rfl)
 ·rw[if_neg hm]
  have hhd:zcm 0 false false ((numT r.ttl,false)::([73,78],false)::(tyT r.dat.ty,false)::W)=[(0,true),(1,false)]:=by
   rw[hnum]
   rw[zcm,show goH (Lib.decDigits τ,false) false false=true from by unfold goH;rw[zjQ.1,zjQ.2];rfl,if_pos rfl,zjQ.1,zjQ.2]
   rw[zcm,show goH (([73,78]:Lab),false) (false||true) (false||false)=true from by unfold goH;rw[i1.1,i1.2];rfl,if_pos rfl,i1.1,i1.2]
   rw[zcm,show goH (tyT r.dat.ty,false) ((false||true)||false) ((false||false)||true)=false from by unfold goH;rw[p2,p3];rfl,if_neg (by decide)]
  show zjr st ((numT r.ttl,false)::([73,78],false)::(tyT r.dat.ty,false)::W) 0 _
  refine⟨by simp only[List.length_cons];omega,fun x hx=>?_,fun y hy hd=>?_,?_,by rw[ho];rfl⟩
  ·rcases List.mem_cons.1 hx with rfl|hx
   ·show(numT r.ttl).length≤_;rw[hnum];omega
   rcases List.mem_cons.1 hx with rfl|hx
   ·decide
   rcases List.mem_cons.1 hx with rfl|hx
   ·show(tyT r.dat.ty).length≤_;omega
   ·have:=hwe x hx;omega
  ·rw[hhd]at hy
   rcases List.mem_cons.1 hy with rfl|hy
   ·show(decP 2147483647 (numT r.ttl)).2=0
    rw[hnum,hdec]
   ·rw[List.mem_singleton.1 hy]at hd;cases hd
  ·rw[hhd]
   have htm:tmH ((numT r.ttl,false)::([73,78],false)::(tyT r.dat.ty,false)::W) [(0,true),(1,false)]=some r.ttl:=by
    show some (((decP 2147483647 (numT r.ttl)).1:Nat):Int)=_
    rw[hnum,hdec,hτ]
   rw[htm]
   exact hadd _ rfl
theorem aftW_len{m:Int}{r:RecL}(h:RecG r):(aftW m r).length<100000∧∃t ws,aftW m r=(t,false)::ws:=by
 have hdl:=zht h.chk h.dat h.num
 have hwl:=zfg (zfZ h.chk).1
 unfold aftW
 split
 ·exact⟨by simp only[List.nil_append,List.length_cons];omega,_,_,rfl⟩
 ·exact⟨by simp only[List.cons_append,List.nil_append,List.length_cons];omega,_,_,rfl⟩
theorem zgJ{fl:List (Lab×Lab)}{inc:LdS→Lab→Option FltL→LdS→Prop}{m:Int}{o:Nm}(hoc:zaL o=0):∀(C:List RecL) (p:Option Nm) (st:LdS) (n:Nat),(∀r∈C,RecG r)→st.origin=o→st.ttl=some m→(∀a,p=some a→∃q,st.owner=some q∧zaB q=zaB a)→st.out.length+C.length≤4096→st.reads.length≤1000→
  ∃st' Q,EntsIs fl inc st (entF n (zc9 m o p C)) Option.none st'∧st'.out=st.out++Q∧Q.length=C.length∧(∀i (h:i<Q.length) (h':i<C.length),Sim Q[i] C[i])∧st'.reads=st.reads
 | [],p,st,n,_,_,_,_,_,_=>⟨st,[],.nil st,by simp,rfl,fun i h=>by simp at h,rfl⟩
 |r::C,p,st,n,hG,hor,htt,hp,hl,hrd=>by
  have hr:=hG r (List.mem_cons_self ..)
  rw[List.length_cons]at hl
  obtain⟨hal,t,ws,haw⟩:=aftW_len (m:=m) hr
  obtain⟨fr,hfr⟩:∃fr,(!decide (p=some r.owner))=fr:=⟨_,rfl⟩
  have hwne:¬(lnP m o fr r).2=[]:=by unfold lnP;rw[haw];simp
  have hen:entF n (zc9 m o p (r::C))=⟨(n:Int),!fr,(lnP m o fr r).2⟩::entF (n+1) (zc9 m o (some r.owner) C):=by
   rw[zc9,hfr,entF]
   unfold zmQ
   rw[if_neg hwne,zmk hr]
   rfl
  rw[hen]
  -- the owner read
  obtain⟨q,hq,hE⟩:∃q,zaB q=zaB r.owner∧EntIs fl inc {st with line:=(n:Int)} ⟨(n:Int),!fr,(lnP m o fr r).2⟩ Option.none {st with line:=(n:Int),owner:=some q,last:=some r.ttl,out:=st.out++ [⟨q,r.ttl,r.dat⟩]}:=by
   cases fr with
   |true=>
    obtain⟨b1,b2⟩:=zky (o:=o) hr.own hoc
    obtain⟨s1,s2,s3⟩:=zeI (o:=o) hr.own
    refine⟨_,b2,?_⟩
    have h5:za6 (zbe r.owner o) st.origin=za6 (zbe r.owner o) o:=by rw[hor]
    have hH:=zjX (m:=m) (r:=r) (st:={st with line:=(n:Int),owner:=some (za6 (zbe r.owner o) o).1}) hr htt rfl (by show st.out.length<4096;omega)
    have:=EntIs.rcd (fl:=fl) (inc:=inc) (st:={st with line:=(n:Int)}) (n:Int) (zbe r.owner o) (aftW m r) 0 _ hal s2 (RecR.named _ _ _ _ (by omega) (by show(za6 (zbe r.owner o) st.origin).2=0;rw[hor];exact b1) (by
     show zjr {st with line:=(n:Int),owner:=some (za6 (zbe r.owner o) st.origin).1} _ _ _
     rw[h5];exact hH))
    exact this
   |false=>
    have hpr:p=some r.owner:=by simpa using hfr
    obtain⟨q,hq1,hq2⟩:=hp r.owner hpr
    refine⟨q,hq2,?_⟩
    have hH:=zjX (m:=m) (r:=r) (st:={st with line:=(n:Int)}) hr htt hq1 (by show st.out.length<4096;omega)
    rw[haw]at hH hal
    rw[List.length_cons]at hal
    have:=EntIs.blank (fl:=fl) (inc:=inc) (st:={st with line:=(n:Int)}) (n:Int) t false ws 0 _ (by omega) (RecR.blank _ _ _ hH)
    have e:(lnP m o false r).2=(t,false)::ws:=by rw[←haw];rfl
    rw[e]
    have e2:({st with line:=(n:Int),owner:=some q,last:=some r.ttl,out:=st.out++ [⟨q,r.ttl,r.dat⟩]}:LdS)={st with line:=(n:Int),last:=some r.ttl,out:=st.out++ [⟨q,r.ttl,r.dat⟩]}:=by rw[←hq1]
    rw[e2]
    exact this
  obtain⟨st',Q,g1,g2,g3,g4,g5⟩:=zgJ hoc C (some r.owner) {st with line:=(n:Int),owner:=some q,last:=some r.ttl,out:=st.out++ [⟨q,r.ttl,r.dat⟩]} (n+1) (fun x hx=>hG x (List.mem_cons_of_mem _ hx)) hor htt (fun a ha=>by injection ha with ha;subst ha;exact⟨q,rfl,hq⟩) (by show(st.out++ [_]).length+_≤_;rw[List.length_append];show _+1+_≤_;omega) hrd
  refine⟨st',⟨q,r.ttl,r.dat⟩::Q,EntsIs.more _ _ _ _ _ _ hrd hE g1,by rw[g2];simp,by rw[List.length_cons,g3,List.length_cons],fun i h h'=>?_,g5⟩
  cases i with
  |zero=>exact⟨hq,rfl,rfl⟩
  |succ i=>exact g4 i (by simpa using h) (by simpa using h')
theorem lnsOk2{xs:List (Lab×List (Lab×Bool))}(h:∀x∈xs,Toks x.1 x.2∧zgm x.1∧x.1.length≤1000000)(hl:xs.length≤1000):LnsOk xs:=by
 refine⟨fun x hx=>⟨(h x hx).1,(h x hx).2.1,by have:=(h x hx).2.2;omega⟩,?_,by omega⟩
 have:=zhJ (xs.map Prod.fst) 1000000 fun l hl=>by
  obtain⟨x,hx,rfl⟩:=List.mem_map.1 hl
  exact(h x hx).2.2
 rw[List.length_map]at this
 have h2:xs.length*(1000000+1)≤1000*(1000000+1):=Nat.mul_le_mul_right _ hl
 omega
theorem canonG{R:List RecL}(hG:∀r∈R,RecG r):∀r∈zbw R,RecG r:=
 zew (Q:=RecG) (cf:=zaA) (jn:=minT) (p:=fun r=>r) (fun a b ha hb _=>⟨ha.few,ha.dat,ha.own,by have h1:=ha.ttl;have h2:=hb.ttl;unfold minT;simp only;omega,ha.chk,ha.num⟩) R [] hG (fun x h=>by cases h)
theorem zkK{R:List RecL}{o u:Nm}(hG:∀r∈R,RecG r)(hl:(zbw R).length≤60)(hoc:zaL o=0):∃st',LoadIs [([122],zkU R o)] [122] u Option.none st'∧st'.out.length=(zbw R).length∧∀i (h:i<st'.out.length) (h':i<(zbw R).length),Sim st'.out[i] (zbw R)[i]:=by
 have hC:=canonG hG
 have hoT:NmT o:=⟨fun l hl=>by have:=(zb6 hoc l hl).2;omega,by have:=zeV hoc;omega⟩
 unfold zkU
 obtain⟨C,hCe⟩:∃C,zbw R=C:=⟨_,rfl⟩
 rw[hCe]at hC hl ⊢
 obtain⟨m,hm⟩:∃m,zdf (C.map RecL.ttl)=m:=⟨_,rfl⟩
 rw[hm]
 have hmb:0≤m∧m≤2147483647:=by
  cases C with
  |nil=>rw[←hm];decide
  |cons r C=>
   have:=zhF (ts:=(r::C).map RecL.ttl) (by simp)
   rw[hm]at this
   obtain⟨x,hx,rfl⟩:=List.mem_map.1 this
   exact(hC x hx).ttl
 obtain⟨μ,hμ⟩:∃μ:Nat,m=(μ:Int):=⟨m.toNat,by omega⟩
 have hnum:numT m=Lib.decDigits μ:=by unfold numT;rw[hμ];rfl
 have hdec:decP 2147483647 (numT m)=(μ,0):=by rw[hnum];exact zcq (by omega)
 have hnl:=zbo 19 μ (by omega)
 have hon:=zec hoc
 have b1:TkB wOrg:=zcx (by decide) (by decide)
 have b2:TkB wTtl:=zcx (by decide) (by decide)
 have b3:=zea o
 have b4:TkB (numT m):=hnum▸zcy μ
 have p32:Prn [32]:=by unfold Prn;decide
 obtain⟨L,hL⟩:∃L,zc9 m o Option.none C=L:=⟨_,rfl⟩
 have hLok:=zic (m:=m) (o:=o) C Option.none hC
 have hLl:=zgD m o C Option.none
 have hLt:=zgB (m:=m) (o:=o) C []
 rw[hL]at hLok hLl
 have htx:zgr m o++(zbF C).flatMap (zfR C m o)=za0 (((wOrg++([32]++zaV o),[(wOrg,false),(zaV o,false)])::(wTtl++([32]++numT m),[(wTtl,false),(numT m,false)])::L).map Prod.fst):=by
  rw[List.map_cons,List.map_cons,zbT,zbT]
  have hF:(zbF C).flatMap (zfR C m o)=za0 (L.map Prod.fst):=by
   rw[←hL,←show ([]:List RecL).getLast?.map RecL.owner=Option.none from rfl,←hLt]
   congr 1
   unfold zbF
   refine List.map_congr_left fun j _=>?_
   rw[List.length_nil,Nat.zero_add,List.nil_append]
  rw[hF]
  unfold zgr
  rw[zaP,zbX,zaP,zbX]
  simp
 rw[htx]
 obtain⟨xs,hxs⟩:∃xs,((wOrg++([32]++zaV o),[(wOrg,false),(zaV o,false)])::(wTtl++([32]++numT m),[(wTtl,false),(numT m,false)])::L:List (Lab×List (Lab×Bool)))=xs:=⟨_,rfl⟩
 obtain⟨st',Q,g1,g2,g3,g4,g5⟩:=zgJ (fl:=[([122],za0 (xs.map Prod.fst))]) (inc:=zeE [([122],za0 (xs.map Prod.fst))] 0) (m:=m) hoc C Option.none ⟨[122],2,o,Option.none,some m,Option.none,[],[[122]],0⟩ 3 hC rfl rfl (fun a h=>by cases h) (by show 0+C.length≤4096;omega) (by show 1≤1000;omega)
 rw[hL]at g1
 replace g2:st'.out=Q:=g2
 refine⟨{st' with reads:=st'.reads.dropLast},?_,by show st'.out.length=_;rw[g2,g3],fun i h h'=>?_⟩
 ·rw[hxs]
  refine .inl ⟨1,xs,st',by simp[zde],lnsOk2 (fun x hx=>?_) (by rw[←hxs,List.length_cons,List.length_cons,hLl];omega),Nat.zero_le _,?_,fun _=>⟨by rw[g5];exact Nat.le_refl 1,by rw[g5];exact Nat.le_of_ble_eq_true rfl,rfl⟩,fun h=>absurd rfl h⟩
  ·rw[←hxs]at hx
   rcases List.mem_cons.1 hx with rfl|hx
   ·refine⟨zbl b1 (zbZ b3),zfm (b1.p.app (p32.app b3.p)),?_⟩
    simp only[List.length_append,List.length_cons,List.length_nil]
    omega
   rcases List.mem_cons.1 hx with rfl|hx
   ·refine⟨zbl b2 (zbZ b4),zfm (b2.p.app (p32.app b4.p)),?_⟩
    simp only[List.length_append,List.length_cons,List.length_nil]
    rw[hnum]
    omega
   ·have:=hLok x hx
    exact⟨this.1,this.2.1,by have:=this.2.2;omega⟩
  ·have e1:entF 1 xs=⟨1,false,[(wOrg,false),(zaV o,false)]⟩::⟨2,false,[(wTtl,false),(numT m,false)]⟩::entF 3 L:=by
    rw[←hxs,entF,entF];rfl
   rw[e1]
   have hnb:=zeo (o:=u) hoc
   have d1:=DirIs.org (fl:=[([122],za0 (xs.map Prod.fst))]) (inc:=zeE [([122],za0 (xs.map Prod.fst))] 0) (st:={ld0 u with path:=[122],reads:=[[122]],line:=1}) (zaV o) o (by omega) hnb hoT
   have d2:=DirIs.ttl (fl:=[([122],za0 (xs.map Prod.fst))]) (inc:=zeE [([122],za0 (xs.map Prod.fst))] 0) (st:=⟨[122],2,o,Option.none,Option.none,Option.none,[],[[122]],0⟩) (numT m) (by rw[hnum];omega)
   rw[hdec,if_pos rfl,←hμ]at d2
   exact EntsIs.more _ _ _ ⟨[122],1,o,Option.none,Option.none,Option.none,[],[[122]],0⟩ _ _ (by show 1≤1000;omega) (EntIs.dir _ _ _ _ _ (by decide) d1) (EntsIs.more _ _ _ ⟨[122],2,o,Option.none,some m,Option.none,[],[[122]],0⟩ _ _ (by show 1≤1000;omega) (EntIs.dir _ _ _ _ _ (by decide) d2) g1)
 ·have h1:i<Q.length:=by rw[g3];exact h'
  have:=g4 i h1 h'
  have e:st'.out[i]'h=Q[i]:=by simp[g2]
  show Sim (st'.out[i]'h) _
  rw[e];exact this
def zfV{α:Type}(p:α→α→Bool):List α→List α→Bool
 | [],[]=>true
 |x::l,y::m=>p x y && zfV p l m
 |_,_=>false
theorem ziu{α:Type}{p:α→α→Bool}:∀{l m:List α},l.length≠m.length→zfV p l m=false
 | [],[],h=>absurd rfl h
 | [],_::_,_=>rfl
 |_::_,[],_=>rfl
 |x::l,y::m,h=>by
  simp only[zfV]
  rw[ziu (fun e=>h (by rw[List.length_cons,List.length_cons,e])),Bool.and_false]
theorem zkX{α:Type}{p:α→α→Bool}{l m:List α}{i:Nat}(hl:i<l.length)(hm:i<m.length):zfV p (l.drop i) (m.drop i)=(p l[i] m[i] && zfV p (l.drop (i+1)) (m.drop (i+1))):=by
 rw[List.drop_eq_getElem_cons hl,List.drop_eq_getElem_cons hm];rfl
end Go.Proofs.YtkpdfhbpdkifoaaGreatDoor
namespace Go.Proofs.YtkpdfhbpdkifoaaGreatDoor.P_rq
open Go Go.Proofs.YtkpdfhbpdkifoaaGreatDoor
set_option maxRecDepth 10000
theorem EqualFunc_ok{α:Type}{w:World}{C D:List Value→α→Prop}{uv vv:Value}{xs ys:List α}{g:FuncId}{p:α→α→Bool}(hC:zgf 7 C)(hD:zgf 7 D)(hx:Rows 7 C w uv xs)(hy:Rows 7 D w vv ys)(hcal:zaj Tryz.prog g=true)
  (hcall:∀(A:World) (cs ds:List Value) (x y:α),Ext w A→x∈xs→y∈ys→C cs x→D ds y→Fn Tryz.prog g #[.agg cs.toArray,.agg ds.toArray] A (fun v A'=>v= .bool (p x y)∧Ext A A')) (hxl:xs.length≤1000000000) (hyl:ys.length≤1000000000):
  Fn Tryz.prog 34 #[uv,vv,.func (.func g) #[] #[]] w (fun v w'=>v= .bool (zfV p xs ys)∧Ext w w'):=by
 obtain⟨ax,cx,rfl,hcx,hgx⟩:=hx.open
 obtain⟨ay,cy,rfl,hcy,hgy⟩:=hy.open
 refine enter Tryz.func34 Tryz.ntmps34 rfl rfl ?_
 repeat refine c_r ?_
 refine rg0 ?_
 repeat refine c_r ?_
 refine rg0 ?_
 repeat refine c_r ?_
 refine wc0 ?_ ?_
 ·intro hne
  simp only[Bool.not_eq_true',decide_eq_false_iff_not]at hne
  repeat (first|refine c_r ?_|refine rg0 ?_)
  refine rt0 Tryz.ntmps34 ?_
  exact⟨by rw[ziu (by omega)],Keep.refl _ _⟩
 intro heq
 simp only[Bool.not_eq_false',decide_eq_true_eq]at heq
 have hlen:xs.length=ys.length:=by omega
 repeat refine c_r ?_
 refine rg0 ?_
 repeat refine c_r ?_
 refine zaD (fun m σ ds A=>ds=[]∧∃(i:Nat),i+m=xs.length∧σ 17=vi i∧σ 16=vi xs.length∧σ 15= .slice ax xs.length cx∧σ 1= .slice ay ys.length cy∧σ 2= .func (.func g) #[] #[]∧Ext w A∧zfV p xs ys=zfV p (xs.drop i) (ys.drop i)) xs.length ?_ ?_
 ·exact⟨rfl,0,by omega,vr0,vr0,vq0,vq0,vq0,Keep.refl _ _,rfl⟩
 rintro m σ ds A ⟨rfl,i,him,h17,h16,h15,h1,h2,hEA,hinv⟩
 repeat refine c_r ?_
 refine rg2 h17 h16 ?_
 repeat refine c_r ?_
 refine wc0 ?_ ?_
 ·intro hlt
  simp only[decide_eq_true_eq]at hlt
  have hix:i<xs.length:=by omega
  have hiy:i<ys.length:=by omega
  have hi0:(0:Int)≤(i:Int):=by omega
  have hi1:(i:Int)<(xs.length:Int):=by omega
  have hi2:(i:Int)<(ys.length:Int):=by omega
  have hi1':(i:Int)+1=((i+1:Nat):Int):=by push_cast;rfl
  obtain⟨cs,hcs,hCx⟩:=hgx i hix
  obtain⟨es,hes,hDy⟩:=hgy i hiy
  obtain⟨zx,rfl⟩:=Option.isSome_iff_exists.1 (zav hcs)
  obtain⟨zy,rfl⟩:=Option.isSome_iff_exists.1 (zav hes)
  have d1:=zah hEA hcs
  repeat refine c_r ?_
  refine rq ?_;intro gd K hgd hK
  try simp (disch:=first|omega|assumption|rfl) only[go_sem,h15,h17,hi0,hi1,d1]
  refine zaR (P:=Tryz.prog) (t:=49) (l:=cs) (zat A _) (hC.len hCx) (hC.ones hCx) (by rw[hC.len hCx];rfl) rfl ?_
  intro A3 hs5 hB5 hk5
  try simp only[go_sem]
  refine hK _ _ ?_;clear hK hgd;clear K;try clear gd
  rw[zax]at hs5
  have hE5:Ext A A3:=Keep.to_ext (Ext.alloc A _) rfl (fun b hb=>by omega) hk5
  clear hk5
  have d2:=zah (hEA.trans hE5) hes
  repeat refine c_r ?_
  refine rq ?_;intro gd K hgd hK
  try simp (disch:=first|omega|assumption|rfl) only[go_sem,h1,hi0,hi2,d2]
  refine zaR (P:=Tryz.prog) (t:=49) (l:=es) (zat A3 _) (hD.len hDy) (hD.ones hDy) (by rw[hD.len hDy];rfl) rfl ?_
  intro A4 hs6 hB6 hk6
  try simp only[go_sem]
  refine hK _ _ ?_;clear hK hgd;clear K;try clear gd
  rw[zax]at hs6
  have hE6:Ext A3 A4:=Keep.to_ext (Ext.alloc A3 _) rfl (fun b hb=>by omega) hk6
  clear hk6
  have q1:=zal (n:=7) (hE6.at hB5) (hC.len hCx).symm
  have q2:=zal (n:=7) hB6 (hD.len hDy).symm
  have hst:=zkX (p:=p) hix hiy
  repeat refine c_r ?_
  refine rq ?_;intro gd K hgd hK
  try simp (disch:=first|omega|assumption|rfl) only[go_sem,h2,q1,q2]
  refine zds hcal (Fn.mono (hcall A4 cs es xs[i] ys[i] ((hEA.trans hE5).trans hE6) (List.getElem_mem hix) (List.getElem_mem hiy) hCx hDy) ?_)
  rintro _ A5 ⟨rfl,hE7⟩
  try simp only[go_sem]
  refine hK _ _ ?_;clear hK hgd;clear K;try clear gd
  repeat refine c_r ?_
  refine wc0 ?_ ?_
  ·intro hf
   simp only[Bool.not_eq_true']at hf
   repeat (first|refine c_r ?_|refine rg0 ?_)
   refine rt0 Tryz.ntmps34 ?_
   exact⟨by rw[hinv,hst,hf,Bool.false_and],((hEA.trans hE5).trans hE6).trans hE7⟩
  ·intro ht
   simp only[Bool.not_eq_false']at ht
   repeat refine c_r ?_
   refine rg2 h17 hi1' ?_
   repeat refine c_r ?_
   exact⟨m - 1,by omega,rfl,i+1,by omega,vq0,(vq1 h16),(vq1 h15),(vq1 h1),(vq1 h2),((hEA.trans hE5).trans hE6).trans hE7,by rw[hinv,hst,ht,Bool.true_and]⟩
 ·intro hge
  simp only[decide_eq_false_iff_not]at hge
  have e1:xs.drop i=[]:=List.drop_eq_nil_of_le (by omega)
  have e2:ys.drop i=[]:=List.drop_eq_nil_of_le (by omega)
  repeat (first|refine c_r ?_|refine rg0 ?_)
  refine rt0 Tryz.ntmps34 ?_
  exact⟨by rw[hinv,e1,e2];rfl,hEA⟩
end Go.Proofs.YtkpdfhbpdkifoaaGreatDoor.P_rq
namespace Go.Proofs.YtkpdfhbpdkifoaaGreatDoor
open Go
set_option maxRecDepth 10000
theorem Sim.cmp{q r:RecL}(h:Sim q r):zaA q r=0:=by
 have h0:zaA r r=0:=by
  have:=cpr_R.neg r r
  omega
 unfold zaA zcG at h0 ⊢
 rw[h.own,h.dat]
 exact h0
theorem fold_len{l m:Lab}(h:zaI l=zaI m):l.length=m.length:=by
 have:=congrArg List.length h
 unfold zaI at this
 simpa using this
theorem Sim.ok{q r:RecL}(h:Sim q r)(hr:zby r):zby q:=by
 have hl:q.owner.length=r.owner.length:=by
  have:=congrArg List.length h.own
  unfold zaB at this
  simpa using this
 refine⟨fun l hl=>?_,by rw[hl];exact hr.len,h.dat▸hr.dat⟩
 have hm:zaI l∈zaB q.owner:=List.mem_map_of_mem hl
 rw[h.own]at hm
 obtain⟨m,hm1,hm2⟩:=List.mem_map.1 hm
 have:=hr.lb m hm1
 have:=fold_len hm2
 omega
def simB(q r:RecL):Bool:=decide (q.ttl=r.ttl) && decide (zaA q r=0)
theorem Sim.b{q r:RecL}(h:Sim q r):simB q r=true:=by
 unfold simB
 rw[decide_eq_true h.ttl,decide_eq_true h.cmp];rfl
theorem zgI{α:Type}{p:α→α→Bool}:∀{xs ys:List α},xs.length=ys.length→(∀i (h:i<xs.length) (h':i<ys.length),p xs[i] ys[i]=true)→zfV p xs ys=true
 | [],[],_,_=>rfl
 | [],_::_,h,_=>by simp at h
 |_::_,[],h,_=>by simp at h
 |x::xs,y::ys,h,hp=>by
  have h0:p x y=true:=hp 0 (by simp) (by simp)
  rw[zfV,h0,zgI (by simpa using h) fun i h1 h2=>hp (i+1) (by simpa using h1) (by simpa using h2)];rfl
theorem zcB{w:World}{cs:List Value}{r:RecL}(h:RecAt w cs r):∃a0 n0 c0 a1 n1 c1 a2 n2 c2 a3 n3 c3 a4 n4 c4,cs=[.slice a0 n0 c0,v32 r.ttl,vi r.dat.ty,.slice a1 n1 c1,.slice a2 n2 c2,.slice a3 n3 c3,.slice a4 n4 c4]:=by
 obtain⟨ow,ds,rfl,h1,h2⟩:=h.ex
 obtain⟨a0,c0,rfl,_⟩:=id h1
 obtain⟨b1,m1,e1,b2,m2,e2,b3,m3,e3,b4,m4,e4,rfl⟩:=h2.open
 exact⟨_,_,_,_,_,_,_,_,_,_,_,_,_,_,_,rfl⟩
theorem znk{w:World}{ca cb:List Value}{a b:RecL}(ha:RecAt w ca a)(hb:RecAt w cb b)(hoa:zby a)(hob:zby b):Fn Tryz.prog 36 #[.agg ca.toArray,.agg cb.toArray] w (fun v w'=>v= .bool (decide (zaA a b=0))∧Ext w w'):=by
 obtain⟨a0,n0,c0,a1,n1,c1,a2,n2,c2,a3,n3,c3,a4,n4,c4,rfl⟩:=zcB ha
 obtain⟨b0,m0,d0,b1,m1,d1,b2,m2,d2,b3,m3,d3,b4,m4,d4,rfl⟩:=zcB hb
 refine enter Tryz.func36 Tryz.ntmps36 rfl rfl ?_
 refine go trivial ?_
 refine zb7 ?_
 intro w1 hE1 hs1 hA hB
 simp only[World.size_alloc]at hs1 hA hB ⊢
 have q0:=zal (n:=7) (l:=[.slice a0 n0 c0,v32 a.ttl,vi a.dat.ty,.slice a1 n1 c1,.slice a2 n2 c2,.slice a3 n3 c3,.slice a4 n4 c4]) hA rfl
 have q1:=zal (n:=7) (l:=[.slice b0 m0 d0,v32 b.ttl,vi b.dat.ty,.slice b1 m1 d1,.slice b2 m2 d2,.slice b3 m3 d3,.slice b4 m4 d4]) hB rfl
 refine rc (an2 q0 q1) (zc6 w1 _ _ a b (ha.ext hE1) (hb.ext hE1) hoa hob) ?_
 rintro _ w2 ⟨rfl,hE2⟩
 refine rgo trivial ?_
 refine rt0 Tryz.ntmps36 ?_
 exact⟨rfl,hE1.trans hE2⟩
theorem zjk{w:World}{ca cb:List Value}{a b:RecL}(ha:RecAt w ca a)(hb:RecAt w cb b)(hoa:zby a)(hob:zby b):Fn Tryz.prog 35 #[.agg ca.toArray,.agg cb.toArray] w (fun v w'=>v= .bool (simB a b)∧Ext w w'):=by
 obtain⟨a0,n0,c0,a1,n1,c1,a2,n2,c2,a3,n3,c3,a4,n4,c4,rfl⟩:=zcB ha
 obtain⟨b0,m0,d0,b1,m1,d1,b2,m2,d2,b3,m3,d3,b4,m4,d4,rfl⟩:=zcB hb
 refine enter Tryz.func35 Tryz.ntmps35 rfl rfl ?_
 refine go trivial ?_
 refine zb7 ?_
 intro w1 hE1 hs1 hA hB
 simp only[World.size_alloc]at hs1 hA hB ⊢
 have q0:=zal (n:=7) (l:=[.slice a0 n0 c0,v32 a.ttl,vi a.dat.ty,.slice a1 n1 c1,.slice a2 n2 c2,.slice a3 n3 c3,.slice a4 n4 c4]) hA rfl
 have q1:=zal (n:=7) (l:=[.slice b0 m0 d0,v32 b.ttl,vi b.dat.ty,.slice b1 m1 d1,.slice b2 m2 d2,.slice b3 m3 d3,.slice b4 m4 d4]) hB rfl
 have p0:zad w1 (some ⟨w.heap.size,1,Option.none⟩)=some (v32 a.ttl):=zaa hA rfl
 have p1:zad w1 (some ⟨w.heap.size+1,1,Option.none⟩)=some (v32 b.ttl):=zaa hB rfl
 unfold simB
 by_cases ht:a.ttl=b.ttl
 ·rw[decide_eq_true ht]
  refine rcg [(5,10)] (an5 q0 q1 p0 p1 (an2 Nat.zero_add (decide_eq_true ht))) (znk (ha.ext hE1) (hb.ext hE1) hoa hob) ?_
  rintro _ w2 ⟨rfl,hE2⟩
  refine reg [(5,10)] trivial ?_
  refine go trivial ?_
  refine rt0 Tryz.ntmps35 ?_
  exact⟨rfl,hE1.trans hE2⟩
 ·rw[decide_eq_false ht]
  refine rgg [(5,10)] (an5 q0 q1 p0 p1 (an2 Nat.zero_add (decide_eq_false ht))) ?_
  refine go trivial ?_
  refine rt0 Tryz.ntmps35 ?_
  exact⟨rfl,hE1⟩
theorem ziI{w:World}{av bv:Value}{xs ys:List RecL}(ha:Rows 7 (RecAt w) w av xs)(hb:Rows 7 (RecAt w) w bv ys)(hx:∀r∈xs,zby r)(hy:∀r∈ys,zby r)(hxl:xs.length≤1000)(hyl:ys.length≤1000):
  Fn Tryz.prog 9 #[av,bv] w (fun v w'=>v= .bool (zfV simB xs ys)∧Ext w w'):=by
 obtain⟨a1,c1,rfl,_⟩:=id ha.open
 obtain⟨a2,c2,rfl,_⟩:=id hb.open
 refine enter Tryz.func9 Tryz.ntmps9 rfl rfl ?_
 refine go trivial ?_
 refine rc trivial (P_rq.EqualFunc_ok (p:=simB) (zbi w) (zbi w) ha hb rfl (fun A cs ds x y hE m1 m2 h1 h2=>zjk (h1.ext hE) (h2.ext hE) (hx x m1) (hy y m2)) (by omega) (by omega)) ?_
 rintro _ w1 ⟨rfl,hE1⟩
 refine rgo trivial ?_
 refine rt0 Tryz.ntmps9 ?_
 exact⟨rfl,hE1⟩
theorem zjl{w:World}{av bv:Value}{xs ys:List RecL}(ha:Rows 7 (RecAt w) w av xs)(hb:Rows 7 (RecAt w) w bv ys)(hlen:xs.length=ys.length)(hS:∀i (h:i<xs.length) (h':i<ys.length),Sim xs[i] ys[i])(hy:∀r∈ys,zby r)(hxl:xs.length≤1000):
  Fn Tryz.prog 11 #[av,bv] w (fun v w'=>v= .bool true∧Ext w w'):=by
 obtain⟨a1,c1,rfl,_,h1⟩:=ha.open
 obtain⟨a2,c2,rfl,_,h2⟩:=hb.open
 rw[←hlen]
 refine enter Tryz.func11 Tryz.ntmps11 rfl rfl ?_
 refine go (show decide ((xs.length:Int)=(xs.length:Int))=true from decide_eq_true rfl) ?_
 refine zbq xs.length (fun i σ A=>(σ 5=vi i∧σ 0= .slice a1 xs.length c1∧σ 1= .slice a2 xs.length c2)∧Ext w A) ?_ ?_ ?_
 ·exact⟨⟨vr0,vr0,vr0⟩,Keep.refl _ _⟩
 ·rintro i σ A hi r ⟨⟨s5,s0,s1⟩,hEA⟩
  have hi0:(0:Int)≤(i:Int):=by omega
  have hi1:(i:Int)<(xs.length:Int):=by omega
  obtain⟨ca,hca,hRa⟩:=h1 i hi
  obtain⟨cb,hcb,hRb⟩:=h2 i (by omega)
  have hs:=hS i hi (by omega)
  have hob:=hy ys[i] (List.getElem_mem (by omega))
  have hoa:=hs.ok hob
  obtain⟨ra,hra⟩:∃r,xs[i]=r:=⟨_,rfl⟩
  obtain⟨rb,hrb⟩:∃r,ys[i]'(by omega)=r:=⟨_,rfl⟩
  rw[hra]at hRa hs hoa
  rw[hrb]at hRb hs hob
  have hcz:=hs.cmp
  have htz:=hs.ttl
  obtain⟨p0,n0,d0,p1,n1,d1,p2,n2,d2,p3,n3,d3,p4,n4,d4,rfl⟩:=zcB hRa
  obtain⟨q0,m0,e0,q1,m1,e1,q2,m2,e2,q3,m3,e3,q4,m4,e4,rfl⟩:=zcB hRb
  obtain⟨x1,rfl⟩:=Option.isSome_iff_exists.1 (zav hca)
  obtain⟨x2,rfl⟩:=Option.isSome_iff_exists.1 (zav hcb)
  obtain⟨y1,hy1⟩:∃y,adr (some x1) (i*7)=some y:=⟨_,rfl⟩
  obtain⟨y2,hy2⟩:∃y,adr (some x2) (i*7)=some y:=⟨_,rfl⟩
  rw[hy1]at hca
  rw[hy2]at hcb
  obtain⟨u1,hu1⟩:∃y,adr (some y1) 1=some y:=⟨_,rfl⟩
  obtain⟨u2,hu2⟩:∃y,adr (some y2) 1=some y:=⟨_,rfl⟩
  refine go (an4 r s5 s0 hi1) ?_
  repeat refine c_r ?_
  refine zaF (fun _=>false) [(0,true),(1,true),(2,true),(3,true),(4,true),(5,true),(6,true),(7,true),(8,false),(9,true),(10,true),(11,true),(12,true),(13,true),(14,true),(15,true),(16,true),(17,true),(18,true),(19,true),(20,true),(21,true),(22,true)] NoS mixed (by kernel_rfl) ?_;intro gd K x hgd hx hxe hK;clear hxe
  have hg10:∀n σ b,zaE gd n σ (some (10,b))=zap (ev n σ (.tmp 27)) b:=(fun n σ b=>by rw[zag,show gd 10=some 27 from(by rw[hgd];rfl)];rfl)
  have hW:=hEA.trans hx
  have fa:=zah hW hca
  have fb:=zah hW hcb
  simp (disch:=first|omega|assumption|rfl) only[go_sem,s5,s0,s1,hi0,hi1,Int.toNat_natCast,hy1,hy2,fa,fb]
  refine Fn.mono (zgh x _ _ ra rb (hRa.ext hW) (hRb.ext hW) hoa hob) ?_
  rintro _ y ⟨rfl,hy'⟩
  refine⟨.inr hy'.keep,?_⟩
  have f1:zad y (adr (some y1) 1)=some (v32 ra.ttl):=zc0 (zah hy' fa) rfl
  have g1:zad y (adr (some y2) 1)=some (v32 rb.ttl):=zc0 (zah hy' fb) rfl
  rw[hu1]at f1
  rw[hu2]at g1
  have d1:decide (zaA ra rb=0)=true:=decide_eq_true hcz
  have d2:decide (ra.ttl=rb.ttl)=true:=decide_eq_true htz
  simp (disch:=first|omega|assumption|rfl) only[go_sem,d1,d2,Bool.not_true,zhv,s5,s0,s1,hi0,hi1,Int.toNat_natCast,hy1,hy2,hu1,hu2,f1,g1,↓hg10]
  refine hK _ _ ?_;clear hK hgd;clear K;try clear gd
  repeat refine c_r ?_
  refine wf Bool.not_true ?_
  refine go (an4 s5 s0 s1 r) ?_
  exact⟨rfl,⟨(vq1 r),(vq1 s0),(vq1 s1)⟩,hW.trans hy'⟩
 ·rintro σ A r ⟨⟨s5,s0,s1⟩,hEA⟩
  refine go (an4 r s5 s0 s1) ?_
  refine rt0 Tryz.ntmps11 ?_
  exact⟨rfl,hEA⟩
theorem zmM{w:World}{b:Nat}{a1 a2:Lab}{T:TypeId}{fr:Nat×Nat}(h:w.heap[b]? =some (.cells #[vs a1,vs a2] T fr)):Rows 2 zfc w (.slice (some ⟨b,0,Option.none⟩) [(a1,a2)].length 1) [(a1,a2)]:=by
 refine Rows.close (Nat.le_refl _) (fun i hi=>?_)
 have hi2:i=0:=by
  have h2:i<1:=hi
  omega
 subst hi2
 exact⟨_,by rw[zaZ];exact zay h (Nat.le_of_ble_eq_true rfl),rfl⟩
theorem ziJ{W:World}(hX:WX W)(hY:WY W){lv ov uv:Value}{R:List RecL}{o u:Nm}(hl:Rows 7 (RecAt W) W lv R)(hnum:∀r∈R,znp r)(ho:Row W ov (o.map vs))(hu:Row W uv (u.map vs)):
  Fn Tryz.prog 3 #[lv,ov,uv] W (fun v w'=>v= .bool true∧Ext W w'):=by
 obtain⟨aR,cR,rfl,hcR,hgR⟩:=id hl.open
 refine enter Tryz.func3 Tryz.ntmps3 rfl rfl ?_
 refine go trivial ?_
 refine rc trivial (zlf hY) ?_
 rintro _ w1 ⟨rfl,hE1⟩
 refine rgo trivial ?_
 refine rcg [(3,15),(8,20)] trivial (zlb ((hl.ext hE1).to fun cs a h=>h.ext hE1) hnum) ?_
 rintro _ w2 ⟨hE2,b,rfl,hb⟩
 have hE12:=hE1.trans hE2
 cases b with
 |false=>
  refine reg [(3,15),(8,20)] trivial ?_
  refine go trivial ?_
  refine rt0 Tryz.ntmps3 ?_
  exact⟨rfl,hE12⟩
 |true=>
 obtain⟨hRl,hG⟩:=hb rfl
 refine rdg [(3,15),(8,20)] trivial (zkl w2 ov o (ho.ext hE12)) ?_
 rintro _ w3 ⟨rfl,hE3⟩
 have hE13:=hE12.trans hE3
 cases hg1:zih o with
 |false=>
  refine reg [(3,15),(8,20)] trivial ?_
  refine go trivial ?_
  refine rt0 Tryz.ntmps3 ?_
  exact⟨rfl,hE13⟩
 |true=>
 refine rdg [(3,15),(8,20)] trivial (zkl w3 uv u (hu.ext hE13)) ?_
 rintro _ w4 ⟨rfl,hE4⟩
 have hE14:=hE13.trans hE4
 cases hg2:zih u with
 |false=>
  refine reg [(3,15),(8,20)] trivial ?_
  refine go trivial ?_
  refine rt0 Tryz.ntmps3 ?_
  exact⟨rfl,hE14⟩
 |true=>
 refine reg [(3,15),(8,20)] trivial ?_
 have hT:∀r∈R,RecT r:=fun r hr=>(recG_T (hG r hr)).1
 have hok:∀r∈R,zby r:=fun r hr=>(recG_T (hG r hr)).2
 have hoc:zaL o=0:=by
  unfold zih at hg1
  simp only[Bool.and_eq_true,decide_eq_true_eq]at hg1
  exact hg1.2
 refine go trivial ?_
 refine rc trivial (zny (hY.ext hE14) ((hl.ext hE14).to fun cs a h=>h.ext hE14) hT hok (by omega) (ho.ext hE14) (zmH hg1)) ?_
 rintro _ w5 ⟨rfl,hE5⟩
 have hE15:=hE14.trans hE5
 have hCl:=zgR R
 obtain⟨st',hL,hQl,hS⟩:=zkK (R:=R) (o:=o) (u:=u) hG (by omega) hoc
 obtain⟨t,ht⟩:∃t,zkU R o=t:=⟨_,rfl⟩
 rw[ht]at hL ⊢
 obtain⟨Q,hQ⟩:∃Q,st'.out=Q:=⟨_,rfl⟩
 simp only[hQ]at hQl hS
 refine rgo trivial ?_
 refine rq ?_;intro gd K hgd hK
 try simp only[go_sem]
 refine⟨by kernel_rfl,?_⟩
 refine optL_is (m:= .mk) (v:= .agg #[vs [122],vs t]) (by kernel_rfl) ?_
 try simp only[go_sem]
 refine bsL_at (e:=33) (arr:=#[vs [122],vs t]) (by kernel_rfl) ?_
 intro w6 e6 n6 b6
 have hf:=zmM b6
 try simp only[go_sem]
 refine Fn.mono (Load_ok (o:=u) (hX.ext (hE15.trans e6)) hf (Nat.le_of_ble_eq_true rfl) (hu.ext (hE15.trans e6)) (zmH hg2) hL) ?_
 rintro _ w7 ⟨e7,rv,rfl,hRs⟩
 rw[hQ]at hRs
 try simp only[go_sem]
 refine hK _ _ ?_;clear hK hgd;clear K;try clear gd
 have hE7:=(hE15.trans e6).trans e7
 obtain⟨C,hC⟩:∃C,zbw R=C:=⟨_,rfl⟩
 rw[hC]at hQl hCl
 simp only[hC]at hS
 have hCok:∀r∈C,zby r:=hC▸zk4 (fun a b h=>⟨h.lb,h.len,h.dat⟩) hok
 have hQok:∀r∈Q,zby r:=fun r hr=>by
  obtain⟨i,hi,rfl⟩:=List.getElem_of_mem hr
  exact(hS i hi (by omega)).ok (hCok _ (List.getElem_mem (by omega)))
 have hCG:∀r∈C,RecG r:=hC▸canonG hG
 have nnQ:∀r∈Q,r.dat.names.length≤1000000000:=fun r hr=>by
  obtain⟨i,hi,rfl⟩:=List.getElem_of_mem hr
  rw[(hS i hi (by omega)).dat]
  exact(hCG _ (List.getElem_mem (by omega))).dat.nn
 have nnR:∀r∈R,r.dat.names.length≤1000000000:=fun r hr=>(hG r hr).dat.nn
 obtain⟨ra,rcap,rfl,_⟩:=Rows.open (k:=7) (xs:=Q) hRs
 refine go trivial ?_
 refine rcg [(2,38),(8,44)] trivial (zks w7 w7 (Keep.refl _ _) ((hl.ext hE7).to fun cs a h=>h.ext hE7) hok (by omega)) ?_
 rintro cv w8 ⟨hc8,e8,_⟩
 rw[hC]at hc8
 refine rdg [(2,38),(8,44)] trivial (ziI ((Rows.ext (k:=7) (xs:=Q) hRs e8).to fun cs a h=>h.ext e8) (hc8.to fun cs a h=>h.ext e8) hQok hCok (by omega) (by omega)) ?_
 rintro _ w9 ⟨rfl,e9⟩
 rw[zgI (p:=simB) hQl fun i h h'=>(hS i h h').b]
 have e79:=e8.trans e9
 refine rdg [(2,38),(8,44)] trivial (zkk (w0:=w7) e79 (Rows.ext (k:=7) (xs:=Q) hRs e79) nnQ (by omega)) ?_
 rintro v1 x1 ⟨f1,hr1⟩
 refine rdg [(2,38),(8,44)] trivial (zkk (w0:=W) ((hE7.trans e79).trans f1) (hl.ext ((hE7.trans e79).trans f1)) nnR (by omega)) ?_
 rintro v2 x2 ⟨f2,hr2⟩
 refine rdg [(2,38),(8,44)] trivial (znm x2 x2 (Keep.refl _ _) hr2 hok (by omega)) ?_
 rintro v3 x3 ⟨hr3,f3⟩
 rw[hC]at hr3
 refine rdg [(2,38),(8,44)] trivial (zjl (((hr1.ext (f2.trans f3)).to fun cs a h=>h.ext (f2.trans f3))) (hr3.rows.to fun cs a h=>h.ext f3) hQl hS hCok (by omega)) ?_
 rintro _ x4 ⟨rfl,f4⟩
 refine reg [(2,38),(8,44)] trivial ?_
 refine go trivial ?_
 refine rt0 Tryz.ntmps3 ?_
 exact⟨rfl,((((hE7.trans e79).trans f1).trans f2).trans f3).trans f4⟩
end Go.Proofs.YtkpdfhbpdkifoaaGreatDoor
