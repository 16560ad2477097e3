/-
  Texts of a proof, joined: QJ, QK, QM, QP, QR, YT3, KC3, GW, HX0, ZT3.
  Conditions: none.
-/
import Derived.Test.YtihbdhjibplldaaGreatDoorQLW09
import Derived.Test.YtihbdhjibplldaaGreatDoorQLW07
import Derived.Test.YtihbdhjibplldaaGreatDoorRows
import Derived.JoinedOf
import Derived.Handed
import Derived.Test.YtihbdhjibplldaaGreatDoorQLW03
import Derived.Stop.LaidErr
import Derived.Shelf.Vars
import Derived.MakeChecks
import Derived.Test.YtihbdhjibplldaaGreatDoorQLW04
import Derived.Test.YtihbdhjibplldaaGreatDoorCards
import Derived.Test.YtihbdhjibplldaaGreatDoorTie
import Derived.Lay
import Derived.SevenTiedAt
import Derived.ChangeMaps5
set_option linter.unusedVariables false
set_option linter.unusedSimpArgs false
set_option linter.defProp false
set_option linter.unnecessarySimpa false
set_option maxHeartbeats 8000000
namespace Go.Proofs.YtihbdhjibplldaaGreatDoor
open Go
set_option maxRecDepth 10000
abbrev xs9a:List (Lab×List (Lab×Bool)):=[([36,84,84,76,32,54,48],[([36,84,84,76],false),([54,48],false)]),([64,32,73,78,32,65,32,49,46,50,46,51,46,52],[([64],false),([73,78],false),([65],false),([49,46,50,46,51,46,52],false)]),([36,73,78,67,76,85,68,69,32,98,32,115,117,98],[([36,73,78,67,76,85,68,69],false),([98],false),([115,117,98],false)]),([32,65,32,49,46,50,46,51,46,53],[([65],false),([49,46,50,46,51,46,53],false)]),([36,71,69,78,69,82,65,84,69,32,49,45,50,32,104,36,32,65,32,49,48,46,48,46,48,46,36],[([36,71,69,78,69,82,65,84,69],false),([49,45,50],false),([104,36],false),([65],false),([49,48,46,48,46,48,46,36],false)])]
abbrev xs9b:List (Lab×List (Lab×Bool)):=[([120,32,53,32,73,78,32,78,83,32,121],[([120],false),([53],false),([73,78],false),([78,83],false),([121],false)])]
abbrev xs9c:List (Lab×List (Lab×Bool)):=[([],[]),([64,32,65,32,49,46,50,46,51],[([64],false),([65],false),([49,46,50,46,51],false)])]
abbrev tx9a:Lab:=[36,84,84,76,32,54,48,10,64,32,73,78,32,65,32,49,46,50,46,51,46,52,10,36,73,78,67,76,85,68,69,32,98,32,115,117,98,10,32,65,32,49,46,50,46,51,46,53,10,36,71,69,78,69,82,65,84,69,32,49,45,50,32,104,36,32,65,32,49,48,46,48,46,48,46,36,10]
abbrev tx9b:Lab:=[120,32,53,32,73,78,32,78,83,32,121,10]
abbrev tx9c:Lab:=[10,64,32,65,32,49,46,50,46,51,10]
abbrev fl9:List (Lab×Lab):=[([97],tx9a),([98],tx9b)]
abbrev o9:Nm:=[[111]]
abbrev oS:Nm:=[[115,117,98],[111]]
def rc1:RecL:=⟨o9,60,⟨1,[],[],[],[1,2,3,4]⟩⟩
def rc2:RecL:=⟨[120]::oS,5,⟨2,[[121]::oS],[],[],[]⟩⟩
def rc3:RecL:=⟨o9,60,⟨1,[],[],[],[1,2,3,5]⟩⟩
def rc4:RecL:=⟨[[104,49],[111]],60,⟨1,[],[],[],[10,0,0,1]⟩⟩
def rc5:RecL:=⟨[[104,50],[111]],60,⟨1,[],[],[],[10,0,0,2]⟩⟩
theorem pA1(o:Nm):zdk 1 [(tA4,false)] o ⟨1,[],[],[],[1,2,3,4]⟩ 0:=prs_A (by decide+kernel) (by decide+kernel)
theorem pA2(o:Nm):zdk 1 [([49,46,50,46,51,46,53],false)] o ⟨1,[],[],[],[1,2,3,5]⟩ 0:=prs_A (by decide+kernel) (by decide+kernel)
theorem pA3(o:Nm):zdk 1 [([49,48,46,48,46,48,46,49],false)] o ⟨1,[],[],[],[10,0,0,1]⟩ 0:=prs_A (by decide+kernel) (by decide+kernel)
theorem pA4(o:Nm):zdk 1 [([49,48,46,48,46,48,46,50],false)] o ⟨1,[],[],[],[10,0,0,2]⟩ 0:=prs_A (by decide+kernel) (by decide+kernel)
theorem pT1:zbB [65]=(1,0):=by decide+kernel
theorem pT2:zbB [78,83]=(2,0):=by decide+kernel
theorem put9{s out nd:Lab}{n:Int}{f0:Nat}(hs:s.length≤10000)(hnd:nd.length≤100)(h0:0≤n)(h1:n≤1000000000)(hi:Lib.itoa n=nd)(hp:putN (fun _=>Option.none) nd f0 s=some (out,0)):zjH s n out:=fun w hW=>by
 refine Put_ok hW hs hnd (fun v hv=>?_) (fun i d e h=>(by cases h)) hp (.inl rfl)
 rw[←hi]
 exact zjN hv n (by omega) (by omega)
theorem puts3{a b c a2 b2 c2:Lab}{n:Int}(h1:zjH a n a2)(h2:zjH b n b2)(h3:zjH c n c2):zjG [(a,false),(b,false),(c,false)] n [(a2,false),(b2,false),(c2,false)]:=by
 refine⟨rfl,fun i h h'=>?_,fun i h h'=>?_⟩
 ·rcases i with _|_|_|i
  ·exact h1
  ·exact h2
  ·exact h3
  ·simp at h;omega
 ·rcases i with _|_|_|i
  ·rfl
  ·rfl
  ·rfl
  ·simp at h;omega
theorem it1:Lib.itoa 1=[49]:=itoa_1
theorem it2:Lib.itoa 2=[50]:=(zg4 (n:=2) (by decide)).trans rfl
theorem ps9{n:Int}{c:UInt8}(h0:0≤n)(h1:n≤1000000000)(hi:Lib.itoa n=[c])(a1:putN (fun _=>Option.none) [c] 100 [104,36]=some ([104,c],0))(a2:putN (fun _=>Option.none) [c] 100 [65]=some ([65],0))(a3:putN (fun _=>Option.none) [c] 100 [49,48,46,48,46,48,46,36]=some ([49,48,46,48,46,48,46,c],0)):
  zjG [([104,36],false),([65],false),([49,48,46,48,46,48,46,36],false)] n [([104,c],false),([65],false),([49,48,46,48,46,48,46,c],false)]:=puts3 (put9 (by decide) (Nat.le_of_ble_eq_true rfl) h0 h1 hi a1) (put9 (by decide) (Nat.le_of_ble_eq_true rfl) h0 h1 hi a2) (put9 (by decide) (Nat.le_of_ble_eq_true rfl) h0 h1 hi a3)
theorem fb9(st:LdS)(hr:st.reads.length≤900)(ho:st.origin=oS)(hx:st.out.length<4096):zbX fl9 1 st [98] Option.none {st with path:=[98],line:=1,owner:=some ([120]::oS),last:=some 5,out:=st.out++ [rc2]}:=by
 refine⟨xs9b,{st with path:=[98],line:=1,owner:=some ([120]::oS),last:=some 5,out:=st.out++ [rc2],reads:=st.reads++ [[98]]},by decide+kernel,lnsB (by decide+kernel) (by decide),by omega,?_,fun _=>⟨by simp,by simp;omega,by simp⟩,fun h=>absurd rfl h⟩
 refine EntsIs.more _ _ [] _ _ _ (by simp;omega) ?_ (.nil _)
 refine zfe (n:=[120]::oS) (hs:=[(0,true),(1,false)]) (e:=0) 1 (by decide) (by decide) (by show zaL [120] st.origin=_;rw[ho];decide+kernel) (by decide) (by decide+kernel) (by decide+kernel) ?_
 refine zc5 (d:=⟨2,[[121]::oS],[],[],[]⟩) (n:=[120]::oS) (τ:=5) (by decide) (by rw[pT2]) ?_ hx rfl rfl
 rw[pT2]
 exact prs_name (.inl rfl) (by show zaL [121] st.origin=_;rw[ho];decide+kernel) (by decide) (by decide)
theorem fa9:zge fl9 [97] o9 Option.none ⟨[97],5,o9,some [[104,50],[111]],some 60,some 60,[rc1,rc2,rc3,rc4,rc5],[],1⟩:=by
 refine .inl ⟨2,xs9a,⟨[97],5,o9,some [[104,50],[111]],some 60,some 60,[rc1,rc2,rc3,rc4,rc5],[[97]],1⟩,by decide+kernel,lnsB (by decide+kernel) (by decide),by decide,?_,fun _=>⟨by decide,by decide,rfl⟩,fun h=>absurd rfl h⟩
 -- the time
 refine EntsIs.more _ ⟨1,false,[(wTtl,false),([54,48],false)]⟩ _ ⟨[97],1,o9,Option.none,some 60,Option.none,[],[[97]],0⟩ _ _ (by decide) ?_ ?_
 ·have hd:decP 2147483647 [54,48]=(60,0):=by decide+kernel
  have:=DirIs.ttl (fl:=fl9) (inc:=zbX fl9 1) (st:=⟨[97],1,o9,Option.none,Option.none,Option.none,[],[[97]],0⟩) [54,48] (by decide)
  rw[hd,if_pos rfl]at this
  exact EntIs.dir _ _ _ _ _ (by decide) this
 -- an address
 refine EntsIs.more _ ⟨2,false,[([64],false),([73,78],false),([65],false),(tA4,false)]⟩ _ ⟨[97],2,o9,some o9,some 60,some 60,[rc1],[[97]],0⟩ _ _ (by decide) ?_ ?_
 ·refine zfe (st:=⟨[97],1,o9,Option.none,some 60,Option.none,[],[[97]],0⟩) (n:=o9) (hs:=[(0,false)]) (e:=0) 2 (by decide) (by decide) (by decide+kernel) (by decide) (by decide+kernel) (by decide+kernel) ?_
  exact zc5 (d:=⟨1,[],[],[],[1,2,3,4]⟩) (n:=o9) (τ:=60) (by decide) (by rw[pT1]) (by rw[pT1];exact pA1 _) (by decide) rfl rfl
 -- another file
 refine EntsIs.more _ ⟨3,false,[(wInc,false),([98],false),([115,117,98],false)]⟩ _ ⟨[97],3,o9,some o9,some 60,some 60,[rc1,rc2],[[97]],1⟩ _ _ (by decide) ?_ ?_
 ·refine EntIs.dir _ _ _ _ _ (by decide) (.incl _ _ _ ?_)
  have hn:zaL [115,117,98] o9=(oS,0):=by decide+kernel
  refine AskIs.two _ _ _ _ _ (by decide) (by show(zaL [115,117,98] o9).2=0;rw[hn]) (by show NmT (zaL [115,117,98] o9).1;rw[hn];exact⟨by decide,by decide⟩) ?_
  show IncIs fl9 (zbX fl9 1) _ _ (zaL [115,117,98] o9).1 _ _
  rw[hn]
  exact IncIs.read (fl:=fl9) (st:=⟨[97],3,o9,some o9,some 60,some 60,[rc1],[[97]],0⟩) (p:=[98]) _ _ (by decide+kernel) (by decide) (by decide) (by decide) (by decide) (fb9 ⟨[97],3,oS,some o9,some 60,some 60,[rc1],[[97]],1⟩ (by decide) rfl (by decide))
 -- an address of the same owner
 refine EntsIs.more _ ⟨4,true,[([65],false),([49,46,50,46,51,46,53],false)]⟩ _ ⟨[97],4,o9,some o9,some 60,some 60,[rc1,rc2,rc3],[[97]],1⟩ _ _ (by decide) ?_ ?_
 ·refine zji (st:=⟨[97],3,o9,some o9,some 60,some 60,[rc1,rc2],[[97]],1⟩) (n:=o9) (hs:=[]) (e:=0) 4 rfl (by decide) (by decide+kernel) (by decide+kernel) ?_
  exact zc5 (d:=⟨1,[],[],[],[1,2,3,5]⟩) (n:=o9) (τ:=60) (by decide) (by rw[pT1]) (by rw[pT1];exact pA2 _) (by decide) rfl rfl
 -- a range
 refine EntsIs.more _ ⟨5,false,[(wGen,false),([49,45,50],false),([104,36],false),([65],false),([49,48,46,48,46,48,46,36],false)]⟩ _ _ _ _ (by decide) ?_ (.nil _)
 refine EntIs.dir _ _ _ _ _ (by decide) (.gen _ _ 1 2 1 [1,2] _ (by decide+kernel) (by decide+kernel) ?_ (by decide) (by decide) (by decide) (by decide) (by decide))
 refine GenRun.more _ _ _ [104,49] false [([65],false),([49,48,46,48,46,48,46,49],false)] ⟨[97],5,o9,some [[104,49],[111]],some 60,some 60,[rc1,rc2,rc3,rc4],[[97]],1⟩ _ (ps9 (by decide) (by decide) it1 (by decide+kernel) (by decide+kernel) (by decide+kernel)) (by decide) (by decide+kernel) ?_ ?_
 ·have hn:zaL [104,49] o9=([[104,49],[111]],0):=by decide+kernel
  show AddR {(⟨[97],5,o9,some o9,some 60,some 60,[rc1,rc2,rc3],[[97]],1⟩:LdS) with owner:=some (zaL [104,49] o9).1} _ _ _ _
  rw[hn]
  exact zc5 (d:=⟨1,[],[],[],[10,0,0,1]⟩) (n:=[[104,49],[111]]) (τ:=60) (by decide) (by rw[pT1]) (by rw[pT1];exact pA3 _) (by decide) rfl rfl
 refine GenRun.more _ _ _ [104,50] false [([65],false),([49,48,46,48,46,48,46,50],false)] _ _ (ps9 (by decide) (by decide) it2 (by decide+kernel) (by decide+kernel) (by decide+kernel)) (by decide) (by decide+kernel) ?_ (.done _)
 have hn:zaL [104,50] o9=([[104,50],[111]],0):=by decide+kernel
 show AddR {(⟨[97],5,o9,some [[104,49],[111]],some 60,some 60,[rc1,rc2,rc3,rc4],[[97]],1⟩:LdS) with owner:=some (zaL [104,50] o9).1} _ _ _ _
 rw[hn]
 exact zc5 (d:=⟨1,[],[],[],[10,0,0,2]⟩) (n:=[[104,50],[111]]) (τ:=60) (by decide) (by rw[pT1]) (by rw[pT1];exact pA4 _) (by decide) rfl rfl
theorem fc9:zge fl9 [99] [] (some ⟨[99],0,4⟩) (ld0 []):= .inr ⟨by decide+kernel,rfl,rfl⟩
abbrev fl9c:List (Lab×Lab):=[([97],tx9c)]
theorem fd9:zge fl9c [97] [] (some ⟨[97],2,2⟩) ⟨[97],2,[],some [],Option.none,Option.none,[],[[97]],0⟩:=by
 refine .inl ⟨1,xs9c,⟨[97],2,[],some [],Option.none,Option.none,[],[[97]],0⟩,by decide+kernel,lnsB (by decide+kernel) (by decide),by decide,?_,(fun h=>by cases h),fun _=>rfl⟩
 refine EntsIs.flt _ ⟨2,false,[([64],false),([65],false),(tA3,false)]⟩ [] _ _ (by decide) ?_
 have:=zfe (fl:=fl9c) (inc:=zbX fl9c 0) (st:=⟨[97],0,[],Option.none,Option.none,Option.none,[],[[97]],0⟩) (t:=[64]) (ws:=[([65],false),(tA3,false)]) (st':=⟨[97],2,[],some [],Option.none,Option.none,[],[[97]],0⟩) (n:=[]) (hs:=[]) (e:=2) 2 (by decide) (by decide) (by decide+kernel) (by decide) (by decide+kernel) (by decide+kernel) (zgF (d:=⟨1,[],[],[],[]⟩) (by decide) (by rw[pT1]) (by rw[pT1];exact prs_A3 _ _) (by decide))
 exact this
set_option maxRecDepth 100000
theorem k9a:recT rc2=[120,46,115,117,98,46,111,46,32,53,32,73,78,32,78,83,32,121,46,115,117,98,46,111,46]:=by decide+kernel
theorem k9b:recT rc3=[111,46,32,54,48,32,73,78,32,65,32,49,46,50,46,51,46,53]:=by decide+kernel
theorem k9c:recT rc5=[104,50,46,111,46,32,54,48,32,73,78,32,65,32,49,48,46,48,46,48,46,50]:=by decide+kernel
theorem rc2_T:RecT rc2:=⟨by decide,by decide,by decide,⟨⟨by decide,by decide,by decide,by decide,by decide,by decide,by decide⟩,by decide⟩⟩
theorem rc3_T:RecT rc3:=⟨by decide,by decide,by decide,⟨⟨by decide,by decide,by decide,by decide,by decide,by decide,by decide⟩,by decide⟩⟩
theorem rc5_T:RecT rc5:=⟨by decide,by decide,by decide,⟨⟨by decide,by decide,by decide,by decide,by decide,by decide,by decide⟩,by decide⟩⟩
theorem zfX{w:World}{b:Nat}{a1 a2 b1 b2:Lab}{T:TypeId}{fr:Nat×Nat}(h:w.heap[b]? =some (.cells #[vs a1,vs a2,vs b1,vs b2] T fr)):Rows 2 zdl w (.slice (some ⟨b,0,Option.none⟩) [(a1,a2),(b1,b2)].length 2) [(a1,a2),(b1,b2)]:=by
 refine Rows.close (Nat.le_refl _) (fun i hi=>?_)
 have hi2:i=0∨i=1:=by
  have h2:i<2:=hi
  omega
 rcases hi2 with rfl|rfl
 ·exact⟨_,by rw[zaY];exact zas h (Nat.le_of_ble_eq_true rfl),rfl⟩
 ·exact⟨_,by rw[zaY];exact zas h (Nat.le_of_ble_eq_true rfl),rfl⟩
theorem zjd{w:World}{b:Nat}{a1 a2:Lab}{T:TypeId}{fr:Nat×Nat}(h:w.heap[b]? =some (.cells #[vs a1,vs a2] T fr)):Rows 2 zdl w (.slice (some ⟨b,0,Option.none⟩) [(a1,a2)].length 1) [(a1,a2)]:=by
 refine Rows.close (Nat.le_refl _) (fun i hi=>?_)
 have hi2:i=0:=by
  have h2:i<1:=hi
  omega
 subst hi2
 exact⟨_,by rw[zaY];exact zas h (Nat.le_of_ble_eq_true rfl),rfl⟩
theorem zjM{w0:World}(hX:WX w0)(hY:WY w0):Fn Tryz.prog 8 #[] w0 (fun v w'=>v= .bool true∧Ext w0 w'):=by
 refine enter Tryz.func8 Tryz.ntmps8 rfl rfl ?_
 refine go trivial ?_
 refine rq ?_;intro gd K hgd hK
 try simp only[go_sem]
 refine⟨by kernel_rfl,?_⟩
 refine zdU (v:= .agg #[vs [97],vs tx9a]) (by kernel_rfl) ?_
 try simp only[go_sem]
 refine⟨by kernel_rfl,?_⟩
 refine zdU (v:= .agg #[vs [98],vs tx9b]) (by kernel_rfl) ?_
 try simp only[go_sem]
 refine zjw (e:=48) (arr:=#[vs [97],vs tx9a,vs [98],vs tx9b]) (by kernel_rfl) ?_
 intro w1 e1 s1 b1
 try simp only[go_sem]
 refine hK _ _ ?_;clear hK hgd;clear K;try clear gd
 have hf1:=zfX b1
 obtain⟨c1,hc1⟩:∃c,w0.heap.size=c:=⟨_,rfl⟩
 rw[hc1]at hf1 ⊢
 refine go trivial ?_
 refine rq ?_;intro gd K hgd hK
 try simp only[go_sem]
 refine zdi (z:=vs []) (l:=[vs [111]]) rfl rfl rfl rfl rfl rfl (fun v hv=>by simp at hv;rcases hv with rfl;rfl) (by simp) ?_
 intro w2 e2 s2 o2
 have e02:=e1.trans e2
 try simp only[go_sem]
 refine Fn.mono (zfr (o:=o9) (hX.ext e02) (hf1.ext e2) (by decide) o2.row ⟨by decide,by decide⟩ fa9) ?_
 rintro _ w3 ⟨e3,rv,rfl,hR⟩
 try simp only[go_sem]
 refine hK _ _ ?_;clear hK hgd;clear K;try clear gd
 have e03:=e02.trans e3
 obtain⟨L,hR1,hR2,hR3⟩:=hR
 refine go trivial ?_
 refine rq ?_;intro gd K hgd hK
 try simp only[go_sem]
 refine Fn.mono (zfr (o:=[]) (hX.ext e03) (hf1.ext (e2.trans e3)) (by decide) (zgt _) ⟨by decide,by decide⟩ fc9) ?_
 rintro _ w4 ⟨e4,p4,rfl,hp4⟩
 try simp only[go_sem]
 refine hK _ _ ?_;clear hK hgd;clear K;try clear gd
 have e04:=e03.trans e4
 refine go trivial ?_
 refine rq ?_;intro gd K hgd hK
 try simp only[go_sem]
 refine⟨by kernel_rfl,?_⟩
 refine zdU (v:= .agg #[vs [97],vs tx9c]) (by kernel_rfl) ?_
 try simp only[go_sem]
 refine zjw (e:=48) (arr:=#[vs [97],vs tx9c]) (by kernel_rfl) ?_
 intro w5 e5 s5 b5
 have hf5:=zjd b5
 try simp only[go_sem]
 refine Fn.mono (zfr (o:=[]) (hX.ext (e04.trans e5)) hf5 (by decide) (zgt _) ⟨by decide,by decide⟩ fd9) ?_
 rintro _ w6 ⟨e6,p6,rfl,hp6⟩
 try simp only[go_sem]
 refine hK _ _ ?_;clear hK hgd;clear K;try clear gd
 have e06:=(e04.trans e5).trans e6
 obtain⟨ra,rcap,rfl,hrc⟩:∃ra rcap,rv= .slice ra 5 rcap∧True:=by
  obtain⟨a,c,h,_⟩:=hR1
  rw[hR2]at h
  exact⟨a,c,h,trivial⟩
 have e36:=(e4.trans e5).trans e6
 have hrows:Rows 7 (RecAt w6) w6 (.slice ra 5 rcap) [rc1,rc2,rc3,rc4,rc5]:=(Rows.ext ⟨L,hR1,hR2,hR3⟩ e36).to fun cs a h=>h.ext e36
 obtain⟨_,_,hg⟩:=zb9 hrows
 obtain⟨cs1,g1,r1⟩:=hg 1 (by decide)
 obtain⟨cs2,g2,r2⟩:=hg 2 (by decide)
 obtain⟨cs4,g4,r4⟩:=hg 4 (by decide)
 obtain⟨xa,rfl⟩:=Option.isSome_iff_exists.1 (zaR g1)
 refine go trivial ?_
 have d5:decide (((5:Nat):Int)=5)=true:=rfl
 refine rgg [(2,32),(7,37),(11,41)] (an2 d5 trivial) ?_
 refine go trivial ?_
 refine rc trivial (zfu (hf1.ext (e2.trans (e3.trans e36))) (by decide) [98]) ?_
 rintro _ w7 ⟨rfl,e7⟩
 rw[show zbF [98] fl9=(tx9b,true) from by decide+kernel]
 refine rgo trivial ?_
 have g1:=zaj e7 g1
 have g2:=zaj e7 g2
 have g4:=zaj e7 g4
 obtain⟨x1,hx1⟩:∃x,adr (some xa) (1*7)=some x:=⟨_,rfl⟩
 obtain⟨x2,hx2⟩:∃x,adr (some xa) (2*7)=some x:=⟨_,rfl⟩
 obtain⟨x4,hx4⟩:∃x,adr (some xa) (4*7)=some x:=⟨_,rfl⟩
 rw[hx1]at g1
 rw[hx2]at g2
 rw[hx4]at g4
 have z1:(0:Int)≤1:=by decide
 have z2:(0:Int)≤2:=by decide
 have z4:(0:Int)≤4:=by decide
 have l1:(1:Int)<5:=by decide
 have l2:(2:Int)<5:=by decide
 have l4:(4:Int)<5:=by decide
 have t1:(1:Int).toNat=1:=rfl
 have t2:(2:Int).toNat=2:=rfl
 have t4:(4:Int).toNat=4:=rfl
 have hY7:=hY.ext (e06.trans e7)
 refine rq ?_;intro gd K hgd hK
 have hg5:∀n σ b,zaO gd n σ (some (5,b))=zaw (ev n σ (.tmp 55)) b:=(fun n σ b=>by rw[zah,show gd 5=some 55 from(by rw[hgd];rfl)];rfl);have hg12:∀n σ b,zaO gd n σ (some (12,b))=zaw (ev n σ (.tmp 62)) b:=(fun n σ b=>by rw[zah,show gd 12=some 62 from(by rw[hgd];rfl)];rfl);have hg19:∀n σ b,zaO gd n σ (some (19,b))=zaw (ev n σ (.tmp 69)) b:=(fun n σ b=>by rw[zah,show gd 19=some 69 from(by rw[hgd];rfl)];rfl);have hg26:∀n σ b,zaO gd n σ (some (26,b))=zaw (ev n σ (.tmp 76)) b:=(fun n σ b=>by rw[zah,show gd 26=some 76 from(by rw[hgd];rfl)];rfl);have hg33:∀n σ b,zaO gd n σ (some (33,b))=zaw (ev n σ (.tmp 83)) b:=(fun n σ b=>by rw[zah,show gd 33=some 83 from(by rw[hgd];rfl)];rfl);have hg38:∀n σ b,zaO gd n σ (some (38,b))=zaw (ev n σ (.tmp 88)) b:=(fun n σ b=>by rw[zah,show gd 38=some 88 from(by rw[hgd];rfl)];rfl);have hg41:∀n σ b,zaO gd n σ (some (41,b))=zaw (ev n σ (.tmp 91)) b:=(fun n σ b=>by rw[zah,show gd 41=some 91 from(by rw[hgd];rfl)];rfl)
 try simp (disch:=first|omega|assumption|rfl) only[go_sem,z1,l1,t1,hx1,g1,↓hg5,↓hg12,↓hg19,↓hg26,↓hg33,↓hg38,↓hg41]
 refine Fn.mono (zc9 (r:=rc2) hY7 (r1.ext e7) rc2_T) ?_
 rintro _ w8 ⟨rfl,e8⟩
 rw[k9a]
 have d1:decide (([120,46,115,117,98,46,111,46,32,53,32,73,78,32,78,83,32,121,46,115,117,98,46,111,46]:Lab)=[120,46,115,117,98,46,111,46,32,53,32,73,78,32,78,83,32,121,46,115,117,98,46,111,46])=true:=decide_eq_true rfl
 have g2:=zaj e8 g2
 try simp (disch:=first|omega|assumption|rfl) only[go_sem,d1,z2,l2,t2,hx2,g2,↓hg5,↓hg12,↓hg19,↓hg26,↓hg33,↓hg38,↓hg41]
 refine Fn.mono (zc9 (r:=rc3) (hY7.ext e8) ((r2.ext e7).ext e8) rc3_T) ?_
 rintro _ w9 ⟨rfl,e9⟩
 rw[k9b]
 have d2:decide (([111,46,32,54,48,32,73,78,32,65,32,49,46,50,46,51,46,53]:Lab)=[111,46,32,54,48,32,73,78,32,65,32,49,46,50,46,51,46,53])=true:=decide_eq_true rfl
 have g4:=zaj (e8.trans e9) g4
 try simp (disch:=first|omega|assumption|rfl) only[go_sem,d2,z4,l4,t4,hx4,g4,↓hg5,↓hg12,↓hg19,↓hg26,↓hg33,↓hg38,↓hg41]
 refine Fn.mono (zc9 (r:=rc5) (hY7.ext (e8.trans e9)) ((r4.ext e7).ext (e8.trans e9)) rc5_T) ?_
 rintro _ y1 ⟨rfl,f1⟩
 rw[k9c]
 have d3:decide (([104,50,46,111,46,32,54,48,32,73,78,32,65,32,49,48,46,48,46,48,46,50]:Lab)=[104,50,46,111,46,32,54,48,32,73,78,32,65,32,49,48,46,48,46,48,46,50])=true:=decide_eq_true rfl
 have e71:=(e8.trans e9).trans f1
 have k1:zad y1 (some ⟨p4,1,Option.none⟩)=some (vi 0):=zaa (Ext.at (((e5.trans e6).trans e7).trans e71) hp4) rfl
 have k2:zad y1 (some ⟨p4,2,Option.none⟩)=some (vi 4):=zaa (Ext.at (((e5.trans e6).trans e7).trans e71) hp4) rfl
 try simp (disch:=first|omega|assumption|rfl) only[go_sem,d3,k1,k2,Nat.zero_add,↓hg5,↓hg12,↓hg19,↓hg26,↓hg33,↓hg38,↓hg41]
 refine Fn.mono (zfv ((hX.ext (e06.trans e7)).ext e71) (Ext.at (e7.trans e71) hp6) (by decide) (by decide) (by decide)) ?_
 rintro _ y2 ⟨rfl,f2⟩
 rw[show ([97]++ [58]++Lib.itoa 2++ [58,32]++ [102,111,114,109]:Lab)=[97,58,50,58,32,102,111,114,109] from by rw[it2];rfl]
 have d4:decide (([97,58,50,58,32,102,111,114,109]:Lab)=[97,58,50,58,32,102,111,114,109])=true:=decide_eq_true rfl
 try simp (disch:=first|omega|assumption|rfl) only[go_sem,d4,↓hg5,↓hg12,↓hg19,↓hg26,↓hg33,↓hg38,↓hg41]
 refine hK _ _ ?_;clear hK hgd;clear K;try clear gd
 refine go trivial ?_
 refine rt0 Tryz.ntmps8 ?_
 exact⟨rfl,(e06.trans e7).trans (e71.trans f2)⟩
set_option maxRecDepth 10000
theorem zet(a b:List Lab):zaF (a++b)=zaF a++zaF b:=by unfold zaF;rw[List.flatMap_append]
def badT:List (Lab×List (Lab×Bool)×Int):=[
 ([120,32,65,32,49,46,50,46,51],[([120],false),([65],false),([49,46,50,46,51],false)],2),
 ([120,32,53,32,54,32,65,32,49,46,50,46,51,46,52],[([120],false),([53],false),([54],false),([65],false),([49,46,50,46,51,46,52],false)],6),
 ([120,32,73,78],[([120],false),([73,78],false)],8),
 ([36,70,79,79],[([36,70,79,79],false)],4),
 ([36,84,84,76,32,120],[([36,84,84,76],false),([120],false)],2),
 ([120,46,46,121,32,65,32,49,46,50,46,51,46,52],[([120,46,46,121],false),([65],false),([49,46,50,46,51,46,52],false)],8),
 ([120,32,70,79,79,32,49],[([120],false),([70,79,79],false),([49],false)],6),
 ([120,32,65,32,34,49,46,50,46,51,46,52,34],[([120],false),([65],false),([49,46,50,46,51,46,52],true)],2)]
structure WBad(s:Lab)(ws:List (Lab×Bool))(e:Int):Prop where
 line:ziS (s,ws)=true
 some:ws≠ []
 open':zeG s=false
 ent:∀(fl:List (Lab×Lab)) (inc:LdS→Lab→Option FltL→LdS→Prop) (st:LdS) (ln:Int),st.origin=[]→∃st',EntIs fl inc {st with line:=ln} ⟨ln,false,ws⟩ (Option.some ⟨st.path,ln,e⟩) st'
theorem zjb{st:LdS}{e:Int}(h:¬e=0):fltE st e=Option.some ⟨st.path,st.line,e⟩:=if_neg h
theorem nmx{o:Nm}(h:o=[]):zaL [120] o=([[120]],0):=by subst h;decide+kernel
section
variable {fl : List (Lab × Lab)} {inc : LdS → Lab → Option FltL → LdS → Prop}
theorem zeh{ws:List (Lab×Bool)}{hs:List (Nat×Bool)}{e:Int}(st:LdS)(ln:Int)(ho:st.origin=[])(hf:fewW ws=true)(hh:zb1 0 false false ws=hs)(hg:hs.all (fun y=>!y.2||decide ((decP 2147483647 (wdAt ws y.1)).2=0))=true)(he:¬e=0)
  (ha:∀s:LdS,AddR s (tmH ws hs) (ws.drop hs.length) e s):∃st',EntIs fl inc {st with line:=ln} ⟨ln,false,([120],false)::ws⟩ (Option.some ⟨st.path,ln,e⟩) st':=by
 have:=zfe (fl:=fl) (inc:=inc) (st:=st) (t:=[120]) (n:=[[120]]) ln (by decide) (by decide) (nmx ho) hf hh hg (ha _)
 rw[zjb he]at this
 exact⟨_,this⟩
end
theorem pT6:(zbB [54]).2=6:=by decide+kernel
theorem pTF:(zbB [70,79,79]).2=6:=by decide+kernel
theorem badT_ok:∀x∈badT,WBad x.1 x.2.1 x.2.2:=fun x hx=>by
 simp only[badT,List.mem_cons,List.not_mem_nil,or_false]at hx
 rcases hx with rfl|rfl|rfl|rfl|rfl|rfl|rfl|rfl
 ·refine⟨by decide+kernel,by decide,by decide,fun fl inc st ln ho=>zeh (hs:=[]) st ln ho (by decide) (by decide+kernel) (by decide+kernel) (by decide) fun s=>?_⟩
  exact zgF (d:=⟨1,[],[],[],[]⟩) (by decide) (by rw[pT1]) (by rw[pT1];exact prs_A3 _ _) (by decide)
 ·refine⟨by decide+kernel,by decide,by decide,fun fl inc st ln ho=>zeh (hs:=[(0,true)]) st ln ho (by decide) (by decide+kernel) (by decide+kernel) (by decide) fun s=>?_⟩
  have:=AddR.type (st:=s) (tm:=tmH [([53],false),([54],false),([65],false),(tA4,false)] [(0,true)]) [54] [([65],false),(tA4,false)] (by decide) (by rw[pT6];decide)
  rw[pT6]at this
  exact this
 ·refine⟨by decide+kernel,by decide,by decide,fun fl inc st ln ho=>zeh (hs:=[(0,false)]) st ln ho (by decide) (by decide+kernel) (by decide+kernel) (by decide) fun s=>?_⟩
  exact AddR.none
 ·refine⟨by decide+kernel,by decide,by decide,fun fl inc st ln ho=>⟨{st with line:=ln},EntIs.dir _ _ _ _ _ (by decide) ?_⟩⟩
  exact DirIs.other (st:={st with line:=ln}) [36,70,79,79] [] (by decide) (by decide) (by decide) (by decide) (by decide)
 ·refine⟨by decide+kernel,by decide,by decide,fun fl inc st ln ho=>⟨{st with line:=ln},EntIs.dir _ _ _ _ _ (by decide) ?_⟩⟩
  have hd:(decP 2147483647 [120]).2=2:=by decide+kernel
  have:=DirIs.ttl (fl:=fl) (inc:=inc) (st:={st with line:=ln}) [120] (by decide)
  rw[hd,if_neg (by decide)]at this
  exact this
 ·refine⟨by decide+kernel,by decide,by decide,fun fl inc st ln ho=>?_⟩
  have:=ent_own (fl:=fl) (inc:=inc) (st:=st) (t:=[120,46,46,121]) (ws:=[([65],false),(tA4,false)]) (e:=8) ln (by decide) (by decide) (by rw[ho];decide+kernel) (by decide) (by decide)
  exact⟨_,this⟩
 ·refine⟨by decide+kernel,by decide,by decide,fun fl inc st ln ho=>zeh (hs:=[]) st ln ho (by decide) (by decide+kernel) (by decide+kernel) (by decide) fun s=>?_⟩
  have:=AddR.type (st:=s) (tm:=tmH [([70,79,79],false),([49],false)] []) [70,79,79] [([49],false)] (by decide) (by rw[pTF];decide)
  rw[pTF]at this
  exact this
 ·refine⟨by decide+kernel,by decide,by decide,fun fl inc st ln ho=>zeh (hs:=[]) st ln ho (by decide) (by decide+kernel) (by decide+kernel) (by decide) fun s=>?_⟩
  exact zgF (d:=⟨1,[],[],[],[]⟩) (by decide) (by rw[pT1]) (by rw[pT1];exact prs_Q4 _ _) (by decide)
abbrev lnT:Lab:=[36,84,84,76,32,53]
abbrev lnC:Lab:=[59,32,120]
abbrev lnZ:Lab:=[36,73,78,67,76,85,68,69,32,122]
def txW(n:Nat)(s:Lab):Lab:=zaF (lnT::List.replicate n lnC)++s++ [10]
theorem zhe:∀n k:Nat,entF k (List.replicate n (lnC,([]:List (Lab×Bool))))=[]
 |0,_=>rfl
 |n+1,k=>by rw[List.replicate_succ,entF,zhe n (k+1)];rfl
theorem zeB{n:Nat}{s:Lab}{ws:List (Lab×Bool)}{e:Int}(hB:WBad s ws e)(hn:n≤255){fl:List (Lab×Lab)}(hf:zbF [122] fl=(txW n s,true))(st:LdS)(ho:st.origin=[])(hr:st.reads.length≤900):∃st',zbX fl 1 st [122] (Option.some ⟨[122],((n+2:Nat):Int),e⟩) st':=by
 have hd:decP 2147483647 [53]=(5,0):=by decide+kernel
 obtain⟨st',hE⟩:=hB.ent fl (zbX fl 0) {st with path:=[122],reads:=st.reads++ [[122]],line:=1,ttl:=Option.some 5} ((n+2:Nat):Int) ho
 refine⟨st',(lnT,[(wTtl,false),([53],false)])::(List.replicate n (lnC,[])++ [(s,ws)]),st',?_,?_,by omega,?_,(fun h=>by cases h),fun _=>rfl⟩
 ·rw[hf]
  unfold txW
  rw[List.map_cons,List.map_append,List.map_replicate,List.map_cons,List.map_nil,show lnT::(List.replicate n lnC++ [s])=(lnT::List.replicate n lnC)++ [s] from rfl,zet]
  simp[zaF]
 ·refine lnsOk (fun x hx=>?_) (by simp;omega)
  have hx2:ziS x=true:=by
   rcases List.mem_cons.1 hx with rfl|hx
   ·decide+kernel
   rcases List.mem_append.1 hx with hx|hx
   ·rw[List.eq_of_mem_replicate hx];decide+kernel
   ·rw[List.mem_singleton.1 hx];exact hB.line
  have:=ze5 hx2
  exact⟨this.1,this.2.1,by have:=this.2.2;omega⟩
 ·have e1:entF 1 ((lnT,[(wTtl,false),([53],false)])::(List.replicate n (lnC,[])++ [(s,ws)]))=[⟨1,false,[(wTtl,false),([53],false)]⟩,⟨((n+2:Nat):Int),false,ws⟩]:=by
   rw[entF,zfg,zhe,List.length_replicate]
   have:entF (1+1+n) [(s,ws)]=[⟨((n+2:Nat):Int),false,ws⟩]:=by
    rw[entF,entF]
    unfold zjj
    rw[if_neg hB.some,hB.open',show 1+1+n=n+2 by omega]
    rfl
   rw[this]
   rfl
  rw[e1]
  refine EntsIs.more _ _ _ {st with path:=[122],reads:=st.reads++ [[122]],line:=1,ttl:=Option.some 5} _ _ (by simp;omega) ?_ (EntsIs.flt _ _ [] _ _ (by simp;omega) hE)
  have:=DirIs.ttl (fl:=fl) (inc:=zbX fl 0) (st:={st with path:=[122],reads:=st.reads++ [[122]],line:=1}) [53] (by decide)
  rw[hd,if_pos rfl]at this
  exact EntIs.dir _ _ _ _ _ (by decide) this
theorem zhC{n:Nat}{s:Lab}{ws:List (Lab×Bool)}{e:Int}(hB:WBad s ws e)(hn:n≤255)(deep:Bool):∃st',zge [([122],txW n s),([97],lnZ++ [10])] (if deep=true then [97] else [122]) [] (Option.some ⟨[122],((n+2:Nat):Int),e⟩) st':=by
 obtain⟨fl,hfl⟩:∃fl:List (Lab×Lab),fl=[([122],txW n s),([97],lnZ++ [10])]:=⟨_,rfl⟩
 have h1:zbF [122] fl=(txW n s,true):=by rw[hfl];simp[zbF]
 have h2:zbF [97] fl=(lnZ++ [10],true):=by rw[hfl];simp[zbF]
 rw[←hfl]
 cases deep with
 |false=>
  obtain⟨st',h⟩:=zeB hB hn h1 (ld0 []) rfl (by decide)
  exact⟨st',.inl ⟨1,h⟩⟩
 |true=>
  obtain⟨st',h⟩:=zeB hB hn h1 ⟨[97],1,[],Option.none,Option.none,Option.none,[],[[97]],1⟩ rfl (by decide)
  refine⟨{(⟨[97],1,[],Option.none,Option.none,Option.none,[],[[97]],0⟩:LdS) with out:=st'.out,reads:=st'.reads,many:=st'.many},.inl ⟨2,[(lnZ,[(wInc,false),([122],false)])],_,h2,lnsB (by decide+kernel) (by decide),by decide,?_,(fun h=>by cases h),fun _=>rfl⟩⟩
  refine EntsIs.flt _ ⟨1,false,[(wInc,false),([122],false)]⟩ [] _ _ (by decide) (EntIs.dir _ _ _ _ _ (by decide) (.incl _ _ _ (AskIs.one [122] false _ _ ?_)))
  exact IncIs.read (st:=⟨[97],1,[],Option.none,Option.none,Option.none,[],[[97]],0⟩) _ st' (by rw[h1]) (by decide) (by decide) (by decide) (by decide) h
theorem zgd{W:World}(hX:WX W)(hY:WY W)(n:Nat)(deep:Bool)(t:Nat)(hn:n≤255)(ht:t≤255):
  Fn Tryz.prog 5 #[.int .u8 n,.bool deep,.int .u8 t] W (fun v w'=>v= .bool true∧Ext W w'):=by
 obtain⟨j,hj⟩:∃j,t % 8=j:=⟨_,rfl⟩
 have hj8:j<8:=by omega
 have ej:((t:Nat):Int).tmod 8=(j:Int):=by rw[Int.tmod_eq_emod_of_nonneg (by omega)];omega
 have hjl:j<badT.length:=hj8
 obtain⟨x,hx⟩:∃x,badT[j]=x:=⟨_,rfl⟩
 have hB:=badT_ok x (hx▸List.getElem_mem hjl)
 obtain⟨s,ws,e⟩:=x
 have j0:(0:Int)≤(j:Int):=by omega
 have j1:(j:Int)<8:=by omega
 refine enter Tryz.func5 Tryz.ntmps5 rfl rfl ?_
 refine go trivial ?_
 refine rc trivial (zjM hX hY) ?_
 rintro _ w1 ⟨rfl,hE1⟩
 refine rgo trivial ?_
 refine rq ?_;intro gd K hgd hK
 try simp only[go_sem]
 refine zdi (z:=vs []) (l:=[vs [120,32,65,32,49,46,50,46,51],vs [120,32,53,32,54,32,65,32,49,46,50,46,51,46,52],vs [120,32,73,78],vs [36,70,79,79],vs [36,84,84,76,32,120],vs [120,46,46,121,32,65,32,49,46,50,46,51,46,52],vs [120,32,70,79,79,32,49],vs [120,32,65,32,34,49,46,50,46,51,46,52,34]]) rfl rfl rfl rfl rfl rfl (fun v hv=>by simp at hv;rcases hv with rfl|rfl|rfl|rfl|rfl|rfl|rfl|rfl<;>rfl) (by simp) ?_
 intro w2 e2 n2 o2
 obtain⟨xi,hxi⟩:∃xi,adr (some ⟨w1.heap.size,0,Option.none⟩) j=some xi:=⟨_,rfl⟩
 have g2:zad w2 (some xi)=some (vs s):=by
  obtain⟨a,c,h1,_,h3⟩:=o2.row
  injection h1 with h1 _ _
  have:=h3 j (by simpa using hj8)
  rw[←h1,hxi]at this
  rw[this]
  have h4:([vs [120,32,65,32,49,46,50,46,51],vs [120,32,53,32,54,32,65,32,49,46,50,46,51,46,52],vs [120,32,73,78],vs [36,70,79,79],vs [36,84,84,76,32,120],vs [120,46,46,121,32,65,32,49,46,50,46,51,46,52],vs [120,32,70,79,79,32,49],vs [120,32,65,32,34,49,46,50,46,51,46,52,34]]:List Value)=badT.map fun x=>vs x.1:=rfl
  congr 1
  have h5:∀(l:List Value) (h:j<l.length) (e:l=badT.map fun x=>vs x.1),l[j]=vs s:=fun l h e=>by
   subst e
   rw[List.getElem_map,hx]
  exact h5 _ _ h4
 try simp (disch:=first|omega|assumption|rfl) only[go_sem,ej,j0,j1,Int.toNat_natCast,hxi,g2]
 refine hK _ _ ?_;clear hK hgd;clear K;try clear gd
 refine go trivial ?_
 refine rq ?_;intro gd K hgd hK
 try simp only[go_sem]
 refine zdi (z:=vi 0) (l:=[vi 2,vi 6,vi 8,vi 4,vi 2,vi 8,vi 6,vi 2]) rfl rfl rfl rfl rfl rfl (fun v hv=>by simp at hv;rcases hv with rfl|rfl|rfl|rfl|rfl|rfl|rfl|rfl<;>rfl) (by simp) ?_
 intro w3 e3 n3 o3
 obtain⟨yi,hyi⟩:∃yi,adr (some ⟨w2.heap.size,0,Option.none⟩) j=some yi:=⟨_,rfl⟩
 have g3:zad w3 (some yi)=some (vi e):=by
  obtain⟨a,c,h1,_,h3⟩:=o3.row
  injection h1 with h1 _ _
  have:=h3 j (by simpa using hj8)
  rw[←h1,hyi]at this
  rw[this]
  have h4:([vi 2,vi 6,vi 8,vi 4,vi 2,vi 8,vi 6,vi 2]:List Value)=badT.map fun x=>vi x.2.2:=rfl
  congr 1
  have h5:∀(l:List Value) (h:j<l.length) (e':l=badT.map fun x=>vi x.2.2),l[j]=vi e:=fun l h e'=>by
   subst e'
   rw[List.getElem_map,hx]
  exact h5 _ _ h4
 try simp (disch:=first|omega|assumption|rfl) only[go_sem,ej,j0,j1,Int.toNat_natCast,hyi,g3]
 refine hK _ _ ?_;clear hK hgd;clear K;try clear gd
 have hE3:=(hE1.trans e2).trans e3
 refine go trivial ?_
 have tl:∀i,i≤255→(zaF (lnT::List.replicate i lnC)).length≤10000:=fun i hi=>by
  have:=zdO (lnT::List.replicate i lnC) 10 fun l hl=>by
   rcases List.mem_cons.1 hl with rfl|hl
   ·decide
   ·rw[List.eq_of_mem_replicate hl];decide
  rw[List.length_cons,List.length_replicate]at this
  omega
 refine zbm n (fun i σ A=>(σ 0= .int .u8 n∧σ 1= .bool deep∧σ 7=vs s∧σ 8=vi e∧σ 9=vs (zaF (lnT::List.replicate i lnC))∧σ 10=vi i)∧Ext W A) ?_ ?_ ?_
 ·exact⟨⟨vr0,vr0,vr0,vr0,vr0,vr0⟩,hE3⟩
 ·rintro i σ A hi rr ⟨⟨s0,s1,s7,s8,s9,s10⟩,hEA⟩
  have tl1:=tl i (by omega)
  have l1:(zaF (lnT::List.replicate i lnC)).length+([59,32,120,10]:Lab).length≤9223372036854775807:=by simp;omega
  have hi1:(i:Int)<(n:Int):=by omega
  refine go (an6 s0 s10 s9 l1 rr hi1) ?_
  refine⟨rfl,⟨(vq1 s0),(vq1 s1),(vq1 s7),(vq1 s8),?_,(vq1 rr)⟩,hEA⟩
  rw[show zaF (lnT::List.replicate (i+1) lnC)=zaF (lnT::List.replicate i lnC)++ [59,32,120,10] from by rw[List.replicate_succ',show lnT::(List.replicate i lnC++ [lnC])=(lnT::List.replicate i lnC)++ [lnC] from rfl,zet];rfl]
  simp only[go_sem,s9]
 ·rintro σ A rr ⟨⟨s0,s1,s7,s8,s9,s10⟩,hEA⟩
  have tl1:=tl n hn
  have hsl:s.length≤10000:=(ze5 hB.line).2.2
  obtain⟨z,hz⟩:∃z,zaF (lnT::List.replicate n lnC)=z:=⟨_,rfl⟩
  obtain⟨st',hL⟩:=zhC hB hn deep
  have hzt:txW n s=z++s++ [10]:=by unfold txW;rw[hz]
  rw[hzt]at hL
  rw[hz]at s9 tl1
  have l1:z.length+s.length≤9223372036854775807:=by omega
  have l2:(z++s).length+([10]:Lab).length≤9223372036854775807:=by simp;omega
  refine go (an7 s0 s10 s9 s7 l1 l2 rr) ?_
  refine rq ?_;intro gd K hgd hK
  try simp only[go_sem]
  refine⟨by kernel_rfl,?_⟩
  refine zdU (v:= .agg #[vs [122],vs (z++s++ [10])]) (by kernel_rfl) ?_
  try simp only[go_sem]
  refine⟨by kernel_rfl,?_⟩
  refine zdU (v:= .agg #[vs [97],vs (lnZ++ [10])]) (by kernel_rfl) ?_
  try simp only[go_sem]
  refine zjw (e:=48) (arr:=#[vs [122],vs (z++s++ [10]),vs [97],vs (lnZ++ [10])]) (by kernel_rfl) ?_
  intro A1 f1 m1 b1
  have hf:=zfX b1
  try simp only[go_sem]
  refine hK _ _ ?_;clear hK hgd;clear K;try clear gd
  have en:(n:Int)+2=((n+2:Nat):Int):=by push_cast;rfl
  have d0:decide ((((n+2:Nat)):Int)=((n+2:Nat):Int))=true:=decide_eq_true rfl
  have d1:decide (e=e)=true:=decide_eq_true rfl
  have d2:decide (([122]:Lab)=[122])=true:=rfl
  have d3:decide (((0:Nat):Int)=0)=true:=rfl
  cases deep
  all_goals
   refine go s1 ?_
   refine rq ?_;intro gd K hgd hK
   try simp only[go_sem]
   refine Fn.mono (zfr (o:=[]) (hX.ext (hEA.trans f1)) hf (Nat.le_of_ble_eq_true rfl) (zgt _) ⟨by decide,by decide⟩ hL) ?_
   rintro _ A2 ⟨f2,p2,rfl,hp2⟩
   try simp only[go_sem]
   refine hK _ _ ?_;clear hK hgd;clear K;try clear gd
   have k0:zad A2 (some ⟨p2,0,Option.none⟩)=some (vs [122]):=zaa hp2 rfl
   have k1:zad A2 (some ⟨p2,1,Option.none⟩)=some (vi ((n+2:Nat):Int)):=zaa hp2 rfl
   have k2:zad A2 (some ⟨p2,2,Option.none⟩)=some (vi e):=zaa hp2 rfl
   refine go trivial ?_
   refine rgg [(3,53),(7,57),(14,64),(24,74)] (an9 s0 s8 k0 k1 k2 en d0 d1 (an3 d2 d3 Nat.zero_add)) ?_
   refine go trivial ?_
   refine rt0 Tryz.ntmps5 ?_
   exact⟨rfl,(hEA.trans f1).trans f2⟩
end Go.Proofs.YtihbdhjibplldaaGreatDoor
namespace Go.Proofs.YtihbdhjibplldaaGreatDoor.loadWhere
open Go Go.Proofs.YtihbdhjibplldaaGreatDoor
theorem j1:(Rows.loadWhereRow.inPlace==Tryz.pinned.checked.prog.inPlace 5)=true:=by kernel_rfl
theorem j2:(Rows.loadWhereRow.unfollowed==Tryz.pinned.checked.prog.unfollowed 5)=true:=by kernel_rfl
theorem j3:(Rows.loadWhereRow.recurses==Tryz.pinned.checked.prog.recurses 5)=true:=by kernel_rfl
theorem j4:(Rows.loadWhereRow.named==Tryz.pinned.checked.prog.varsNamed 5)=true:=by kernel_rfl
theorem j5:(Tryz.pinned.checked.prog.mayEnter)=true:=by kernel_rfl
theorem j6:(Rows.loadWhereRow.lifted==Tryz.pinned.checked.prog.liftsFinal)=true:=by kernel_rfl
theorem joined:joinedFacts Tryz.pinned.checked.prog 5 Tryz.f5 Rows.loadWhereSpec Rows.loadWhereRow=true:=by
 unfold joinedFacts
 rw[j1,j2,j3,j4,j5,j6]
 kernel_rfl
end Go.Proofs.YtihbdhjibplldaaGreatDoor.loadWhere
namespace Go.Proofs.YtihbdhjibplldaaGreatDoor
open Go Go.ChangeShapes Go.WideShapes Go.ChangeAt Go.RowKit
theorem ziX{C:Checked}{os:Os}{f:FuncId}{fn:Func}{s:ChangeSpec}{conds:List PathCond}{apart fresh handsOn again:Bool}{H:Type}{enc:TypeId×Value→H}{X:World→Prop}
  (hX:∀(w w':World),w.heap=w'.heap→X w→X w')
  (own:ownKnob C.prog.godebug=none) (started:os.Started) (noInit:C.prog.inits.idxOf? f=none) (hfn:C.prog.funcs[f]? =some fn)
  (witness:∃(w:World) (tape:Tape) (i:Input),w.os=os∧(w.forCall tape i).Shaped C.prog∧i.vars=[]∧Input.okWide C.prog (w.forCall tape i) .any w.heap.size f i∧
   ((s.pre enc C.prog fn conds apart (w.forCall tape i).memory i.args∧X (w.forCall tape i).memory)∧sizedMet enc C.prog fn (OpenSpec.ofChange s) apart (w.forCall tape i).memory i.args)∧({}:Assume).holds C.prog (lone (Frame.enter C.prog f i.args .normal) [] (w.forCall tape i)))
  (hvn:s.vars=[]) (hspec:∀ds:List (DataW H),ds.length=fn.params.size→s.fn H ds={results:=[.lit (.bool true)],args:=ds}) {tb:TypeId} (hrt:fn.resultTypes=#[tb]) (htb:C.prog.underlying tb=some .bool)
  (hl:laidOutB C.prog=true) (hrd:fn.params.toList.all (fun t=>C.prog.readableRec t && decide (t<C.prog.types.size))=true)
  (walk:∀(W:World) (base:Nat) (args:List Value) (ds:List (DataW H)) (p:List MemPlace),X W→W.ShapedOpen C.prog→(∀(j:Nat) t v,fn.params[j]? =some t→args[j]? =some v→Value.okWide C.prog W .any base t v)→
   DataW.TrodAll enc C.prog W 0 (fun _=>true) true fn.params.toList args ds p→(∀x∈DataW.weightsEach C.prog fn.params.toList ds,x≤reachBytes)→Fn C.prog f args.toArray W (fun v W'=>v= .bool true∧Ext W W')):
  ReturnsInHanded {} C os f .any (fun w args=>(s.pre enc C.prog fn conds apart w args∧X w)∧sizedMet enc C.prog fn (OpenSpec.ofChange s) apart w args) (s.post enc C.prog fn apart fresh handsOn again):=by
 refine returnsInHanded_of_calls own started noInit witness ?_
 intro w tape i _ hsh _ hok hpre hholds
 obtain⟨_,_,_,fn',hfn',_,_,_,_,hval⟩:=hok
 have e:fn'=fn:=Option.some.inj (hfn'.symm.trans hfn)
 subst e
 obtain⟨⟨⟨ds,gs,before,hw,hc⟩,hx⟩,hz⟩:=hpre
 have hW:=DataW.Whole.of_heap (w':=w.forCall tape i) (by rfl) hw
 have hwt:(DataW.weightsEach C.prog (fn'.params.toList++s.plain.varTypes C.prog) (ds++gs)).all (·≤reachBytes)=true:=hz.weights hw
 have hXW:=hX _ (w.forCall tape i) (by rfl) hx
 obtain⟨W,hWe⟩:∃W,w.forCall tape i=W:=⟨_,rfl⟩
 rw[hWe]at hW hXW hsh hval ⊢
 refine Calls.mono (R:=fun e W'=>∃v,e= .returned v∧s.post enc C.prog fn' apart fresh handsOn again W i.args v W') ?_ (fun e W' ⟨v,he,hp⟩=>?_)
 rotate_left
 ·subst he
  exact ChangeSpec.post_blind hp
 obtain⟨args,hargs⟩:∃a,i.args=a:=⟨_,rfl⟩
 rw[hargs]at hval hW ⊢
 have hW0:=hW
 obtain⟨p,q,hA,hV,_⟩:=hW
 have hgs:gs=[]:=by
  rw[hvn]at hV
  cases gs with
  |nil=>rfl
  |cons _ _=>exact hV.elim
 subst hgs
 have hvt:s.plain.varTypes C.prog=[]:=by
  unfold DataSpec.varTypes
  rw[show s.plain.vars=[] from hvn];rfl
 rw[hvt,List.append_nil,List.append_nil]at hwt
 have hlen:∀{ts:List TypeId} {vs:List Value} {ds:List (DataW H)} {ps:List MemPlace},DataW.TrodAll enc C.prog W 0 (fun _=>true) true ts vs ds ps→ds.length=ts.length:=by
  intro ts
  induction ts with
  |nil=>intro vs ds ps h;obtain⟨rfl,rfl,rfl⟩:=trodAll_nil h;rfl
  |cons t ts ih=>
   intro vs ds ps h
   obtain⟨v,vs1,d,ds1,a,b,rfl,rfl,rfl,h1,h2⟩:=trodAll_cons h
   simp[ih h2]
 have hw:=walk W w.heap.size args.toList ds p hXW hsh (fun j t v h1 h2=>hval j t v h1 (by simpa using h2)) hA (fun x hx=>by simpa using (List.all_eq_true.1 hwt) x hx)
 rw[Array.toArray_toList]at hw
 refine Calls.mono (callsIn_wide.1 hw) ?_
 rintro e W' ⟨v,rfl,rfl,hE⟩
 refine⟨_,rfl,law_post hW0 hvn (hspec ds (by rw[hlen hA];simp)) hrt htb hl (fun t ht=>?_) hE⟩
 have:=(List.all_eq_true.1 hrd) t ht
 simpa using this
end Go.Proofs.YtihbdhjibplldaaGreatDoor
namespace Go.Proofs.YtihbdhjibplldaaGreatDoor
open Go
set_option maxRecDepth 100000
def bruijn64:List Int:=[0,1,56,2,57,49,28,3,61,58,42,50,38,29,17,4,62,47,59,36,45,43,51,22,53,39,33,30,24,18,12,5,63,55,48,27,60,41,37,16,46,35,44,21,52,32,23,11,54,26,40,15,34,20,31,10,25,14,19,9,13,8,7,6]
theorem ze9{H:Type}{enc:TypeId×Value→H}{P:Program}{w:World}{base:Nat}{sp:Nat→Bool}{held:Bool}{fuel:Nat}{t:TypeId}{cs:List Value}{nm:String}{d:DataW H}{p:List MemPlace}{ms:Array (String×TypeId)}
  (ht:P.underlying t=some (.interface ms)) (h:DataW.trod enc P w base sp held fuel t cs=some (.iface nm d,p)):∃u v,cs=[.iface u v]:=by
 cases fuel with
 |zero=>simp[DataW.trod]at h
 |succ fuel=>
  simp only[DataW.trod,ht]at h
  split at h<;>first| (rename_i heq _;cases heq;done)| (cases h;done)|exact⟨_,_,rfl⟩|simp_all
theorem WX_of{W:World}{rest:List (String×DataW Unit)}(hsh:W.ShapedOpen Tryz.prog)(h:laidMet Tryz.prog ((Rows.loadTextRow.laid.take 5)++rest) W):WX W:=by
 have h1:=laidMet.tail h
 have h2:=laidMet.tail h1
 have h4:=laidMet.tail (laidMet.tail h2)
 have tz:=Lib.tabIs_of_head (g:=3) (t:=205) (e:=5) (n:=64) (k:= .u8) (zs:=bruijn64) (by kernel_rfl) (by kernel_rfl) (by kernel_rfl) (by kernel_rfl) (by kernel_rfl) (by kernel_rfl) h1
 have tp:=Lib.tabIs_of_head (g:=0) (t:=157) (e:=71) (n:=20) (k:= .u64) (zs:=Lib.pow10Tab) (by kernel_rfl) (by kernel_rfl) (by kernel_rfl) (by kernel_rfl) (by kernel_rfl) (by kernel_rfl) h2
 obtain⟨u,v,hv⟩:∃u v,W.cell? ⟨7,0,Option.none⟩=some (.iface u v):=by
  obtain⟨_,⟨g0,t0,cs0,f0,p0,q0,hg0,ht0,hv0,hd0,_,_⟩,_,_⟩:=h4
  obtain rfl:=Option.some.inj ((show Tryz.prog.globalNamed _=some 7 by kernel_rfl).symm.trans hg0)
  obtain rfl:=Option.some.inj ((show(Tryz.prog.globals[7]?).map (·.type)=some 100 by kernel_rfl).symm.trans ht0)
  obtain⟨u,v,hcs⟩:=ze9 Tryz.underlying100 hd0
  have e0:cs0=#[.iface u v]:=Array.toList_inj.1 (by simpa using hcs)
  exact⟨u,v,by rw[World.var?_cell hg0 hv0 0,e0];rfl⟩
 refine⟨cell_of_shapedOpen_int (t:=3) (zero:=#[.int .i64 0]) hsh (by decide+kernel) (by kernel_rfl) rfl (by kernel_rfl) (by kernel_rfl) (by kernel_rfl),?_,⟨u,v,hv⟩,⟨4,World.var?_cell (by kernel_rfl) tz 15,by decide,by decide⟩⟩
 have h3:=tp
 unfold Lib.TabIs World.var? at h3
 rw[show Tryz.prog.globalNamed _=some 0 from by kernel_rfl,Option.bind_some]at h3
 split at h3
 ·rename_i cs t fr hh
  injection h3 with h3
  exact⟨t,fr,by rw[hh,h3]⟩
 ·cases h3
def bruijnT:List Int:=[0,1,56,2,57,49,28,3,61,58,42,50,38,29,17,4,62,47,59,36,45,43,51,22,53,39,33,30,24,18,12,5,63,55,48,27,60,41,37,16,46,35,44,21,52,32,23,11,54,26,40,15,34,20,31,10,25,14,19,9,13,8,7,6]
theorem WY_of{W:World}{rest:List (String×DataW Unit)}(h:laidMet Tryz.prog ((Rows.loadTextRow.laid.take 3)++rest) W):WY W:=by
 have h1:=laidMet.tail h
 have h2:=laidMet.tail h1
 have tz:=Lib.tabIs_of_head (g:=3) (t:=205) (e:=5) (n:=64) (k:= .u8) (zs:=bruijnT) (by kernel_rfl) (by kernel_rfl) (by kernel_rfl) (by kernel_rfl) (by kernel_rfl) (by kernel_rfl) h1
 have tp:=Lib.tabIs_of_head (g:=0) (t:=157) (e:=71) (n:=20) (k:= .u64) (zs:=Lib.pow10Tab) (by kernel_rfl) (by kernel_rfl) (by kernel_rfl) (by kernel_rfl) (by kernel_rfl) (by kernel_rfl) h2
 refine⟨?_,World.var?_cell (by kernel_rfl) tz 15⟩
 have h3:=tp
 unfold Lib.TabIs World.var? at h3
 rw[show Tryz.prog.globalNamed _=some 0 from by kernel_rfl,Option.bind_some]at h3
 split at h3
 ·rename_i cs t fr hh
  injection h3 with h3
  exact⟨t,fr,by rw[hh,h3]⟩
 ·cases h3
end Go.Proofs.YtihbdhjibplldaaGreatDoor
namespace Go.Proofs.YtihbdhjibplldaaGreatDoor.loadWhere
open Go Go.Proofs.YtihbdhjibplldaaGreatDoor Go.ChangeShapes Go.WideShapes Go.ChangeAt Go.RowKit
theorem own:ownKnob Tryz.prog.godebug=none:=by kernel_rfl
set_option maxRecDepth 100000 in
theorem lifted(os:Os)(started:os.Started)(H:Type)(enc:TypeId×Value→H):
  ReturnsInHanded {} Tryz.checked os 5 .any (fun w args=>(Rows.loadWhereSpec.pre enc Tryz.prog Tryz.f5 Rows.loadWhereRow.domain false w args∧laidMetH Tryz.prog Rows.loadWhereRow.laid w)∧sizedMet enc Tryz.prog Tryz.f5 (OpenSpec.ofChange Rows.loadWhereSpec) false w args)
   (Rows.loadWhereSpec.post enc Tryz.prog Tryz.f5 false true false false):=by
 refine ziX (C:=Tryz.checked) (X:=laidMetH Tryz.prog Rows.loadWhereRow.laid) (fun _ _ hh h=>h.of_heap hh) own started (by kernel_rfl) Tryz.func5
  (ChangeSpec.witness_shaped (enc:=enc) (C:=Tryz.checked) (os:=os) (X:=fun w _=>laidMetH Tryz.prog Rows.loadWhereRow.laid w) false (World.laidAll Tryz.prog os Rows.loadWhereRow.laid) #[.int .u8 0,.bool false,.int .u8 0] 8 (World.laidAll_os _ _ _)
   (World.shaped_of_ZipB (by kernel_rfl) (by kernel_rfl)) (by kernel_rfl) (by kernel_rfl) (by kernel_rfl)
   (by rw[MakeChecks.laidMetH_plain _ _ _ (by kernel_rfl)];exact laidMet_laidAll _ (by kernel_rfl) (by kernel_rfl))) rfl ?_ (tb:=4) rfl rfl (by kernel_rfl) (by kernel_rfl) ?_
 ·intro ds hds
  match ds,hds with
  | [d0,d1,d2],_=>rfl
 ·intro W base args ds p hXW hsh hval hA0 hw0
  rw[MakeChecks.laidMetH_plain _ _ _ (by kernel_rfl)]at hXW
  have hX:WX W:=WX_of (rest:=Rows.loadWhereRow.laid.drop 5) hsh hXW
  have hY:WY W:=WY_of (rest:=Rows.loadWhereRow.laid.drop 3) hXW
  have hA:DataW.TrodAll enc Tryz.prog W 0 (fun _=>true) true [5,4,5] args ds p:=hA0
  have hw:∀x∈DataW.weightsEach Tryz.prog [5,4,5] ds,x≤reachBytes:=hw0
  obtain⟨v0,vs0,d0,ds0,p0,q0,rfl,rfl,rfl,h0,r0⟩:=trodAll_cons hA
  obtain⟨v1,vs1,d1,ds1,p1,q1,rfl,rfl,rfl,h1,r1⟩:=trodAll_cons r0
  obtain⟨v2,vs2,d2,ds2,p2,q2,rfl,rfl,rfl,h2,r2⟩:=trodAll_cons r1
  obtain⟨rfl,rfl,rfl⟩:=trodAll_nil r2
  obtain⟨x0,rfl,_,_,f0⟩:=open_int (k:= .u8) rfl (hval 0 _ _ rfl rfl) h0
  obtain⟨b0,c0⟩:=bounds_u8 f0
  obtain⟨t0,rfl⟩:∃t:Nat,x0=(t:Int):=⟨x0.toNat,by omega⟩
  replace f0:t0≤255:=by omega
  obtain⟨b1,rfl,_,_⟩:=open_bool rfl (hval 1 _ _ rfl rfl) h1
  obtain⟨x2,rfl,_,_,f2⟩:=open_int (k:= .u8) rfl (hval 2 _ _ rfl rfl) h2
  obtain⟨b2,c2⟩:=bounds_u8 f2
  obtain⟨t2,rfl⟩:∃t:Nat,x2=(t:Int):=⟨x2.toNat,by omega⟩
  replace f2:t2≤255:=by omega
  exact zgd hX hY t0 b1 t2 f0 f2
theorem over:Rows.loadWhereRow.holds Tryz.pinned (OpenSpec.ofChange Rows.loadWhereSpec):=
 OpenClaim.holds_of_wide 5 Tryz.f5 rfl rfl rfl rfl rfl rfl rfl ⟨rfl,rfl,rfl,rfl,rfl⟩ rfl rfl rfl rfl rfl (by kernel_rfl) Tryz.func5 joined
  (of_decide_eq_true (by kernel_rfl)) (by unfold Func.isWrapper;first| (rw[if_pos (by decide+kernel)];kernel_rfl)| (rw[if_neg (by decide+kernel)];exact⟨rfl,rfl⟩))
  (fun os started H enc _=>lifted os started H enc)
theorem proved:Rows.LoadWhereCardSaid:=
 Claim7.holds_tied_plain_at .later [] [.data,.data,.data,.data,.sentinel,.sentinel,.pinned,.pinned] true Rows.loadWhereCard.stood.harness true over (fun _ h=>by cases h) (by kernel_rfl) (fun _ h=>by cases h) loadWhere_row_tie rfl ⟨rfl,rfl⟩ (by kernel_rfl) rfl
  (fun f fn hf hfn=>by
   obtain rfl:f=5:=Option.some.inj ((show Tryz.prog.funcNamed Rows.loadWhereRow.func=some 5 by kernel_rfl).symm.trans hf)|>.symm
   obtain rfl:fn=Tryz.f5:=(Option.some.inj (Tryz.func5.symm.trans hfn)).symm
   exact⟨by kernel_rfl,fun j t ht=>by
    have hm:t∈ [5,4,5]:=by simpa using Array.mem_of_getElem? (show(#[5,4,5]:Array TypeId)[j]? =some t from ht)
    have hall:([5,4,5].all fun u=>!Tryz.prog.wantsStandIn u)=true:=by kernel_rfl
    exact(show Tryz.prog.wantsStandIn t=false by simpa using List.all_eq_true.1 hall t hm)⟩)
  (by kernel_rfl)
end Go.Proofs.YtihbdhjibplldaaGreatDoor.loadWhere
