/-
  Texts of a proof, joined: QJ, QK, QM, QP, QS, QT, YT4, KC3, GW, HX0, ZT4.
  Conditions: none.
-/
import Derived.Test.YtihbdhjibplldaaGreatDoorQLD09
import Derived.Test.YtihbdhjibplldaaGreatDoorQLD07
import Derived.Test.YtihbdhjibplldaaGreatDoorRows
import Derived.JoinedOf
import Derived.Handed
import Derived.Test.YtihbdhjibplldaaGreatDoorQLD03
import Derived.Stop.LaidErr
import Derived.Shelf.Vars
import Derived.MakeChecks
import Derived.Test.YtihbdhjibplldaaGreatDoorQLD04
import Derived.Test.YtihbdhjibplldaaGreatDoorCards
import Derived.Test.YtihbdhjibplldaaGreatDoorTie
import Derived.Lay
import Derived.SevenTiedAt
import Derived.ChangeMaps5
set_option linter.unusedVariables false
set_option linter.unusedSimpArgs false
set_option linter.defProp false
set_option linter.unnecessarySimpa false
set_option maxHeartbeats 8000000
namespace Go.Proofs.YtihbdhjibplldaaGreatDoor
open Go
set_option maxRecDepth 10000
abbrev xs9a:List (Lab×List (Lab×Bool)):=[([36,84,84,76,32,54,48],[([36,84,84,76],false),([54,48],false)]),([64,32,73,78,32,65,32,49,46,50,46,51,46,52],[([64],false),([73,78],false),([65],false),([49,46,50,46,51,46,52],false)]),([36,73,78,67,76,85,68,69,32,98,32,115,117,98],[([36,73,78,67,76,85,68,69],false),([98],false),([115,117,98],false)]),([32,65,32,49,46,50,46,51,46,53],[([65],false),([49,46,50,46,51,46,53],false)]),([36,71,69,78,69,82,65,84,69,32,49,45,50,32,104,36,32,65,32,49,48,46,48,46,48,46,36],[([36,71,69,78,69,82,65,84,69],false),([49,45,50],false),([104,36],false),([65],false),([49,48,46,48,46,48,46,36],false)])]
abbrev xs9b:List (Lab×List (Lab×Bool)):=[([120,32,53,32,73,78,32,78,83,32,121],[([120],false),([53],false),([73,78],false),([78,83],false),([121],false)])]
abbrev xs9c:List (Lab×List (Lab×Bool)):=[([],[]),([64,32,65,32,49,46,50,46,51],[([64],false),([65],false),([49,46,50,46,51],false)])]
abbrev tx9a:Lab:=[36,84,84,76,32,54,48,10,64,32,73,78,32,65,32,49,46,50,46,51,46,52,10,36,73,78,67,76,85,68,69,32,98,32,115,117,98,10,32,65,32,49,46,50,46,51,46,53,10,36,71,69,78,69,82,65,84,69,32,49,45,50,32,104,36,32,65,32,49,48,46,48,46,48,46,36,10]
abbrev tx9b:Lab:=[120,32,53,32,73,78,32,78,83,32,121,10]
abbrev tx9c:Lab:=[10,64,32,65,32,49,46,50,46,51,10]
abbrev fl9:List (Lab×Lab):=[([97],tx9a),([98],tx9b)]
abbrev o9:Nm:=[[111]]
abbrev oS:Nm:=[[115,117,98],[111]]
def rc1:RecL:=⟨o9,60,⟨1,[],[],[],[1,2,3,4]⟩⟩
def rc2:RecL:=⟨[120]::oS,5,⟨2,[[121]::oS],[],[],[]⟩⟩
def rc3:RecL:=⟨o9,60,⟨1,[],[],[],[1,2,3,5]⟩⟩
def rc4:RecL:=⟨[[104,49],[111]],60,⟨1,[],[],[],[10,0,0,1]⟩⟩
def rc5:RecL:=⟨[[104,50],[111]],60,⟨1,[],[],[],[10,0,0,2]⟩⟩
theorem pA1(o:Nm):zdz 1 [(tA4,false)] o ⟨1,[],[],[],[1,2,3,4]⟩ 0:=prs_A (by decide+kernel) (by decide+kernel)
theorem pA2(o:Nm):zdz 1 [([49,46,50,46,51,46,53],false)] o ⟨1,[],[],[],[1,2,3,5]⟩ 0:=prs_A (by decide+kernel) (by decide+kernel)
theorem pA3(o:Nm):zdz 1 [([49,48,46,48,46,48,46,49],false)] o ⟨1,[],[],[],[10,0,0,1]⟩ 0:=prs_A (by decide+kernel) (by decide+kernel)
theorem pA4(o:Nm):zdz 1 [([49,48,46,48,46,48,46,50],false)] o ⟨1,[],[],[],[10,0,0,2]⟩ 0:=prs_A (by decide+kernel) (by decide+kernel)
theorem pT1:zbR [65]=(1,0):=by decide+kernel
theorem pT2:zbR [78,83]=(2,0):=by decide+kernel
theorem put9{s out nd:Lab}{n:Int}{f0:Nat}(hs:s.length≤10000)(hnd:nd.length≤100)(h0:0≤n)(h1:n≤1000000000)(hi:Lib.itoa n=nd)(hp:putN (fun _=>Option.none) nd f0 s=some (out,0)):zjF s n out:=fun w hW=>by
 refine Put_ok hW hs hnd (fun v hv=>?_) (fun i d e h=>(by cases h)) hp (.inl rfl)
 rw[←hi]
 exact zjL hv n (by omega) (by omega)
theorem puts3{a b c a2 b2 c2:Lab}{n:Int}(h1:zjF a n a2)(h2:zjF b n b2)(h3:zjF c n c2):zjE [(a,false),(b,false),(c,false)] n [(a2,false),(b2,false),(c2,false)]:=by
 refine⟨rfl,fun i h h'=>?_,fun i h h'=>?_⟩
 ·rcases i with _|_|_|i
  ·exact h1
  ·exact h2
  ·exact h3
  ·simp at h;omega
 ·rcases i with _|_|_|i
  ·rfl
  ·rfl
  ·rfl
  ·simp at h;omega
theorem it1:Lib.itoa 1=[49]:=itoa_1
theorem it2:Lib.itoa 2=[50]:=(zg4 (n:=2) (by decide)).trans rfl
theorem ps9{n:Int}{c:UInt8}(h0:0≤n)(h1:n≤1000000000)(hi:Lib.itoa n=[c])(a1:putN (fun _=>Option.none) [c] 100 [104,36]=some ([104,c],0))(a2:putN (fun _=>Option.none) [c] 100 [65]=some ([65],0))(a3:putN (fun _=>Option.none) [c] 100 [49,48,46,48,46,48,46,36]=some ([49,48,46,48,46,48,46,c],0)):
  zjE [([104,36],false),([65],false),([49,48,46,48,46,48,46,36],false)] n [([104,c],false),([65],false),([49,48,46,48,46,48,46,c],false)]:=puts3 (put9 (by decide) (Nat.le_of_ble_eq_true rfl) h0 h1 hi a1) (put9 (by decide) (Nat.le_of_ble_eq_true rfl) h0 h1 hi a2) (put9 (by decide) (Nat.le_of_ble_eq_true rfl) h0 h1 hi a3)
theorem fb9(st:LdS)(hr:st.reads.length≤900)(ho:st.origin=oS)(hx:st.out.length<4096):zbl fl9 1 st [98] Option.none {st with path:=[98],line:=1,owner:=some ([120]::oS),last:=some 5,out:=st.out++ [rc2]}:=by
 refine⟨xs9b,{st with path:=[98],line:=1,owner:=some ([120]::oS),last:=some 5,out:=st.out++ [rc2],reads:=st.reads++ [[98]]},by decide+kernel,lnsB (by decide+kernel) (by decide),by omega,?_,fun _=>⟨by simp,by simp;omega,by simp⟩,fun h=>absurd rfl h⟩
 refine EntsIs.more _ _ [] _ _ _ (by simp;omega) ?_ (.nil _)
 refine zff (n:=[120]::oS) (hs:=[(0,true),(1,false)]) (e:=0) 1 (by decide) (by decide) (by show zaK [120] st.origin=_;rw[ho];decide+kernel) (by decide) (by decide+kernel) (by decide+kernel) ?_
 refine zcE (d:=⟨2,[[121]::oS],[],[],[]⟩) (n:=[120]::oS) (τ:=5) (by decide) (by rw[pT2]) ?_ hx rfl rfl
 rw[pT2]
 exact prs_name (.inl rfl) (by show zaK [121] st.origin=_;rw[ho];decide+kernel) (by decide) (by decide)
theorem fa9:zgg fl9 [97] o9 Option.none ⟨[97],5,o9,some [[104,50],[111]],some 60,some 60,[rc1,rc2,rc3,rc4,rc5],[],1⟩:=by
 refine .inl ⟨2,xs9a,⟨[97],5,o9,some [[104,50],[111]],some 60,some 60,[rc1,rc2,rc3,rc4,rc5],[[97]],1⟩,by decide+kernel,lnsB (by decide+kernel) (by decide),by decide,?_,fun _=>⟨by decide,by decide,rfl⟩,fun h=>absurd rfl h⟩
 -- the time
 refine EntsIs.more _ ⟨1,false,[(wTtl,false),([54,48],false)]⟩ _ ⟨[97],1,o9,Option.none,some 60,Option.none,[],[[97]],0⟩ _ _ (by decide) ?_ ?_
 ·have hd:decP 2147483647 [54,48]=(60,0):=by decide+kernel
  have:=DirIs.ttl (fl:=fl9) (inc:=zbl fl9 1) (st:=⟨[97],1,o9,Option.none,Option.none,Option.none,[],[[97]],0⟩) [54,48] (by decide)
  rw[hd,if_pos rfl]at this
  exact EntIs.dir _ _ _ _ _ (by decide) this
 -- an address
 refine EntsIs.more _ ⟨2,false,[([64],false),([73,78],false),([65],false),(tA4,false)]⟩ _ ⟨[97],2,o9,some o9,some 60,some 60,[rc1],[[97]],0⟩ _ _ (by decide) ?_ ?_
 ·refine zff (st:=⟨[97],1,o9,Option.none,some 60,Option.none,[],[[97]],0⟩) (n:=o9) (hs:=[(0,false)]) (e:=0) 2 (by decide) (by decide) (by decide+kernel) (by decide) (by decide+kernel) (by decide+kernel) ?_
  exact zcE (d:=⟨1,[],[],[],[1,2,3,4]⟩) (n:=o9) (τ:=60) (by decide) (by rw[pT1]) (by rw[pT1];exact pA1 _) (by decide) rfl rfl
 -- another file
 refine EntsIs.more _ ⟨3,false,[(wInc,false),([98],false),([115,117,98],false)]⟩ _ ⟨[97],3,o9,some o9,some 60,some 60,[rc1,rc2],[[97]],1⟩ _ _ (by decide) ?_ ?_
 ·refine EntIs.dir _ _ _ _ _ (by decide) (.incl _ _ _ ?_)
  have hn:zaK [115,117,98] o9=(oS,0):=by decide+kernel
  refine AskIs.two _ _ _ _ _ (by decide) (by show(zaK [115,117,98] o9).2=0;rw[hn]) (by show NmT (zaK [115,117,98] o9).1;rw[hn];exact⟨by decide,by decide⟩) ?_
  show IncIs fl9 (zbl fl9 1) _ _ (zaK [115,117,98] o9).1 _ _
  rw[hn]
  exact IncIs.read (fl:=fl9) (st:=⟨[97],3,o9,some o9,some 60,some 60,[rc1],[[97]],0⟩) (p:=[98]) _ _ (by decide+kernel) (by decide) (by decide) (by decide) (by decide) (fb9 ⟨[97],3,oS,some o9,some 60,some 60,[rc1],[[97]],1⟩ (by decide) rfl (by decide))
 -- an address of the same owner
 refine EntsIs.more _ ⟨4,true,[([65],false),([49,46,50,46,51,46,53],false)]⟩ _ ⟨[97],4,o9,some o9,some 60,some 60,[rc1,rc2,rc3],[[97]],1⟩ _ _ (by decide) ?_ ?_
 ·refine zjh (st:=⟨[97],3,o9,some o9,some 60,some 60,[rc1,rc2],[[97]],1⟩) (n:=o9) (hs:=[]) (e:=0) 4 rfl (by decide) (by decide+kernel) (by decide+kernel) ?_
  exact zcE (d:=⟨1,[],[],[],[1,2,3,5]⟩) (n:=o9) (τ:=60) (by decide) (by rw[pT1]) (by rw[pT1];exact pA2 _) (by decide) rfl rfl
 -- a range
 refine EntsIs.more _ ⟨5,false,[(wGen,false),([49,45,50],false),([104,36],false),([65],false),([49,48,46,48,46,48,46,36],false)]⟩ _ _ _ _ (by decide) ?_ (.nil _)
 refine EntIs.dir _ _ _ _ _ (by decide) (.gen _ _ 1 2 1 [1,2] _ (by decide+kernel) (by decide+kernel) ?_ (by decide) (by decide) (by decide) (by decide) (by decide))
 refine GenRun.more _ _ _ [104,49] false [([65],false),([49,48,46,48,46,48,46,49],false)] ⟨[97],5,o9,some [[104,49],[111]],some 60,some 60,[rc1,rc2,rc3,rc4],[[97]],1⟩ _ (ps9 (by decide) (by decide) it1 (by decide+kernel) (by decide+kernel) (by decide+kernel)) (by decide) (by decide+kernel) ?_ ?_
 ·have hn:zaK [104,49] o9=([[104,49],[111]],0):=by decide+kernel
  show AddR {(⟨[97],5,o9,some o9,some 60,some 60,[rc1,rc2,rc3],[[97]],1⟩:LdS) with owner:=some (zaK [104,49] o9).1} _ _ _ _
  rw[hn]
  exact zcE (d:=⟨1,[],[],[],[10,0,0,1]⟩) (n:=[[104,49],[111]]) (τ:=60) (by decide) (by rw[pT1]) (by rw[pT1];exact pA3 _) (by decide) rfl rfl
 refine GenRun.more _ _ _ [104,50] false [([65],false),([49,48,46,48,46,48,46,50],false)] _ _ (ps9 (by decide) (by decide) it2 (by decide+kernel) (by decide+kernel) (by decide+kernel)) (by decide) (by decide+kernel) ?_ (.done _)
 have hn:zaK [104,50] o9=([[104,50],[111]],0):=by decide+kernel
 show AddR {(⟨[97],5,o9,some [[104,49],[111]],some 60,some 60,[rc1,rc2,rc3,rc4],[[97]],1⟩:LdS) with owner:=some (zaK [104,50] o9).1} _ _ _ _
 rw[hn]
 exact zcE (d:=⟨1,[],[],[],[10,0,0,2]⟩) (n:=[[104,50],[111]]) (τ:=60) (by decide) (by rw[pT1]) (by rw[pT1];exact pA4 _) (by decide) rfl rfl
theorem fc9:zgg fl9 [99] [] (some ⟨[99],0,4⟩) (ld0 []):= .inr ⟨by decide+kernel,rfl,rfl⟩
abbrev fl9c:List (Lab×Lab):=[([97],tx9c)]
theorem fd9:zgg fl9c [97] [] (some ⟨[97],2,2⟩) ⟨[97],2,[],some [],Option.none,Option.none,[],[[97]],0⟩:=by
 refine .inl ⟨1,xs9c,⟨[97],2,[],some [],Option.none,Option.none,[],[[97]],0⟩,by decide+kernel,lnsB (by decide+kernel) (by decide),by decide,?_,(fun h=>by cases h),fun _=>rfl⟩
 refine EntsIs.flt _ ⟨2,false,[([64],false),([65],false),(tA3,false)]⟩ [] _ _ (by decide) ?_
 have:=zff (fl:=fl9c) (inc:=zbl fl9c 0) (st:=⟨[97],0,[],Option.none,Option.none,Option.none,[],[[97]],0⟩) (t:=[64]) (ws:=[([65],false),(tA3,false)]) (st':=⟨[97],2,[],some [],Option.none,Option.none,[],[[97]],0⟩) (n:=[]) (hs:=[]) (e:=2) 2 (by decide) (by decide) (by decide+kernel) (by decide) (by decide+kernel) (by decide+kernel) (add_bad (d:=⟨1,[],[],[],[]⟩) (by decide) (by rw[pT1]) (by rw[pT1];exact prs_A3 _ _) (by decide))
 exact this
set_option maxRecDepth 100000
theorem k9a:recT rc2=[120,46,115,117,98,46,111,46,32,53,32,73,78,32,78,83,32,121,46,115,117,98,46,111,46]:=by decide+kernel
theorem k9b:recT rc3=[111,46,32,54,48,32,73,78,32,65,32,49,46,50,46,51,46,53]:=by decide+kernel
theorem k9c:recT rc5=[104,50,46,111,46,32,54,48,32,73,78,32,65,32,49,48,46,48,46,48,46,50]:=by decide+kernel
theorem rc2_T:RecT rc2:=⟨by decide,by decide,by decide,⟨⟨by decide,by decide,by decide,by decide,by decide,by decide,by decide⟩,by decide⟩⟩
theorem rc3_T:RecT rc3:=⟨by decide,by decide,by decide,⟨⟨by decide,by decide,by decide,by decide,by decide,by decide,by decide⟩,by decide⟩⟩
theorem rc5_T:RecT rc5:=⟨by decide,by decide,by decide,⟨⟨by decide,by decide,by decide,by decide,by decide,by decide,by decide⟩,by decide⟩⟩
theorem zjb{w:World}{b:Nat}{a1 a2 b1 b2:Lab}{T:TypeId}{fr:Nat×Nat}(h:w.heap[b]? =some (.cells #[vs a1,vs a2,vs b1,vs b2] T fr)):Rows 2 zb7 w (.slice (some ⟨b,0,Option.none⟩) [(a1,a2),(b1,b2)].length 2) [(a1,a2),(b1,b2)]:=by
 refine Rows.close (Nat.le_refl _) (fun i hi=>?_)
 have hi2:i=0∨i=1:=by
  have h2:i<2:=hi
  omega
 rcases hi2 with rfl|rfl
 ·exact⟨_,by rw[zaX];exact zas h (Nat.le_of_ble_eq_true rfl),rfl⟩
 ·exact⟨_,by rw[zaX];exact zas h (Nat.le_of_ble_eq_true rfl),rfl⟩
theorem zjc{w:World}{b:Nat}{a1 a2:Lab}{T:TypeId}{fr:Nat×Nat}(h:w.heap[b]? =some (.cells #[vs a1,vs a2] T fr)):Rows 2 zb7 w (.slice (some ⟨b,0,Option.none⟩) [(a1,a2)].length 1) [(a1,a2)]:=by
 refine Rows.close (Nat.le_refl _) (fun i hi=>?_)
 have hi2:i=0:=by
  have h2:i<1:=hi
  omega
 subst hi2
 exact⟨_,by rw[zaX];exact zas h (Nat.le_of_ble_eq_true rfl),rfl⟩
theorem zjK{w0:World}(hX:WX w0)(hY:WY w0):Fn Tryz.prog 8 #[] w0 (fun v w'=>v= .bool true∧Ext w0 w'):=by
 refine enter Tryz.func8 Tryz.ntmps8 rfl rfl ?_
 refine go trivial ?_
 refine rq ?_;intro gd K hgd hK
 try simp only[go_sem]
 refine⟨by kernel_rfl,?_⟩
 refine zdh (v:= .agg #[vs [97],vs tx9a]) (by kernel_rfl) ?_
 try simp only[go_sem]
 refine⟨by kernel_rfl,?_⟩
 refine zdh (v:= .agg #[vs [98],vs tx9b]) (by kernel_rfl) ?_
 try simp only[go_sem]
 refine bsL_at (e:=48) (arr:=#[vs [97],vs tx9a,vs [98],vs tx9b]) (by kernel_rfl) ?_
 intro w1 e1 s1 b1
 try simp only[go_sem]
 refine hK _ _ ?_;clear hK hgd;clear K;try clear gd
 have hf1:=zjb b1
 obtain⟨c1,hc1⟩:∃c,w0.heap.size=c:=⟨_,rfl⟩
 rw[hc1]at hf1 ⊢
 refine go trivial ?_
 refine rq ?_;intro gd K hgd hK
 try simp only[go_sem]
 refine zfl (z:=vs []) (l:=[vs [111]]) rfl rfl rfl rfl rfl rfl (fun v hv=>by simp at hv;rcases hv with rfl;rfl) (by simp) ?_
 intro w2 e2 s2 o2
 have e02:=e1.trans e2
 try simp only[go_sem]
 refine Fn.mono (zep (o:=o9) (hX.ext e02) (hf1.ext e2) (by decide) o2.row ⟨by decide,by decide⟩ fa9) ?_
 rintro _ w3 ⟨e3,rv,rfl,hR⟩
 try simp only[go_sem]
 refine hK _ _ ?_;clear hK hgd;clear K;try clear gd
 have e03:=e02.trans e3
 obtain⟨L,hR1,hR2,hR3⟩:=hR
 refine go trivial ?_
 refine rq ?_;intro gd K hgd hK
 try simp only[go_sem]
 refine Fn.mono (zep (o:=[]) (hX.ext e03) (hf1.ext (e2.trans e3)) (by decide) (ze2 _) ⟨by decide,by decide⟩ fc9) ?_
 rintro _ w4 ⟨e4,p4,rfl,hp4⟩
 try simp only[go_sem]
 refine hK _ _ ?_;clear hK hgd;clear K;try clear gd
 have e04:=e03.trans e4
 refine go trivial ?_
 refine rq ?_;intro gd K hgd hK
 try simp only[go_sem]
 refine⟨by kernel_rfl,?_⟩
 refine zdh (v:= .agg #[vs [97],vs tx9c]) (by kernel_rfl) ?_
 try simp only[go_sem]
 refine bsL_at (e:=48) (arr:=#[vs [97],vs tx9c]) (by kernel_rfl) ?_
 intro w5 e5 s5 b5
 have hf5:=zjc b5
 try simp only[go_sem]
 refine Fn.mono (zep (o:=[]) (hX.ext (e04.trans e5)) hf5 (by decide) (ze2 _) ⟨by decide,by decide⟩ fd9) ?_
 rintro _ w6 ⟨e6,p6,rfl,hp6⟩
 try simp only[go_sem]
 refine hK _ _ ?_;clear hK hgd;clear K;try clear gd
 have e06:=(e04.trans e5).trans e6
 obtain⟨ra,rcap,rfl,hrc⟩:∃ra rcap,rv= .slice ra 5 rcap∧True:=by
  obtain⟨a,c,h,_⟩:=hR1
  rw[hR2]at h
  exact⟨a,c,h,trivial⟩
 have e36:=(e4.trans e5).trans e6
 have hrows:Rows 7 (RecAt w6) w6 (.slice ra 5 rcap) [rc1,rc2,rc3,rc4,rc5]:=(Rows.ext ⟨L,hR1,hR2,hR3⟩ e36).to fun cs a h=>h.ext e36
 obtain⟨_,_,hg⟩:=zcc hrows
 obtain⟨cs1,g1,r1⟩:=hg 1 (by decide)
 obtain⟨cs2,g2,r2⟩:=hg 2 (by decide)
 obtain⟨cs4,g4,r4⟩:=hg 4 (by decide)
 obtain⟨xa,rfl⟩:=Option.isSome_iff_exists.1 (zaR g1)
 refine go trivial ?_
 have d5:decide (((5:Nat):Int)=5)=true:=rfl
 refine rgg [(2,32),(7,37),(11,41)] (an2 d5 trivial) ?_
 refine go trivial ?_
 refine rc trivial (zfu (hf1.ext (e2.trans (e3.trans e36))) (by decide) [98]) ?_
 rintro _ w7 ⟨rfl,e7⟩
 rw[show zbC [98] fl9=(tx9b,true) from by decide+kernel]
 refine rgo trivial ?_
 have g1:=zaj e7 g1
 have g2:=zaj e7 g2
 have g4:=zaj e7 g4
 obtain⟨x1,hx1⟩:∃x,adr (some xa) (1*7)=some x:=⟨_,rfl⟩
 obtain⟨x2,hx2⟩:∃x,adr (some xa) (2*7)=some x:=⟨_,rfl⟩
 obtain⟨x4,hx4⟩:∃x,adr (some xa) (4*7)=some x:=⟨_,rfl⟩
 rw[hx1]at g1
 rw[hx2]at g2
 rw[hx4]at g4
 have z1:(0:Int)≤1:=by decide
 have z2:(0:Int)≤2:=by decide
 have z4:(0:Int)≤4:=by decide
 have l1:(1:Int)<5:=by decide
 have l2:(2:Int)<5:=by decide
 have l4:(4:Int)<5:=by decide
 have t1:(1:Int).toNat=1:=rfl
 have t2:(2:Int).toNat=2:=rfl
 have t4:(4:Int).toNat=4:=rfl
 have hY7:=hY.ext (e06.trans e7)
 refine rq ?_;intro gd K hgd hK
 have hg5:∀n σ b,zaM gd n σ (some (5,b))=zav (ev n σ (.tmp 55)) b:=(fun n σ b=>by rw[zah,show gd 5=some 55 from(by rw[hgd];rfl)];rfl);have hg12:∀n σ b,zaM gd n σ (some (12,b))=zav (ev n σ (.tmp 62)) b:=(fun n σ b=>by rw[zah,show gd 12=some 62 from(by rw[hgd];rfl)];rfl);have hg19:∀n σ b,zaM gd n σ (some (19,b))=zav (ev n σ (.tmp 69)) b:=(fun n σ b=>by rw[zah,show gd 19=some 69 from(by rw[hgd];rfl)];rfl);have hg26:∀n σ b,zaM gd n σ (some (26,b))=zav (ev n σ (.tmp 76)) b:=(fun n σ b=>by rw[zah,show gd 26=some 76 from(by rw[hgd];rfl)];rfl);have hg33:∀n σ b,zaM gd n σ (some (33,b))=zav (ev n σ (.tmp 83)) b:=(fun n σ b=>by rw[zah,show gd 33=some 83 from(by rw[hgd];rfl)];rfl);have hg38:∀n σ b,zaM gd n σ (some (38,b))=zav (ev n σ (.tmp 88)) b:=(fun n σ b=>by rw[zah,show gd 38=some 88 from(by rw[hgd];rfl)];rfl);have hg41:∀n σ b,zaM gd n σ (some (41,b))=zav (ev n σ (.tmp 91)) b:=(fun n σ b=>by rw[zah,show gd 41=some 91 from(by rw[hgd];rfl)];rfl)
 try simp (disch:=first|omega|assumption|rfl) only[go_sem,z1,l1,t1,hx1,g1,↓hg5,↓hg12,↓hg19,↓hg26,↓hg33,↓hg38,↓hg41]
 refine Fn.mono (zdf (r:=rc2) hY7 (r1.ext e7) rc2_T) ?_
 rintro _ w8 ⟨rfl,e8⟩
 rw[k9a]
 have d1:decide (([120,46,115,117,98,46,111,46,32,53,32,73,78,32,78,83,32,121,46,115,117,98,46,111,46]:Lab)=[120,46,115,117,98,46,111,46,32,53,32,73,78,32,78,83,32,121,46,115,117,98,46,111,46])=true:=decide_eq_true rfl
 have g2:=zaj e8 g2
 try simp (disch:=first|omega|assumption|rfl) only[go_sem,d1,z2,l2,t2,hx2,g2,↓hg5,↓hg12,↓hg19,↓hg26,↓hg33,↓hg38,↓hg41]
 refine Fn.mono (zdf (r:=rc3) (hY7.ext e8) ((r2.ext e7).ext e8) rc3_T) ?_
 rintro _ w9 ⟨rfl,e9⟩
 rw[k9b]
 have d2:decide (([111,46,32,54,48,32,73,78,32,65,32,49,46,50,46,51,46,53]:Lab)=[111,46,32,54,48,32,73,78,32,65,32,49,46,50,46,51,46,53])=true:=decide_eq_true rfl
 have g4:=zaj (e8.trans e9) g4
 try simp (disch:=first|omega|assumption|rfl) only[go_sem,d2,z4,l4,t4,hx4,g4,↓hg5,↓hg12,↓hg19,↓hg26,↓hg33,↓hg38,↓hg41]
 refine Fn.mono (zdf (r:=rc5) (hY7.ext (e8.trans e9)) ((r4.ext e7).ext (e8.trans e9)) rc5_T) ?_
 rintro _ y1 ⟨rfl,f1⟩
 rw[k9c]
 have d3:decide (([104,50,46,111,46,32,54,48,32,73,78,32,65,32,49,48,46,48,46,48,46,50]:Lab)=[104,50,46,111,46,32,54,48,32,73,78,32,65,32,49,48,46,48,46,48,46,50])=true:=decide_eq_true rfl
 have e71:=(e8.trans e9).trans f1
 have k1:zad y1 (some ⟨p4,1,Option.none⟩)=some (vi 0):=zaa (Ext.at (((e5.trans e6).trans e7).trans e71) hp4) rfl
 have k2:zad y1 (some ⟨p4,2,Option.none⟩)=some (vi 4):=zaa (Ext.at (((e5.trans e6).trans e7).trans e71) hp4) rfl
 try simp (disch:=first|omega|assumption|rfl) only[go_sem,d3,k1,k2,Nat.zero_add,↓hg5,↓hg12,↓hg19,↓hg26,↓hg33,↓hg38,↓hg41]
 refine Fn.mono (zfv ((hX.ext (e06.trans e7)).ext e71) (Ext.at (e7.trans e71) hp6) (by decide) (by decide) (by decide)) ?_
 rintro _ y2 ⟨rfl,f2⟩
 rw[show ([97]++ [58]++Lib.itoa 2++ [58,32]++ [102,111,114,109]:Lab)=[97,58,50,58,32,102,111,114,109] from by rw[it2];rfl]
 have d4:decide (([97,58,50,58,32,102,111,114,109]:Lab)=[97,58,50,58,32,102,111,114,109])=true:=decide_eq_true rfl
 try simp (disch:=first|omega|assumption|rfl) only[go_sem,d4,↓hg5,↓hg12,↓hg19,↓hg26,↓hg33,↓hg38,↓hg41]
 refine hK _ _ ?_;clear hK hgd;clear K;try clear gd
 refine go trivial ?_
 refine rt0 Tryz.ntmps8 ?_
 exact⟨rfl,(e06.trans e7).trans (e71.trans f2)⟩
set_option maxRecDepth 10000
theorem zfX{st:LdS}{e:Int}(h:¬e=0):fltE st e=Option.some ⟨st.path,st.line,e⟩:=if_neg h
section
variable {fl : List (Lab × Lab)} {inc : LdS → Lab → Option FltL → LdS → Prop}
end
def nmF(i:Nat):Lab:=[102,UInt8.ofNat (97+i)]
def lnI(i:Nat):Lab:=[36,73,78,67,76,85,68,69,32,102]++ [UInt8.ofNat (97+i)]
abbrev lnR:Lab:=[120,32,53,32,65,32,49,46,50,46,51,46,52]
def lastD(ring:Bool):Lab:=if ring=true then lnI 0 else lnR
def flI(k:Nat):List (Lab×Lab):=(List.range k).map fun i=>(nmF i,lnI (i+1)++ [10])
def flD(k:Nat)(ring:Bool):List (Lab×Lab):=flI k++ [(nmF k,lastD ring++ [10])]
def rdF(i:Nat):List Lab:=(List.range i).map nmF
theorem fd1{k i:Nat}(hk:k<14)(hi:i<k)(r:Bool):zbC (nmF i) (flD k r)=(lnI (i+1)++ [10],true):=by
 have:∀(r:Bool) (k:Fin 14) (i:Fin 14),i.val<k.val→zbC (nmF i.val) (flD k.val r)=(lnI (i.val+1)++ [10],true):=by decide+kernel
 exact this r ⟨k,hk⟩ ⟨i,by omega⟩ hi
theorem fd2{k:Nat}(hk:k<14)(r:Bool):zbC (nmF k) (flD k r)=(lastD r++ [10],true):=by
 have:∀(r:Bool) (k:Fin 14),zbC (nmF k.val) (flD k.val r)=(lastD r++ [10],true):=by decide+kernel
 exact this r ⟨k,hk⟩
theorem ln_ok{i:Nat}(hi:i<15):ziR (lnI i,[(wInc,false),(nmF i,false)])=true∧zej (lnI i)=false:=by
 have:∀i:Fin 15,ziR (lnI i.val,[(wInc,false),(nmF i.val,false)])=true∧zej (lnI i.val)=false:=by decide+kernel
 exact this ⟨i,hi⟩
theorem rd_new{i:Nat}(hi:i<14):nmF i∉rdF i:=by
 have:∀i:Fin 14,nmF i.val∉rdF i.val:=by decide+kernel
 exact this ⟨i,hi⟩
theorem rd_old{i:Nat}(hi:i<14):nmF 0∈rdF (i+1):=by
 have:∀i:Fin 14,nmF 0∈rdF (i.val+1):=by decide+kernel
 exact this ⟨i,hi⟩
theorem zcN(i:Nat):rdF (i+1)=rdF i++ [nmF i]:=by unfold rdF;rw[List.range_succ,List.map_append];rfl
theorem zdW(i:Nat):(rdF i).length=i:=by unfold rdF;rw[List.length_map,List.length_range]
def recD:RecL:=⟨[[120]],5,⟨1,[],[],[],[1,2,3,4]⟩⟩
def outD(k:Nat)(ring:Bool):Option FltL:=if 8<k then some ⟨nmF 8,1,10⟩ else if ring=true then some ⟨nmF k,1,9⟩ else Option.none
theorem zfe{fl:List (Lab×Lab)}{m i j:Nat}{st st1:LdS}{out:Option FltL}(hj:j<15)(hf:zbC (nmF i) fl=(lnI j++ [10],true))(hr:st.reads.length≤900)
  (hI:IncIs fl (zbl fl m) {st with path:=nmF i,reads:=st.reads++ [nmF i],line:=1} (nmF j) st.origin out st1) (hn:out=Option.none→1≤st1.reads.length∧st1.reads.length≤10000):
  zbl fl (m+1) st (nmF i) out (if out.isSome=true then st1 else{st1 with reads:=st1.reads.dropLast}):=by
 obtain⟨l1,l2⟩:=ln_ok hj
 have hen:EntIs fl (zbl fl m) {st with path:=nmF i,reads:=st.reads++ [nmF i],line:=1} ⟨1,false,[(wInc,false),(nmF j,false)]⟩ out st1:=EntIs.dir _ _ _ _ _ (by decide) (.incl _ _ _ (AskIs.one _ false _ _ hI))
 refine⟨[(lnI j,[(wInc,false),(nmF j,false)])],st1,?_,lnsB (by rw[List.all_cons,l1];rfl) (Nat.le_of_ble_eq_true rfl),by omega,?_,fun h=>⟨(hn h).1,(hn h).2,by rw[h];rfl⟩,fun h=>?_⟩
 ·rw[hf];simp[za1]
 ·have e1:entF 1 [(lnI j,[(wInc,false),(nmF j,false)])]=[⟨1,false,[(wInc,false),(nmF j,false)]⟩]:=by
   rw[entF,entF]
   unfold zji
   rw[if_neg (by simp),l2]
   rfl
  rw[e1]
  cases out with
  |none=>exact EntsIs.more _ _ [] _ _ _ (by simp;omega) hen (.nil _)
  |some f=>exact EntsIs.flt _ _ [] _ _ (by simp;omega) hen
 ·cases out with
  |none=>exact absurd rfl h
  |some f=>rfl
theorem file_rec{fl:List (Lab×Lab)}{m i:Nat}{st:LdS}(hf:zbC (nmF i) fl=(lnR++ [10],true))(hr:st.reads.length≤900)(ho:st.origin=[])(ht:st.ttl=Option.none)(hl:st.out=[]):zbl fl (m+1) st (nmF i) Option.none {st with path:=nmF i,line:=1,owner:=some [[120]],last:=some 5,out:=[recD]}:=by
 refine⟨[(lnR,[([120],false),([53],false),([65],false),(tA4,false)])],{st with path:=nmF i,reads:=st.reads++ [nmF i],line:=1,owner:=some [[120]],last:=some 5,out:=[recD]},by rw[hf];rfl,lnsB (by decide+kernel) (by decide),by omega,?_,fun _=>⟨by simp,by simp;omega,by simp⟩,fun h=>absurd rfl h⟩
 refine EntsIs.more _ ⟨1,false,[([120],false),([53],false),([65],false),(tA4,false)]⟩ [] _ _ _ (by simp;omega) ?_ (.nil _)
 have hn:zaK [120] []=([[120]],0):=by decide+kernel
 have h53:(decP 2147483647 [53]).1=5:=by decide+kernel
 have:=zff (fl:=fl) (inc:=zbl fl m) (st:={st with path:=nmF i,reads:=st.reads++ [nmF i]}) (t:=[120]) (ws:=[([53],false),([65],false),(tA4,false)]) (n:=[[120]]) (hs:=[(0,true)]) (e:=0) 1 (by decide) (by decide) (by show zaK [120] st.origin=_;rw[ho];exact hn) (by decide) (by decide+kernel) (by decide+kernel)
  (zcE (d:=⟨1,[],[],[],[1,2,3,4]⟩) (n:=[[120]]) (τ:=5) (by decide) (by rw[pT1]) (by rw[pT1];exact pA1 _) (by show st.out.length<4096;rw[hl];decide) rfl (by show orT (orT (some (((decP 2147483647 [53]).1:Nat):Int)) st.ttl) st.last=some 5;rw[h53];rfl))
 rw[show ({st with path:=nmF i,reads:=st.reads++ [nmF i],line:=1,owner:=some [[120]],last:=some 5,out:=[recD]}:LdS)={st with path:=nmF i,reads:=st.reads++ [nmF i],line:=1,owner:=some [[120]],last:=some 5,out:=st.out++ [⟨[[120]],5,⟨1,[],[],[],[1,2,3,4]⟩⟩]} from by rw[hl];rfl]
 exact this
theorem zfZ{k:Nat}(hk:k<14)(r:Bool):∀(d i:Nat) (st:LdS),i+d=min k 8→st.reads=rdF i→st.origin=[]→st.ttl=Option.none→st.out=[]→st.many=(i:Int)→
  ∃st',zbl (flD k r) (d+1) st (nmF i) (outD k r) st'∧(outD k r=Option.none→st'.out=[recD]∧st'.reads=rdF i)
 |0,i,st,hi,hr,ho,ht,hl,hm=>by
  by_cases h8:8<k
  ·have:i=8:=by omega
   subst this
   have ho2:outD k r=some ⟨nmF 8,1,10⟩:=if_pos h8
   rw[ho2]
   refine⟨_,zfe (st1:={st with path:=nmF 8,reads:=st.reads++ [nmF 8],line:=1}) (j:=9) (by decide) (fd1 hk (by omega) r) (by rw[hr,zdW];decide) ?_ (fun h=>by cases h),fun h=>by cases h⟩
   have:=IncIs.deep (fl:=flD k r) (inc:=zbl (flD k r) 0) (st:={st with path:=nmF 8,reads:=st.reads++ [nmF 8],line:=1}) (p:=nmF 9) (o:=st.origin) (by
    by_cases h9:k=9
    ·subst h9;rw[fd2 hk]
    ·rw[fd1 hk (by omega)]) (by show nmF 9∉st.reads++ [nmF 8];rw[hr,←zcN];exact rd_new (by decide)) (by show 8<(st.reads++ [nmF 8]).length;rw[hr,←zcN,zdW];decide)
   rw[zfX (by decide)]at this
   exact this
  ·have:i=k:=by omega
   subst this
   cases r with
   |true=>
    have ho2:outD i true=some ⟨nmF i,1,9⟩:=by unfold outD;rw[if_neg h8,if_pos rfl]
    rw[ho2]
    refine⟨_,zfe (st1:={st with path:=nmF i,reads:=st.reads++ [nmF i],line:=1}) (j:=0) (by decide) (fd2 hk true) (by rw[hr,zdW];omega) ?_ (fun h=>by cases h),fun h=>by cases h⟩
    have:=IncIs.ring (fl:=flD i true) (inc:=zbl (flD i true) 0) (st:={st with path:=nmF i,reads:=st.reads++ [nmF i],line:=1}) (p:=nmF 0) (o:=st.origin) (by
     by_cases h9:i=0
     ·subst h9;rw[fd2 hk]
     ·rw[fd1 hk (by omega)]) (by show nmF 0∈st.reads++ [nmF i];rw[hr,←zcN];exact rd_old hk)
    rw[zfX (by decide)]at this
    exact this
   |false=>
    have ho2:outD i false=Option.none:=by unfold outD;rw[if_neg h8,if_neg (by decide)]
    rw[ho2]
    exact⟨_,file_rec (fd2 hk false) (by rw[hr,zdW];omega) ho ht hl,fun _=>⟨rfl,hr⟩⟩
 |d+1,i,st,hi,hr,ho,ht,hl,hm=>by
  obtain⟨st2,hF,hN⟩:=zfZ hk r d (i+1) {st with path:=nmF i,reads:=st.reads++ [nmF i],line:=1,many:=st.many+1} (by omega) (by show st.reads++ [nmF i]=_;rw[hr,zcN]) ho ht hl (by show st.many+1=_;rw[hm];push_cast;rfl)
  have hI:IncIs (flD k r) (zbl (flD k r) (d+1)) {st with path:=nmF i,reads:=st.reads++ [nmF i],line:=1} (nmF (i+1)) st.origin (outD k r) _:=IncIs.read _ st2 (by
   by_cases h9:i+1=k
   ·subst h9;rw[fd2 hk]
   ·rw[fd1 hk (by omega)]) (by show nmF (i+1)∉st.reads++ [nmF i];rw[hr,←zcN];exact rd_new (by omega)) (by show(st.reads++ [nmF i]).length≤8;rw[hr,←zcN,zdW];omega) (by show 0≤st.many;rw[hm];omega) (by show st.many<64;rw[hm];omega) hF
  refine⟨_,zfe (by omega) (fd1 hk (by omega) r) (by rw[hr,zdW];omega) hI (fun h=>?_),fun h=>?_⟩
  ·show 1≤st2.reads.length∧st2.reads.length≤10000
   rw[(hN h).2,zdW];omega
  ·rw[h,if_neg (by decide)]
   refine⟨(hN h).1,?_⟩
   show st2.reads.dropLast=rdF i
   rw[(hN h).2,zcN];simp
theorem ziQ{k:Nat}(hk:k<14)(r:Bool):∃st',zgg (flD k r) [102,97] [] (outD k r) st'∧(outD k r=Option.none→st'.out=[recD]):=by
 obtain⟨st',h1,h2⟩:=zfZ hk r (min k 8) 0 (ld0 []) (by omega) rfl rfl rfl rfl rfl
 exact⟨st',.inl ⟨_,h1⟩,fun h=>(h2 h).1⟩
theorem zbp:zgd 2 zb7:=⟨fun h=>by rw[h];rfl,fun h=>by
 intro q hq
 rw[h]at hq
 simp only[List.mem_cons,List.not_mem_nil,or_false]at hq
 rcases hq with rfl|rfl<;>rfl⟩
theorem flI_snoc(i:Nat):flI (i+1)=flI i++ [(nmF i,lnI (i+1)++ [10])]:=by unfold flI;rw[List.range_succ,List.map_append];rfl
theorem zgJ{W:World}(hX:WX W)(hY:WY W)(n:Nat)(ring:Bool)(hn:n≤255):
  Fn Tryz.prog 6 #[.int .u8 n,.bool ring] W (fun v w'=>v= .bool true∧Ext W w'):=by
 obtain⟨k,hk⟩:∃k,n % 14=k:=⟨_,rfl⟩
 have hk14:k<14:=by omega
 have ek:((n:Nat):Int).tmod 14=(k:Int):=by rw[Int.tmod_eq_emod_of_nonneg (by omega)];omega
 have nz:¬(14:Int)=0:=by decide
 have w1:∀i:Nat,i<15→IntKind.i64.wrap (97+(i:Int))=((97+i:Nat):Int):=fun i hi=>by rw[zcW (by omega) (by omega)];push_cast;rfl
 have w2:∀i:Nat,i<15→IntKind.u8.wrap ((97+i:Nat):Int)=((97+i:Nat):Int):=fun i hi=>zgn (by omega) (by omega)
 refine enter Tryz.func6 Tryz.ntmps6 rfl rfl ?_
 refine go trivial ?_
 refine rc trivial (zjK hX hY) ?_
 rintro _ x1 ⟨rfl,hE1⟩
 refine rgo (an2 ek nz) ?_
 refine zbn k (fun i σ A=>(σ 1= .bool ring∧σ 5=vi k∧σ 7=vi i)∧Ext W A∧∃lv,σ 6=lv∧Owns 2 zb7 W.heap.size A 48 lv (flI i)) ?_ ?_ ?_
 ·exact⟨⟨vr0,vr0,vr0⟩,hE1,_,vr0,Owns.nil _ _ _ _ _⟩
 ·rintro i σ A hi rr ⟨⟨s1,s5,s7⟩,hEA,lv,s6,hown⟩
  have hi1:(i:Int)<(k:Int):=by omega
  have u1:=w1 i (by omega)
  have u2:=w2 i (by omega)
  have u3:IntKind.i64.wrap (((97+i:Nat):Int)+1)=((97+(i+1):Nat):Int):=by rw[zcW (by omega) (by omega)];push_cast;omega
  have u4:=w2 (i+1) (by omega)
  have v1:(97:Int)+(i:Int)=((97+i:Nat):Int):=by push_cast;rfl
  have v2:((97+i:Nat):Int)+1=((97+(i+1):Nat):Int):=by push_cast;omega
  refine go (an4 s5 s7 rr hi1) ?_
  refine rq ?_;intro gd K hgd hK
  try simp (disch:=first|omega|assumption|rfl) only[go_sem,s6,s7,v1,v2,u1,u2,u3,u4]
  refine za0 rfl rfl rfl rfl rfl ?_
  intro A1 e1 n1 o1
  try simp (disch:=first|omega|assumption|rfl) only[go_sem,s7,v1,v2,u1,u2,u3,u4]
  refine zbt (l:=[UInt8.ofNat (97+i)]) (a:=some ⟨A.heap.size,0,Option.none⟩) (c:=1) rfl rfl rfl (vr0) (zdV o1 (by omega) rfl) ?_
  have l1:([102]:Lab).length+([UInt8.ofNat (97+i)]:Lab).length≤9223372036854775807:=by simp
  try simp (disch:=first|omega|assumption|rfl) only[go_sem,s7,v1,v2,u1,u2,u3,u4,l1]
  refine za0 rfl rfl rfl rfl rfl ?_
  intro A2 e2 n2 o2
  try simp only[go_sem]
  refine zbt (l:=[UInt8.ofNat (97+(i+1))]) (a:=some ⟨A1.heap.size,0,Option.none⟩) (c:=1) rfl rfl rfl (vr0) (zdV o2 (by omega) rfl) ?_
  have l2:([36,73,78,67,76,85,68,69,32,102]:Lab).length+([UInt8.ofNat (97+(i+1))]:Lab).length≤9223372036854775807:=by simp
  have l3:(([36,73,78,67,76,85,68,69,32,102]:Lab)++ [UInt8.ofNat (97+(i+1))]).length+([10]:Lab).length≤9223372036854775807:=by simp
  try simp (disch:=first|omega|assumption|rfl) only[go_sem,l2,l3]
  refine⟨by kernel_rfl,?_⟩
  refine zdh (m:= .mk) (v:= .agg #[vs (nmF i),vs (lnI (i+1)++ [10])]) (by kernel_rfl) ?_
  try simp only[go_sem]
  refine zcl (C:=zb7) zbp (l:=[vs (nmF i),vs (lnI (i+1)++ [10])]) (a:=(nmF i,lnI (i+1)++ [10])) rfl rfl rfl rfl rfl (by decide) ?_
  intro A3 e3 n3 o3
  have e13:=(e1.trans e2).trans e3
  try simp (disch:=first|omega|assumption|rfl) only[go_sem,s6]
  refine zce zbp (hown.ext e13) o3.rows rfl rfl rfl rfl rfl rfl (by decide) ((vr1 s6)) (vr0) (by simp[flI];omega) (by decide) (by have:=hEA.size;have:=e13.size;omega) ?_
  intro sv A4 ho4 hX4 hk4 hb4
  try simp only[go_sem]
  refine hK _ _ ?_;clear hK hgd;clear K;try clear gd
  refine go (an4 s1 s5 s7 rr) ?_
  refine⟨rfl,⟨(vq1 s1),(vq1 s5),(vq1 rr)⟩,hX4 W (hEA.trans e13) (Nat.le_refl _),sv,vr0,?_⟩
  rw[flI_snoc]
  exact ho4
 ·rintro σ A rr ⟨⟨s1,s5,s7⟩,hEA,lv,s6,hown⟩
  have u1:=w1 k (by omega)
  have u2:=w2 k (by omega)
  have v1:(97:Int)+(k:Int)=((97+k:Nat):Int):=by push_cast;rfl
  obtain⟨st',hL,hL2⟩:=ziQ hk14 ring
  refine go (an3 s5 s7 rr) ?_
  cases ring with
  |true=>
   have hfl:flI k++ [(nmF k,[36,73,78,67,76,85,68,69,32,102,97,10])]=flD k true:=rfl
   refine go (an2 s1 s5) ?_
   refine rq ?_;intro gd K hgd hK
   try simp (disch:=first|omega|assumption|rfl) only[go_sem,s6,s5,v1,u1,u2]
   refine za0 rfl rfl rfl rfl rfl ?_
   intro A1 e1 n1 o1
   try simp only[go_sem]
   refine zbt (l:=[UInt8.ofNat (97+k)]) (a:=some ⟨A.heap.size,0,Option.none⟩) (c:=1) rfl rfl rfl (vr0) (zdV o1 (by omega) rfl) ?_
   have l1:([102]:Lab).length+([UInt8.ofNat (97+k)]:Lab).length≤9223372036854775807:=by simp
   try simp (disch:=first|omega|assumption|rfl) only[go_sem,l1]
   refine⟨by kernel_rfl,?_⟩
   refine zdh (m:= .mk) (v:= .agg #[vs (nmF k),vs [36,73,78,67,76,85,68,69,32,102,97,10]]) (by kernel_rfl) ?_
   try simp only[go_sem]
   refine zcl (C:=zb7) zbp (l:=[vs (nmF k),vs [36,73,78,67,76,85,68,69,32,102,97,10]]) (a:=(nmF k,[36,73,78,67,76,85,68,69,32,102,97,10])) rfl rfl rfl rfl rfl (by decide) ?_
   intro A3 e3 n3 o3
   have e13:=e1.trans e3
   try simp (disch:=first|omega|assumption|rfl) only[go_sem,s6]
   refine zce zbp (hown.ext e13) o3.rows rfl rfl rfl rfl rfl rfl (by decide) ((vr1 s6)) (vr0) (by simp[flI];omega) (by decide) (by have:=hEA.size;have:=e13.size;omega) ?_
   intro sv A4 ho4 hX4 hk4 hb4
   try simp only[go_sem]
   refine hK _ _ ?_;clear hK hgd;clear K;try clear gd
   rw[hfl]at ho4
   have hE4:Ext W A4:=hX4 W (hEA.trans e13) (Nat.le_refl _)
   have hf4:=ho4.rows
   obtain⟨fa,fc,rfl,_⟩:=id hf4.open
   refine go trivial ?_
   refine rq ?_;intro gd K hgd hK
   try simp only[go_sem]
   refine Fn.mono (zep (o:=[]) (hX.ext hE4) hf4 (by unfold flD flI;simp;omega) (ze2 _) ⟨by decide,by decide⟩ hL) ?_
   rintro v A5 ⟨f5,hAt⟩
   by_cases h8:8<k
   ·have ho:outD k true=some ⟨nmF 8,1,10⟩:=if_pos h8
    rw[ho]at hAt
    obtain⟨p2,rfl,hp2⟩:=hAt
    try simp only[go_sem]
    refine hK _ _ ?_;clear hK hgd;clear K;try clear gd
    have k0:zad A5 (some ⟨p2,0,Option.none⟩)=some (vs (nmF 8)):=zaa hp2 rfl
    have k2:zad A5 (some ⟨p2,2,Option.none⟩)=some (vi 10):=zaa hp2 rfl
    refine go (an2 s5 (decide_eq_true (show(8:Int)<(k:Int) by omega))) ?_
    refine rgg [(2,61),(9,68)] (an5 k0 k2 (show decide (nmF 8=[102,105])=true from by decide) (show decide ((10:Int)=10)=true from rfl) Nat.zero_add) ?_
    refine go trivial ?_
    refine rt0 Tryz.ntmps6 ?_
    exact⟨rfl,hE4.trans f5⟩
   ·have ho:outD k true=some ⟨nmF k,1,9⟩:=by unfold outD;rw[if_neg h8,if_pos rfl]
    rw[ho]at hAt
    obtain⟨p2,rfl,hp2⟩:=hAt
    try simp only[go_sem]
    refine hK _ _ ?_;clear hK hgd;clear K;try clear gd
    have k0:zad A5 (some ⟨p2,0,Option.none⟩)=some (vs (nmF k)):=zaa hp2 rfl
    have k2:zad A5 (some ⟨p2,2,Option.none⟩)=some (vi 9):=zaa hp2 rfl
    refine go (an3 s5 s1 (decide_eq_false (show¬(8:Int)<(k:Int) by omega))) ?_
    repeat refine c_r ?_
    refine zaP (fun _=>false) [(0,true),(1,true),(2,true),(3,true),(4,true),(5,true),(6,true),(7,true),(8,true),(9,true),(10,true),(11,true),(12,true),(13,true),(14,true),(15,true),(16,true),(17,false),(18,false),(19,true),(20,true),(21,true),(22,true)] NoS mixed (by kernel_rfl) ?_;intro gd K x hgd hx hxe hK;have hx0:=zaO hxe;clear hxe
    have hg2:∀n σ b,zaM gd n σ (some (2,b))=zav (ev n σ (.tmp 79)) b:=(fun n σ b=>by rw[zah,show gd 2=some 79 from(by rw[hgd];rfl)];rfl);have hg9:∀n σ b,zaM gd n σ (some (9,b))=zav (ev n σ (.tmp 86)) b:=(fun n σ b=>by rw[zah,show gd 9=some 86 from(by rw[hgd];rfl)];rfl)
    have k0x:=zab hx0 k0
    have k2x:=zab hx0 k2
    simp (disch:=first|omega|assumption|rfl) only[go_sem,k0x,k2x,s5,v1,u1,u2,Nat.zero_add,↓hg2,↓hg9]
    refine za0 rfl rfl rfl rfl rfl ?_
    intro y1 g1 m1 q1
    refine⟨.inr g1.keep,?_⟩
    have k0y:=zab g1 k0x
    have k2y:=zab g1 k2x
    simp (disch:=first|omega|assumption|rfl) only[go_sem,k0y,k2y,s5,v1,u1,u2,Nat.zero_add,↓hg2,↓hg9]
    refine zbt (l:=[UInt8.ofNat (97+k)]) (a:=some ⟨x.heap.size,0,Option.none⟩) (c:=1) rfl rfl rfl (vr0) (zdV q1 (by omega) rfl) ?_
    refine⟨.inr (Keep.refl _ _),?_⟩
    have l2:([102]:Lab).length+([UInt8.ofNat (97+k)]:Lab).length≤9223372036854775807:=by simp
    have d1:decide (nmF k=[102,UInt8.ofNat (97+k)])=true:=decide_eq_true rfl
    have d2:decide ((9:Int)=9)=true:=rfl
    simp (disch:=first|omega|assumption|rfl) only[go_sem,k0y,k2y,s5,v1,u1,u2,Nat.zero_add,l2,d1,d2,↓hg2,↓hg9]
    refine hK _ _ ?_;clear hK hgd;clear K;try clear gd
    refine go trivial ?_
    refine rt0 Tryz.ntmps6 ?_
    exact⟨rfl,((hE4.trans f5).trans hx0).trans g1⟩
  |false=>
   have hfl:flI k++ [(nmF k,[120,32,53,32,65,32,49,46,50,46,51,46,52,10])]=flD k false:=rfl
   refine go (an2 s1 s5) ?_
   refine rq ?_;intro gd K hgd hK
   try simp (disch:=first|omega|assumption|rfl) only[go_sem,s6,s5,v1,u1,u2]
   refine za0 rfl rfl rfl rfl rfl ?_
   intro A1 e1 n1 o1
   try simp only[go_sem]
   refine zbt (l:=[UInt8.ofNat (97+k)]) (a:=some ⟨A.heap.size,0,Option.none⟩) (c:=1) rfl rfl rfl (vr0) (zdV o1 (by omega) rfl) ?_
   have l1:([102]:Lab).length+([UInt8.ofNat (97+k)]:Lab).length≤9223372036854775807:=by simp
   try simp (disch:=first|omega|assumption|rfl) only[go_sem,l1]
   refine⟨by kernel_rfl,?_⟩
   refine zdh (m:= .mk) (v:= .agg #[vs (nmF k),vs [120,32,53,32,65,32,49,46,50,46,51,46,52,10]]) (by kernel_rfl) ?_
   try simp only[go_sem]
   refine zcl (C:=zb7) zbp (l:=[vs (nmF k),vs [120,32,53,32,65,32,49,46,50,46,51,46,52,10]]) (a:=(nmF k,[120,32,53,32,65,32,49,46,50,46,51,46,52,10])) rfl rfl rfl rfl rfl (by decide) ?_
   intro A3 e3 n3 o3
   have e13:=e1.trans e3
   try simp (disch:=first|omega|assumption|rfl) only[go_sem,s6]
   refine zce zbp (hown.ext e13) o3.rows rfl rfl rfl rfl rfl rfl (by decide) ((vr1 s6)) (vr0) (by simp[flI];omega) (by decide) (by have:=hEA.size;have:=e13.size;omega) ?_
   intro sv A4 ho4 hX4 hk4 hb4
   try simp only[go_sem]
   refine hK _ _ ?_;clear hK hgd;clear K;try clear gd
   rw[hfl]at ho4
   have hE4:Ext W A4:=hX4 W (hEA.trans e13) (Nat.le_refl _)
   have hf4:=ho4.rows
   obtain⟨fa,fc,rfl,_⟩:=id hf4.open
   refine go trivial ?_
   refine rq ?_;intro gd K hgd hK
   try simp only[go_sem]
   refine Fn.mono (zep (o:=[]) (hX.ext hE4) hf4 (by unfold flD flI;simp;omega) (ze2 _) ⟨by decide,by decide⟩ hL) ?_
   rintro v A5 ⟨f5,hAt⟩
   by_cases h8:8<k
   ·have ho:outD k false=some ⟨nmF 8,1,10⟩:=if_pos h8
    rw[ho]at hAt
    obtain⟨p2,rfl,hp2⟩:=hAt
    try simp only[go_sem]
    refine hK _ _ ?_;clear hK hgd;clear K;try clear gd
    have k0:zad A5 (some ⟨p2,0,Option.none⟩)=some (vs (nmF 8)):=zaa hp2 rfl
    have k2:zad A5 (some ⟨p2,2,Option.none⟩)=some (vi 10):=zaa hp2 rfl
    refine go (an2 s5 (decide_eq_true (show(8:Int)<(k:Int) by omega))) ?_
    refine rgg [(2,61),(9,68)] (an5 k0 k2 (show decide (nmF 8=[102,105])=true from by decide) (show decide ((10:Int)=10)=true from rfl) Nat.zero_add) ?_
    refine go trivial ?_
    refine rt0 Tryz.ntmps6 ?_
    exact⟨rfl,hE4.trans f5⟩
   ·have ho:outD k false=Option.none:=by unfold outD;rw[if_neg h8,if_neg (by decide)]
    have hR:=hL2 ho
    rw[ho]at hAt
    obtain⟨rv,rfl,hRs⟩:=hAt
    rw[hR]at hRs
    try simp only[go_sem]
    refine hK _ _ ?_;clear hK hgd;clear K;try clear gd
    obtain⟨ra,rcap,rfl,_⟩:=Rows.open (k:=7) (xs:=[recD]) hRs
    refine go (an3 s5 s1 (decide_eq_false (show¬(8:Int)<(k:Int) by omega))) ?_
    refine rgg [(2,101)] (an2 (show decide ((((([recD]:List RecL).length:Nat)):Int)=1)=true from rfl) trivial) ?_
    refine go trivial ?_
    refine rt0 Tryz.ntmps6 ?_
    exact⟨rfl,hE4.trans f5⟩
end Go.Proofs.YtihbdhjibplldaaGreatDoor
namespace Go.Proofs.YtihbdhjibplldaaGreatDoor.loadDeep
open Go Go.Proofs.YtihbdhjibplldaaGreatDoor
theorem j1:(Rows.loadDeepRow.inPlace==Tryz.pinned.checked.prog.inPlace 6)=true:=by kernel_rfl
theorem j2:(Rows.loadDeepRow.unfollowed==Tryz.pinned.checked.prog.unfollowed 6)=true:=by kernel_rfl
theorem j3:(Rows.loadDeepRow.recurses==Tryz.pinned.checked.prog.recurses 6)=true:=by kernel_rfl
theorem j4:(Rows.loadDeepRow.named==Tryz.pinned.checked.prog.varsNamed 6)=true:=by kernel_rfl
theorem j5:(Tryz.pinned.checked.prog.mayEnter)=true:=by kernel_rfl
theorem j6:(Rows.loadDeepRow.lifted==Tryz.pinned.checked.prog.liftsFinal)=true:=by kernel_rfl
theorem joined:joinedFacts Tryz.pinned.checked.prog 6 Tryz.f6 Rows.loadDeepSpec Rows.loadDeepRow=true:=by
 unfold joinedFacts
 rw[j1,j2,j3,j4,j5,j6]
 kernel_rfl
end Go.Proofs.YtihbdhjibplldaaGreatDoor.loadDeep
namespace Go.Proofs.YtihbdhjibplldaaGreatDoor
open Go Go.ChangeShapes Go.WideShapes Go.ChangeAt Go.RowKit
theorem ziW{C:Checked}{os:Os}{f:FuncId}{fn:Func}{s:ChangeSpec}{conds:List PathCond}{apart fresh handsOn again:Bool}{H:Type}{enc:TypeId×Value→H}{X:World→Prop}
  (hX:∀(w w':World),w.heap=w'.heap→X w→X w')
  (own:ownKnob C.prog.godebug=none) (started:os.Started) (noInit:C.prog.inits.idxOf? f=none) (hfn:C.prog.funcs[f]? =some fn)
  (witness:∃(w:World) (tape:Tape) (i:Input),w.os=os∧(w.forCall tape i).Shaped C.prog∧i.vars=[]∧Input.okWide C.prog (w.forCall tape i) .any w.heap.size f i∧
   ((s.pre enc C.prog fn conds apart (w.forCall tape i).memory i.args∧X (w.forCall tape i).memory)∧sizedMet enc C.prog fn (OpenSpec.ofChange s) apart (w.forCall tape i).memory i.args)∧({}:Assume).holds C.prog (lone (Frame.enter C.prog f i.args .normal) [] (w.forCall tape i)))
  (hvn:s.vars=[]) (hspec:∀ds:List (DataW H),ds.length=fn.params.size→s.fn H ds={results:=[.lit (.bool true)],args:=ds}) {tb:TypeId} (hrt:fn.resultTypes=#[tb]) (htb:C.prog.underlying tb=some .bool)
  (hl:laidOutB C.prog=true) (hrd:fn.params.toList.all (fun t=>C.prog.readableRec t && decide (t<C.prog.types.size))=true)
  (walk:∀(W:World) (base:Nat) (args:List Value) (ds:List (DataW H)) (p:List MemPlace),X W→W.ShapedOpen C.prog→(∀(j:Nat) t v,fn.params[j]? =some t→args[j]? =some v→Value.okWide C.prog W .any base t v)→
   DataW.TrodAll enc C.prog W 0 (fun _=>true) true fn.params.toList args ds p→(∀x∈DataW.weightsEach C.prog fn.params.toList ds,x≤reachBytes)→Fn C.prog f args.toArray W (fun v W'=>v= .bool true∧Ext W W')):
  ReturnsInHanded {} C os f .any (fun w args=>(s.pre enc C.prog fn conds apart w args∧X w)∧sizedMet enc C.prog fn (OpenSpec.ofChange s) apart w args) (s.post enc C.prog fn apart fresh handsOn again):=by
 refine returnsInHanded_of_calls own started noInit witness ?_
 intro w tape i _ hsh _ hok hpre hholds
 obtain⟨_,_,_,fn',hfn',_,_,_,_,hval⟩:=hok
 have e:fn'=fn:=Option.some.inj (hfn'.symm.trans hfn)
 subst e
 obtain⟨⟨⟨ds,gs,before,hw,hc⟩,hx⟩,hz⟩:=hpre
 have hW:=DataW.Whole.of_heap (w':=w.forCall tape i) (by rfl) hw
 have hwt:(DataW.weightsEach C.prog (fn'.params.toList++s.plain.varTypes C.prog) (ds++gs)).all (·≤reachBytes)=true:=hz.weights hw
 have hXW:=hX _ (w.forCall tape i) (by rfl) hx
 obtain⟨W,hWe⟩:∃W,w.forCall tape i=W:=⟨_,rfl⟩
 rw[hWe]at hW hXW hsh hval ⊢
 refine Calls.mono (R:=fun e W'=>∃v,e= .returned v∧s.post enc C.prog fn' apart fresh handsOn again W i.args v W') ?_ (fun e W' ⟨v,he,hp⟩=>?_)
 rotate_left
 ·subst he
  exact ChangeSpec.post_blind hp
 obtain⟨args,hargs⟩:∃a,i.args=a:=⟨_,rfl⟩
 rw[hargs]at hval hW ⊢
 have hW0:=hW
 obtain⟨p,q,hA,hV,_⟩:=hW
 have hgs:gs=[]:=by
  rw[hvn]at hV
  cases gs with
  |nil=>rfl
  |cons _ _=>exact hV.elim
 subst hgs
 have hvt:s.plain.varTypes C.prog=[]:=by
  unfold DataSpec.varTypes
  rw[show s.plain.vars=[] from hvn];rfl
 rw[hvt,List.append_nil,List.append_nil]at hwt
 have hlen:∀{ts:List TypeId} {vs:List Value} {ds:List (DataW H)} {ps:List MemPlace},DataW.TrodAll enc C.prog W 0 (fun _=>true) true ts vs ds ps→ds.length=ts.length:=by
  intro ts
  induction ts with
  |nil=>intro vs ds ps h;obtain⟨rfl,rfl,rfl⟩:=trodAll_nil h;rfl
  |cons t ts ih=>
   intro vs ds ps h
   obtain⟨v,vs1,d,ds1,a,b,rfl,rfl,rfl,h1,h2⟩:=trodAll_cons h
   simp[ih h2]
 have hw:=walk W w.heap.size args.toList ds p hXW hsh (fun j t v h1 h2=>hval j t v h1 (by simpa using h2)) hA (fun x hx=>by simpa using (List.all_eq_true.1 hwt) x hx)
 rw[Array.toArray_toList]at hw
 refine Calls.mono (callsIn_wide.1 hw) ?_
 rintro e W' ⟨v,rfl,rfl,hE⟩
 refine⟨_,rfl,law_post hW0 hvn (hspec ds (by rw[hlen hA];simp)) hrt htb hl (fun t ht=>?_) hE⟩
 have:=(List.all_eq_true.1 hrd) t ht
 simpa using this
end Go.Proofs.YtihbdhjibplldaaGreatDoor
namespace Go.Proofs.YtihbdhjibplldaaGreatDoor
open Go
set_option maxRecDepth 100000
def bruijn64:List Int:=[0,1,56,2,57,49,28,3,61,58,42,50,38,29,17,4,62,47,59,36,45,43,51,22,53,39,33,30,24,18,12,5,63,55,48,27,60,41,37,16,46,35,44,21,52,32,23,11,54,26,40,15,34,20,31,10,25,14,19,9,13,8,7,6]
theorem ze9{H:Type}{enc:TypeId×Value→H}{P:Program}{w:World}{base:Nat}{sp:Nat→Bool}{held:Bool}{fuel:Nat}{t:TypeId}{cs:List Value}{nm:String}{d:DataW H}{p:List MemPlace}{ms:Array (String×TypeId)}
  (ht:P.underlying t=some (.interface ms)) (h:DataW.trod enc P w base sp held fuel t cs=some (.iface nm d,p)):∃u v,cs=[.iface u v]:=by
 cases fuel with
 |zero=>simp[DataW.trod]at h
 |succ fuel=>
  simp only[DataW.trod,ht]at h
  split at h<;>first| (rename_i heq _;cases heq;done)| (cases h;done)|exact⟨_,_,rfl⟩|simp_all
theorem WX_of{W:World}{rest:List (String×DataW Unit)}(hsh:W.ShapedOpen Tryz.prog)(h:laidMet Tryz.prog ((Rows.loadTextRow.laid.take 5)++rest) W):WX W:=by
 have h1:=laidMet.tail h
 have h2:=laidMet.tail h1
 have h4:=laidMet.tail (laidMet.tail h2)
 have tz:=Lib.tabIs_of_head (g:=3) (t:=205) (e:=5) (n:=64) (k:= .u8) (zs:=bruijn64) (by kernel_rfl) (by kernel_rfl) (by kernel_rfl) (by kernel_rfl) (by kernel_rfl) (by kernel_rfl) h1
 have tp:=Lib.tabIs_of_head (g:=0) (t:=157) (e:=71) (n:=20) (k:= .u64) (zs:=Lib.pow10Tab) (by kernel_rfl) (by kernel_rfl) (by kernel_rfl) (by kernel_rfl) (by kernel_rfl) (by kernel_rfl) h2
 obtain⟨u,v,hv⟩:∃u v,W.cell? ⟨7,0,Option.none⟩=some (.iface u v):=by
  obtain⟨_,⟨g0,t0,cs0,f0,p0,q0,hg0,ht0,hv0,hd0,_,_⟩,_,_⟩:=h4
  obtain rfl:=Option.some.inj ((show Tryz.prog.globalNamed _=some 7 by kernel_rfl).symm.trans hg0)
  obtain rfl:=Option.some.inj ((show(Tryz.prog.globals[7]?).map (·.type)=some 100 by kernel_rfl).symm.trans ht0)
  obtain⟨u,v,hcs⟩:=ze9 Tryz.underlying100 hd0
  have e0:cs0=#[.iface u v]:=Array.toList_inj.1 (by simpa using hcs)
  exact⟨u,v,by rw[World.var?_cell hg0 hv0 0,e0];rfl⟩
 refine⟨cell_of_shapedOpen_int (t:=3) (zero:=#[.int .i64 0]) hsh (by decide+kernel) (by kernel_rfl) rfl (by kernel_rfl) (by kernel_rfl) (by kernel_rfl),?_,⟨u,v,hv⟩,⟨4,World.var?_cell (by kernel_rfl) tz 15,by decide,by decide⟩⟩
 have h3:=tp
 unfold Lib.TabIs World.var? at h3
 rw[show Tryz.prog.globalNamed _=some 0 from by kernel_rfl,Option.bind_some]at h3
 split at h3
 ·rename_i cs t fr hh
  injection h3 with h3
  exact⟨t,fr,by rw[hh,h3]⟩
 ·cases h3
def bruijnT:List Int:=[0,1,56,2,57,49,28,3,61,58,42,50,38,29,17,4,62,47,59,36,45,43,51,22,53,39,33,30,24,18,12,5,63,55,48,27,60,41,37,16,46,35,44,21,52,32,23,11,54,26,40,15,34,20,31,10,25,14,19,9,13,8,7,6]
theorem WY_of{W:World}{rest:List (String×DataW Unit)}(h:laidMet Tryz.prog ((Rows.loadTextRow.laid.take 3)++rest) W):WY W:=by
 have h1:=laidMet.tail h
 have h2:=laidMet.tail h1
 have tz:=Lib.tabIs_of_head (g:=3) (t:=205) (e:=5) (n:=64) (k:= .u8) (zs:=bruijnT) (by kernel_rfl) (by kernel_rfl) (by kernel_rfl) (by kernel_rfl) (by kernel_rfl) (by kernel_rfl) h1
 have tp:=Lib.tabIs_of_head (g:=0) (t:=157) (e:=71) (n:=20) (k:= .u64) (zs:=Lib.pow10Tab) (by kernel_rfl) (by kernel_rfl) (by kernel_rfl) (by kernel_rfl) (by kernel_rfl) (by kernel_rfl) h2
 refine⟨?_,World.var?_cell (by kernel_rfl) tz 15⟩
 have h3:=tp
 unfold Lib.TabIs World.var? at h3
 rw[show Tryz.prog.globalNamed _=some 0 from by kernel_rfl,Option.bind_some]at h3
 split at h3
 ·rename_i cs t fr hh
  injection h3 with h3
  exact⟨t,fr,by rw[hh,h3]⟩
 ·cases h3
end Go.Proofs.YtihbdhjibplldaaGreatDoor
namespace Go.Proofs.YtihbdhjibplldaaGreatDoor.loadDeep
open Go Go.Proofs.YtihbdhjibplldaaGreatDoor Go.ChangeShapes Go.WideShapes Go.ChangeAt Go.RowKit
theorem own:ownKnob Tryz.prog.godebug=none:=by kernel_rfl
set_option maxRecDepth 100000 in
theorem lifted(os:Os)(started:os.Started)(H:Type)(enc:TypeId×Value→H):
  ReturnsInHanded {} Tryz.checked os 6 .any (fun w args=>(Rows.loadDeepSpec.pre enc Tryz.prog Tryz.f6 Rows.loadDeepRow.domain false w args∧laidMetH Tryz.prog Rows.loadDeepRow.laid w)∧sizedMet enc Tryz.prog Tryz.f6 (OpenSpec.ofChange Rows.loadDeepSpec) false w args)
   (Rows.loadDeepSpec.post enc Tryz.prog Tryz.f6 false true false false):=by
 refine ziW (C:=Tryz.checked) (X:=laidMetH Tryz.prog Rows.loadDeepRow.laid) (fun _ _ hh h=>h.of_heap hh) own started (by kernel_rfl) Tryz.func6
  (ChangeSpec.witness_shaped (enc:=enc) (C:=Tryz.checked) (os:=os) (X:=fun w _=>laidMetH Tryz.prog Rows.loadDeepRow.laid w) false (World.laidAll Tryz.prog os Rows.loadDeepRow.laid) #[.int .u8 0,.bool false] 8 (World.laidAll_os _ _ _)
   (World.shaped_of_ZipB (by kernel_rfl) (by kernel_rfl)) (by kernel_rfl) (by kernel_rfl) (by kernel_rfl)
   (by rw[MakeChecks.laidMetH_plain _ _ _ (by kernel_rfl)];exact laidMet_laidAll _ (by kernel_rfl) (by kernel_rfl))) rfl ?_ (tb:=4) rfl rfl (by kernel_rfl) (by kernel_rfl) ?_
 ·intro ds hds
  match ds,hds with
  | [d0,d1],_=>rfl
 ·intro W base args ds p hXW hsh hval hA0 hw0
  rw[MakeChecks.laidMetH_plain _ _ _ (by kernel_rfl)]at hXW
  have hX:WX W:=WX_of (rest:=Rows.loadDeepRow.laid.drop 5) hsh hXW
  have hY:WY W:=WY_of (rest:=Rows.loadDeepRow.laid.drop 3) hXW
  have hA:DataW.TrodAll enc Tryz.prog W 0 (fun _=>true) true [5,4] args ds p:=hA0
  have hw:∀x∈DataW.weightsEach Tryz.prog [5,4] ds,x≤reachBytes:=hw0
  obtain⟨v0,vs0,d0,ds0,p0,q0,rfl,rfl,rfl,h0,r0⟩:=trodAll_cons hA
  obtain⟨v1,vs1,d1,ds1,p1,q1,rfl,rfl,rfl,h1,r1⟩:=trodAll_cons r0
  obtain⟨rfl,rfl,rfl⟩:=trodAll_nil r1
  obtain⟨x0,rfl,_,_,f0⟩:=open_int (k:= .u8) rfl (hval 0 _ _ rfl rfl) h0
  obtain⟨b0,c0⟩:=bounds_u8 f0
  obtain⟨t0,rfl⟩:∃t:Nat,x0=(t:Int):=⟨x0.toNat,by omega⟩
  replace f0:t0≤255:=by omega
  obtain⟨b1,rfl,_,_⟩:=open_bool rfl (hval 1 _ _ rfl rfl) h1
  exact zgJ hX hY t0 b1 f0
theorem over:Rows.loadDeepRow.holds Tryz.pinned (OpenSpec.ofChange Rows.loadDeepSpec):=
 OpenClaim.holds_of_wide 6 Tryz.f6 rfl rfl rfl rfl rfl rfl rfl ⟨rfl,rfl,rfl,rfl,rfl⟩ rfl rfl rfl rfl rfl (by kernel_rfl) Tryz.func6 joined
  (of_decide_eq_true (by kernel_rfl)) (by unfold Func.isWrapper;first| (rw[if_pos (by decide+kernel)];kernel_rfl)| (rw[if_neg (by decide+kernel)];exact⟨rfl,rfl⟩))
  (fun os started H enc _=>lifted os started H enc)
theorem proved:Rows.LoadDeepCardSaid:=
 Claim7.holds_tied_plain_at .later [] [.data,.data,.data,.data,.sentinel,.sentinel,.pinned,.pinned] true Rows.loadDeepCard.stood.harness true over (fun _ h=>by cases h) (by kernel_rfl) (fun _ h=>by cases h) loadDeep_row_tie rfl ⟨rfl,rfl⟩ (by kernel_rfl) rfl
  (fun f fn hf hfn=>by
   obtain rfl:f=6:=Option.some.inj ((show Tryz.prog.funcNamed Rows.loadDeepRow.func=some 6 by kernel_rfl).symm.trans hf)|>.symm
   obtain rfl:fn=Tryz.f6:=(Option.some.inj (Tryz.func6.symm.trans hfn)).symm
   exact⟨by kernel_rfl,fun j t ht=>by
    have hm:t∈ [5,4]:=by simpa using Array.mem_of_getElem? (show(#[5,4]:Array TypeId)[j]? =some t from ht)
    have hall:([5,4].all fun u=>!Tryz.prog.wantsStandIn u)=true:=by kernel_rfl
    exact(show Tryz.prog.wantsStandIn t=false by simpa using List.all_eq_true.1 hall t hm)⟩)
  (by kernel_rfl)
end Go.Proofs.YtihbdhjibplldaaGreatDoor.loadDeep
