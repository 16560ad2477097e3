/-
  Texts of a proof, joined: QI, QJ, QK, QM, QP, QU, QV, YT5, KC3, GW, HX0, ZT5.
  Conditions: none.
-/
import Derived.Test.YtihbdhjibplldaaGreatDoorQLM09
import Derived.Test.YtihbdhjibplldaaGreatDoorQLM04
import Derived.Test.YtihbdhjibplldaaGreatDoorQLM07
import Derived.Test.YtihbdhjibplldaaGreatDoorRows
import Derived.JoinedOf
import Derived.Handed
import Derived.Test.YtihbdhjibplldaaGreatDoorQLM03
import Derived.Stop.LaidErr
import Derived.Shelf.Vars
import Derived.MakeChecks
import Derived.Test.YtihbdhjibplldaaGreatDoorCards
import Derived.Test.YtihbdhjibplldaaGreatDoorTie
import Derived.Lay
import Derived.SevenTiedAt
import Derived.ChangeMaps5
set_option linter.unusedVariables false
set_option linter.unusedSimpArgs false
set_option linter.defProp false
set_option linter.unnecessarySimpa false
set_option maxHeartbeats 8000000
namespace Go.Proofs.YtihbdhjibplldaaGreatDoor
open Go
set_option maxRecDepth 10000
theorem ze5{K:Value→World→Prop}{o:Option Value}{v:Value}{w:World}{F:Prop}{m:Lck K F}(h:o=some v)(hK:K v w):optL o w K F m:=by
 subst h;rw[zfT];exact hK
def tokB:Nat→Lab→Option (List (Lab×Bool))
 |_,[]=>some []
 |0,_::_=>Option.none
 |k+1,c::s=>
  if c=32∨c=9 then tokB k s else
  if c=59 then some [] else
  if c=34 then
   match s.dropWhile (fun x=>x !=34 && x !=92) with
   |d::r=>if d=34 then(tokB k r).map (fun ws=>(s.takeWhile (fun x=>x !=34 && x !=92),true)::ws) else Option.none
   | []=>Option.none
  else if plnB c=true then
   if ((c::s).dropWhile plnB).head?.all (fun d=>stopsL.contains d)=true then(tokB k ((c::s).dropWhile plnB)).map (fun ws=>((c::s).takeWhile plnB,false)::ws) else Option.none
  else Option.none
theorem zfv{α:Type}{p:α→Bool}:∀(l:List α),∀x∈l.takeWhile p,p x=true
 | [],x,h=>by cases h
 |a::l,x,h=>by
  rw[List.takeWhile_cons]at h
  split at h
  ·rename_i ha
   rcases List.mem_cons.1 h with rfl|h
   ·exact ha
   ·exact zfv l x h
  ·cases h
theorem quot_run{q:Lab}(h:∀c∈q,(c !=34 && c !=92)=true):zfz q:=by
 induction q with
 |nil=>exact .nil
 |cons c q ih=>
  have:=h c (List.mem_cons_self ..)
  simp only[Bool.and_eq_true,bne_iff_ne]at this
  exact .one c q this.1 this.2 (ih fun x hx=>h x (List.mem_cons_of_mem _ hx))
theorem zeY:∀(k:Nat) (s:Lab) (ws:List (Lab×Bool)),tokB k s=some ws→Toks s ws
 |k,[],ws,h=>by
  have:ws=[]:=by cases k<;>(injection h with h;exact h.symm)
  rw[this];exact .nil
 |0,_::_,ws,h=>by cases h
 |k+1,c::s,ws,h=>by
  unfold tokB at h
  split at h
  ·rename_i hc;exact .blank c s ws hc (zeY k s ws h)
  split at h
  ·rename_i hc;injection h with h;rw[←h,hc];exact .semi s
  split at h
  ·rename_i hc
   subst hc
   cases hd:s.dropWhile (fun x=>x !=34 && x !=92) with
   |nil=>rw[hd]at h;cases h
   |cons d r=>
    rw[hd]at h
    simp only at h
    split at h
    ·rename_i hd34
     subst hd34
     cases ht:tokB k r with
     |none=>rw[ht]at h;cases h
     |some ws1=>
      rw[ht]at h
      injection h with h
      rw[←h]
      have e:s=s.takeWhile (fun x=>x !=34 && x !=92)++34::r:=by rw[←hd];exact List.takeWhile_append_dropWhile.symm
      have:=Toks.quot (s.takeWhile (fun x=>x !=34 && x !=92)) r ws1 (quot_run (zfv s)) (zeY k r ws1 ht)
      rw[←e]at this
      exact this
    ·cases h
  split at h
  ·rename_i hp
   split at h
   ·rename_i he
    cases ht:tokB k ((c::s).dropWhile plnB) with
    |none=>rw[ht]at h;cases h
    |some ws1=>
     rw[ht]at h
     injection h with h
     rw[←h]
     have hne:(c::s).takeWhile plnB≠ []:=by rw[List.takeWhile_cons,if_pos hp];simp
     have tk:=zdi hne (zfv (c::s))
     have:=Toks.word _ _ ws1 hne tk.b ?_ (zeY k _ ws1 ht)
     ·rw[List.takeWhile_append_dropWhile]at this;exact this
     ·cases hd:(c::s).dropWhile plnB with
      |nil=>exact .inl rfl
      |cons d r=>
       rw[hd]at he
       exact .inr ⟨d,r,rfl,List.contains_iff_mem.1 (by simpa using he)⟩
   ·cases h
  ·cases h
def lineB(x:Lab×List (Lab×Bool)):Bool:=decide (tokB (x.1.length+1) x.1=some x.2) && !x.1.contains 10 && decide (x.1.getLast?≠some 13) && decide (x.1.length≤10000)
theorem zhi{x:Lab×List (Lab×Bool)}(h:lineB x=true):Toks x.1 x.2∧zeu x.1∧x.1.length≤10000:=by
 unfold lineB at h
 simp only[Bool.and_eq_true,decide_eq_true_eq,Bool.not_eq_true']at h
 obtain⟨⟨⟨h1,h2⟩,h3⟩,h4⟩:=h
 exact⟨zeY _ _ _ h1,⟨(fun e=>by have:=List.contains_iff_mem.2 e;rw[h2]at this;cases this),h3⟩,h4⟩
theorem zfI:∀(ls:List Lab) (m:Nat),(∀l∈ls,l.length≤m)→(za0 ls).length≤ls.length*(m+1)
 | [],m,_=>by simp[za0]
 |l::ls,m,h=>by
  have ih:=zfI ls m fun x hx=>h x (List.mem_cons_of_mem _ hx)
  have:=h l (List.mem_cons_self ..)
  rw[zcM,List.length_append,List.length_cons,List.length_cons,Nat.add_mul]
  omega
theorem lnsOk{xs:List (Lab×List (Lab×Bool))}(h:∀x∈xs,Toks x.1 x.2∧zeu x.1∧x.1.length≤100000)(hl:xs.length≤1000):LnsOk xs:=by
 refine⟨fun x hx=>⟨(h x hx).1,(h x hx).2.1,by have:=(h x hx).2.2;omega⟩,?_,by omega⟩
 have:=zfI (xs.map Prod.fst) 100000 fun l hl=>by
  obtain⟨x,hx,rfl⟩:=List.mem_map.1 hl
  exact(h x hx).2.2
 rw[List.length_map]at this
 have h2:xs.length*(100000+1)≤1000*(100000+1):=Nat.mul_le_mul_right _ hl
 omega
theorem lnsB{xs:List (Lab×List (Lab×Bool))}(h:xs.all lineB=true)(hl:xs.length≤1000):LnsOk xs:=lnsOk (fun x hx=>by
 have:=zhi (List.all_eq_true.1 h x hx)
 exact⟨this.1,this.2.1,by have:=this.2.2;omega⟩) hl
def fewW(ws:List (Lab×Bool)):Bool:=decide (ws.length≤1000) && ws.all fun x=>decide (x.1.length≤10000)
theorem headR{st st':LdS}{ws:List (Lab×Bool)}{hs:List (Nat×Bool)}{e:Int}(hf:fewW ws=true)(hh:zcc 0 false false ws=hs)(hg:hs.all (fun y=>!y.2||decide ((decP 2147483647 (wdAt ws y.1)).2=0))=true)(ha:AddR st (tmH ws hs) (ws.drop hs.length) e st')(ho:st.owner.isSome=true):zj5 st ws e st':=by
 unfold fewW at hf
 simp only[Bool.and_eq_true,decide_eq_true_eq]at hf
 subst hh
 refine⟨by omega,fun x hx=>?_,fun y hy h2=>?_,ha,ho⟩
 ·have:=List.all_eq_true.1 hf.2 x hx
  have:=of_decide_eq_true this
  omega
 ·have:=List.all_eq_true.1 hg y hy
  rw[h2]at this
  simpa using this
section
variable {fl : List (Lab × Lab)} {inc : LdS → Lab → Option FltL → LdS → Prop} {st st' : LdS} {t ty : Lab} {q : Bool} {ws dw : List (Lab × Bool)} {hs : List (Nat × Bool)} {n : Nm} {d : DatL} {τ e : Int}
theorem zgN(ln:Int)(h36:[36].isPrefixOf t=false)(ht:t.length≤1000)(hn:zaI t st.origin=(n,0))(hf:fewW ws=true)(hh:zcc 0 false false ws=hs)(hg:hs.all (fun y=>!y.2||decide ((decP 2147483647 (wdAt ws y.1)).2=0))=true)
  (ha:AddR {st with line:=ln,owner:=some n} (tmH ws hs) (ws.drop hs.length) e st'):EntIs fl inc {st with line:=ln} ⟨ln,false,(t,false)::ws⟩ (fltE st' e) st':=by
 refine EntIs.rcd ln t ws e st' ?_ h36 (RecR.named t ws e st' (by omega) (by show(zaI t st.origin).2=0;rw[hn]) ?_)
 ·unfold fewW at hf
  simp only[Bool.and_eq_true,decide_eq_true_eq]at hf
  omega
 ·show zj5 {st with line:=ln,owner:=some (zaI t st.origin).1} ws e st'
  rw[hn]
  exact headR hf hh hg ha rfl
theorem zjw(ln:Int)(ho:st.owner=some n)(hf:fewW ((t,q)::ws)=true)(hh:zcc 0 false false ((t,q)::ws)=hs)(hg:hs.all (fun y=>!y.2||decide ((decP 2147483647 (wdAt ((t,q)::ws) y.1)).2=0))=true)
  (ha:AddR {st with line:=ln} (tmH ((t,q)::ws) hs) (((t,q)::ws).drop hs.length) e st'):EntIs fl inc {st with line:=ln} ⟨ln,true,(t,q)::ws⟩ (fltE st' e) st':=by
 refine EntIs.blank ln t q ws e st' ?_ (RecR.blank _ e st' (headR hf hh hg ha (by show st.owner.isSome=true;rw[ho];rfl)))
 ·unfold fewW at hf
  simp only[Bool.and_eq_true,decide_eq_true_eq,List.length_cons]at hf
  omega
theorem zcF{tm:Option Int}(ht:ty.length≤1000)(hp:(zbN ty).2=0)(hP:zdJ (zbN ty).1 dw st.origin d 0)(hout:st.out.length<4096)(ho:st.owner=some n)(hτ:orT (orT tm st.ttl) st.last=some τ):AddR st tm ((ty,false)::dw) 0 {st with last:=some τ,out:=st.out++ [⟨n,τ,d⟩]}:=
 AddR.data ty dw d 0 _ (by omega) hp hP (.inr ⟨rfl,hout,n,τ,ho,hτ,rfl⟩)
theorem add_bad{tm:Option Int}(ht:ty.length≤1000)(hp:(zbN ty).2=0)(hP:zdJ (zbN ty).1 dw st.origin d e)(he:¬e=0):AddR st tm ((ty,false)::dw) e st:=
 AddR.data ty dw d e _ (by omega) hp hP (.inl ⟨he,rfl⟩)
end
theorem prs_A{a b c d:UInt8}{s:Lab}{o:Nm}(hs:zbp hexU ⟨1,[],[],[],[a,b,c,d]⟩=s)(hw:wF false s [] false=[(s,false)]):zdJ 1 [(s,false)] o ⟨1,[],[],[],[a,b,c,d]⟩ 0:=by
 have hc:zbx ⟨1,[],[],[],[a,b,c,d]⟩=0:=by rfl
 have:=prs_back (o:=o) hc ⟨⟨(fun n h=>by cases h),Nat.zero_le _,Nat.zero_le _,(fun n h=>by cases h),Nat.zero_le _,(fun n h=>by cases h),(by show 4≤_;omega)⟩,Nat.zero_le _⟩
 rw[hs,hw]at this
 exact this
abbrev xs9a:List (Lab×List (Lab×Bool)):=[([36,84,84,76,32,54,48],[([36,84,84,76],false),([54,48],false)]),([64,32,73,78,32,65,32,49,46,50,46,51,46,52],[([64],false),([73,78],false),([65],false),([49,46,50,46,51,46,52],false)]),([36,73,78,67,76,85,68,69,32,98,32,115,117,98],[([36,73,78,67,76,85,68,69],false),([98],false),([115,117,98],false)]),([32,65,32,49,46,50,46,51,46,53],[([65],false),([49,46,50,46,51,46,53],false)]),([36,71,69,78,69,82,65,84,69,32,49,45,50,32,104,36,32,65,32,49,48,46,48,46,48,46,36],[([36,71,69,78,69,82,65,84,69],false),([49,45,50],false),([104,36],false),([65],false),([49,48,46,48,46,48,46,36],false)])]
abbrev xs9b:List (Lab×List (Lab×Bool)):=[([120,32,53,32,73,78,32,78,83,32,121],[([120],false),([53],false),([73,78],false),([78,83],false),([121],false)])]
abbrev xs9c:List (Lab×List (Lab×Bool)):=[([],[]),([64,32,65,32,49,46,50,46,51],[([64],false),([65],false),([49,46,50,46,51],false)])]
abbrev tx9a:Lab:=[36,84,84,76,32,54,48,10,64,32,73,78,32,65,32,49,46,50,46,51,46,52,10,36,73,78,67,76,85,68,69,32,98,32,115,117,98,10,32,65,32,49,46,50,46,51,46,53,10,36,71,69,78,69,82,65,84,69,32,49,45,50,32,104,36,32,65,32,49,48,46,48,46,48,46,36,10]
abbrev tx9b:Lab:=[120,32,53,32,73,78,32,78,83,32,121,10]
abbrev tx9c:Lab:=[10,64,32,65,32,49,46,50,46,51,10]
abbrev fl9:List (Lab×Lab):=[([97],tx9a),([98],tx9b)]
abbrev o9:Nm:=[[111]]
abbrev oS:Nm:=[[115,117,98],[111]]
def rc1:RecL:=⟨o9,60,⟨1,[],[],[],[1,2,3,4]⟩⟩
def rc2:RecL:=⟨[120]::oS,5,⟨2,[[121]::oS],[],[],[]⟩⟩
def rc3:RecL:=⟨o9,60,⟨1,[],[],[],[1,2,3,5]⟩⟩
def rc4:RecL:=⟨[[104,49],[111]],60,⟨1,[],[],[],[10,0,0,1]⟩⟩
def rc5:RecL:=⟨[[104,50],[111]],60,⟨1,[],[],[],[10,0,0,2]⟩⟩
theorem pA1(o:Nm):zdJ 1 [(tA4,false)] o ⟨1,[],[],[],[1,2,3,4]⟩ 0:=prs_A (by decide+kernel) (by decide+kernel)
theorem pA2(o:Nm):zdJ 1 [([49,46,50,46,51,46,53],false)] o ⟨1,[],[],[],[1,2,3,5]⟩ 0:=prs_A (by decide+kernel) (by decide+kernel)
theorem pA3(o:Nm):zdJ 1 [([49,48,46,48,46,48,46,49],false)] o ⟨1,[],[],[],[10,0,0,1]⟩ 0:=prs_A (by decide+kernel) (by decide+kernel)
theorem pA4(o:Nm):zdJ 1 [([49,48,46,48,46,48,46,50],false)] o ⟨1,[],[],[],[10,0,0,2]⟩ 0:=prs_A (by decide+kernel) (by decide+kernel)
theorem pT1:zbN [65]=(1,0):=by decide+kernel
theorem pT2:zbN [78,83]=(2,0):=by decide+kernel
theorem put9{s out nd:Lab}{n:Int}{f0:Nat}(hs:s.length≤10000)(hnd:nd.length≤100)(h0:0≤n)(h1:n≤1000000000)(hi:Lib.itoa n=nd)(hp:putN (fun _=>Option.none) nd f0 s=some (out,0)):zgp s n out:=fun w hW=>by
 refine Put_ok hW hs hnd (fun v hv=>?_) (fun i d e h=>(by cases h)) hp (.inl rfl)
 rw[←hi]
 exact zgZ hv n (by omega) (by omega)
theorem puts3{a b c a2 b2 c2:Lab}{n:Int}(h1:zgp a n a2)(h2:zgp b n b2)(h3:zgp c n c2):zjY [(a,false),(b,false),(c,false)] n [(a2,false),(b2,false),(c2,false)]:=by
 refine⟨rfl,fun i h h'=>?_,fun i h h'=>?_⟩
 ·rcases i with _|_|_|i
  ·exact h1
  ·exact h2
  ·exact h3
  ·simp at h;omega
 ·rcases i with _|_|_|i
  ·rfl
  ·rfl
  ·rfl
  ·simp at h;omega
theorem it1:Lib.itoa 1=[49]:=itoa_1
theorem it2:Lib.itoa 2=[50]:=(zhm (n:=2) (by decide)).trans rfl
theorem ps9{n:Int}{c:UInt8}(h0:0≤n)(h1:n≤1000000000)(hi:Lib.itoa n=[c])(a1:putN (fun _=>Option.none) [c] 100 [104,36]=some ([104,c],0))(a2:putN (fun _=>Option.none) [c] 100 [65]=some ([65],0))(a3:putN (fun _=>Option.none) [c] 100 [49,48,46,48,46,48,46,36]=some ([49,48,46,48,46,48,46,c],0)):
  zjY [([104,36],false),([65],false),([49,48,46,48,46,48,46,36],false)] n [([104,c],false),([65],false),([49,48,46,48,46,48,46,c],false)]:=puts3 (put9 (by decide) (Nat.le_of_ble_eq_true rfl) h0 h1 hi a1) (put9 (by decide) (Nat.le_of_ble_eq_true rfl) h0 h1 hi a2) (put9 (by decide) (Nat.le_of_ble_eq_true rfl) h0 h1 hi a3)
theorem fb9(st:LdS)(hr:st.reads.length≤900)(ho:st.origin=oS)(hx:st.out.length<4096):zcv fl9 1 st [98] Option.none {st with path:=[98],line:=1,owner:=some ([120]::oS),last:=some 5,out:=st.out++ [rc2]}:=by
 refine⟨xs9b,{st with path:=[98],line:=1,owner:=some ([120]::oS),last:=some 5,out:=st.out++ [rc2],reads:=st.reads++ [[98]]},by decide+kernel,lnsB (by decide+kernel) (by decide),by omega,?_,fun _=>⟨by simp,by simp;omega,by simp⟩,fun h=>absurd rfl h⟩
 refine EntsIs.more _ _ [] _ _ _ (by simp;omega) ?_ (.nil _)
 refine zgN (n:=[120]::oS) (hs:=[(0,true),(1,false)]) (e:=0) 1 (by decide) (by decide) (by show zaI [120] st.origin=_;rw[ho];decide+kernel) (by decide) (by decide+kernel) (by decide+kernel) ?_
 refine zcF (d:=⟨2,[[121]::oS],[],[],[]⟩) (n:=[120]::oS) (τ:=5) (by decide) (by rw[pT2]) ?_ hx rfl rfl
 rw[pT2]
 exact zhd (.inl rfl) (by show zaI [121] st.origin=_;rw[ho];decide+kernel) (by decide) (by decide)
theorem fa9:zgs fl9 [97] o9 Option.none ⟨[97],5,o9,some [[104,50],[111]],some 60,some 60,[rc1,rc2,rc3,rc4,rc5],[],1⟩:=by
 refine .inl ⟨2,xs9a,⟨[97],5,o9,some [[104,50],[111]],some 60,some 60,[rc1,rc2,rc3,rc4,rc5],[[97]],1⟩,by decide+kernel,lnsB (by decide+kernel) (by decide),by decide,?_,fun _=>⟨by decide,by decide,rfl⟩,fun h=>absurd rfl h⟩
 -- the time
 refine EntsIs.more _ ⟨1,false,[(wTtl,false),([54,48],false)]⟩ _ ⟨[97],1,o9,Option.none,some 60,Option.none,[],[[97]],0⟩ _ _ (by decide) ?_ ?_
 ·have hd:decP 2147483647 [54,48]=(60,0):=by decide+kernel
  have:=DirIs.ttl (fl:=fl9) (inc:=zcv fl9 1) (st:=⟨[97],1,o9,Option.none,Option.none,Option.none,[],[[97]],0⟩) [54,48] (by decide)
  rw[hd,if_pos rfl]at this
  exact EntIs.dir _ _ _ _ _ (by decide) this
 -- an address
 refine EntsIs.more _ ⟨2,false,[([64],false),([73,78],false),([65],false),(tA4,false)]⟩ _ ⟨[97],2,o9,some o9,some 60,some 60,[rc1],[[97]],0⟩ _ _ (by decide) ?_ ?_
 ·refine zgN (st:=⟨[97],1,o9,Option.none,some 60,Option.none,[],[[97]],0⟩) (n:=o9) (hs:=[(0,false)]) (e:=0) 2 (by decide) (by decide) (by decide+kernel) (by decide) (by decide+kernel) (by decide+kernel) ?_
  exact zcF (d:=⟨1,[],[],[],[1,2,3,4]⟩) (n:=o9) (τ:=60) (by decide) (by rw[pT1]) (by rw[pT1];exact pA1 _) (by decide) rfl rfl
 -- another file
 refine EntsIs.more _ ⟨3,false,[(wInc,false),([98],false),([115,117,98],false)]⟩ _ ⟨[97],3,o9,some o9,some 60,some 60,[rc1,rc2],[[97]],1⟩ _ _ (by decide) ?_ ?_
 ·refine EntIs.dir _ _ _ _ _ (by decide) (.incl _ _ _ ?_)
  have hn:zaI [115,117,98] o9=(oS,0):=by decide+kernel
  refine AskIs.two _ _ _ _ _ (by decide) (by show(zaI [115,117,98] o9).2=0;rw[hn]) (by show NmT (zaI [115,117,98] o9).1;rw[hn];exact⟨by decide,by decide⟩) ?_
  show IncIs fl9 (zcv fl9 1) _ _ (zaI [115,117,98] o9).1 _ _
  rw[hn]
  exact IncIs.read (fl:=fl9) (st:=⟨[97],3,o9,some o9,some 60,some 60,[rc1],[[97]],0⟩) (p:=[98]) _ _ (by decide+kernel) (by decide) (by decide) (by decide) (by decide) (fb9 ⟨[97],3,oS,some o9,some 60,some 60,[rc1],[[97]],1⟩ (by decide) rfl (by decide))
 -- an address of the same owner
 refine EntsIs.more _ ⟨4,true,[([65],false),([49,46,50,46,51,46,53],false)]⟩ _ ⟨[97],4,o9,some o9,some 60,some 60,[rc1,rc2,rc3],[[97]],1⟩ _ _ (by decide) ?_ ?_
 ·refine zjw (st:=⟨[97],3,o9,some o9,some 60,some 60,[rc1,rc2],[[97]],1⟩) (n:=o9) (hs:=[]) (e:=0) 4 rfl (by decide) (by decide+kernel) (by decide+kernel) ?_
  exact zcF (d:=⟨1,[],[],[],[1,2,3,5]⟩) (n:=o9) (τ:=60) (by decide) (by rw[pT1]) (by rw[pT1];exact pA2 _) (by decide) rfl rfl
 -- a range
 refine EntsIs.more _ ⟨5,false,[(wGen,false),([49,45,50],false),([104,36],false),([65],false),([49,48,46,48,46,48,46,36],false)]⟩ _ _ _ _ (by decide) ?_ (.nil _)
 refine EntIs.dir _ _ _ _ _ (by decide) (.gen _ _ 1 2 1 [1,2] _ (by decide+kernel) (by decide+kernel) ?_ (by decide) (by decide) (by decide) (by decide) (by decide))
 refine GenRun.more _ _ _ [104,49] false [([65],false),([49,48,46,48,46,48,46,49],false)] ⟨[97],5,o9,some [[104,49],[111]],some 60,some 60,[rc1,rc2,rc3,rc4],[[97]],1⟩ _ (ps9 (by decide) (by decide) it1 (by decide+kernel) (by decide+kernel) (by decide+kernel)) (by decide) (by decide+kernel) ?_ ?_
 ·have hn:zaI [104,49] o9=([[104,49],[111]],0):=by decide+kernel
  show AddR {(⟨[97],5,o9,some o9,some 60,some 60,[rc1,rc2,rc3],[[97]],1⟩:LdS) with owner:=some (zaI [104,49] o9).1} _ _ _ _
  rw[hn]
  exact zcF (d:=⟨1,[],[],[],[10,0,0,1]⟩) (n:=[[104,49],[111]]) (τ:=60) (by decide) (by rw[pT1]) (by rw[pT1];exact pA3 _) (by decide) rfl rfl
 refine GenRun.more _ _ _ [104,50] false [([65],false),([49,48,46,48,46,48,46,50],false)] _ _ (ps9 (by decide) (by decide) it2 (by decide+kernel) (by decide+kernel) (by decide+kernel)) (by decide) (by decide+kernel) ?_ (.done _)
 have hn:zaI [104,50] o9=([[104,50],[111]],0):=by decide+kernel
 show AddR {(⟨[97],5,o9,some [[104,49],[111]],some 60,some 60,[rc1,rc2,rc3,rc4],[[97]],1⟩:LdS) with owner:=some (zaI [104,50] o9).1} _ _ _ _
 rw[hn]
 exact zcF (d:=⟨1,[],[],[],[10,0,0,2]⟩) (n:=[[104,50],[111]]) (τ:=60) (by decide) (by rw[pT1]) (by rw[pT1];exact pA4 _) (by decide) rfl rfl
theorem fc9:zgs fl9 [99] [] (some ⟨[99],0,4⟩) (ld0 []):= .inr ⟨by decide+kernel,rfl,rfl⟩
abbrev fl9c:List (Lab×Lab):=[([97],tx9c)]
theorem fd9:zgs fl9c [97] [] (some ⟨[97],2,2⟩) ⟨[97],2,[],some [],Option.none,Option.none,[],[[97]],0⟩:=by
 refine .inl ⟨1,xs9c,⟨[97],2,[],some [],Option.none,Option.none,[],[[97]],0⟩,by decide+kernel,lnsB (by decide+kernel) (by decide),by decide,?_,(fun h=>by cases h),fun _=>rfl⟩
 refine EntsIs.flt _ ⟨2,false,[([64],false),([65],false),(tA3,false)]⟩ [] _ _ (by decide) ?_
 have:=zgN (fl:=fl9c) (inc:=zcv fl9c 0) (st:=⟨[97],0,[],Option.none,Option.none,Option.none,[],[[97]],0⟩) (t:=[64]) (ws:=[([65],false),(tA3,false)]) (st':=⟨[97],2,[],some [],Option.none,Option.none,[],[[97]],0⟩) (n:=[]) (hs:=[]) (e:=2) 2 (by decide) (by decide) (by decide+kernel) (by decide) (by decide+kernel) (by decide+kernel) (add_bad (d:=⟨1,[],[],[],[]⟩) (by decide) (by rw[pT1]) (by rw[pT1];exact prs_A3 _ _) (by decide))
 exact this
set_option maxRecDepth 100000
theorem k9a:recT rc2=[120,46,115,117,98,46,111,46,32,53,32,73,78,32,78,83,32,121,46,115,117,98,46,111,46]:=by decide+kernel
theorem k9b:recT rc3=[111,46,32,54,48,32,73,78,32,65,32,49,46,50,46,51,46,53]:=by decide+kernel
theorem k9c:recT rc5=[104,50,46,111,46,32,54,48,32,73,78,32,65,32,49,48,46,48,46,48,46,50]:=by decide+kernel
theorem rc2_T:RecT rc2:=⟨by decide,by decide,by decide,⟨⟨by decide,by decide,by decide,by decide,by decide,by decide,by decide⟩,by decide⟩⟩
theorem rc3_T:RecT rc3:=⟨by decide,by decide,by decide,⟨⟨by decide,by decide,by decide,by decide,by decide,by decide,by decide⟩,by decide⟩⟩
theorem rc5_T:RecT rc5:=⟨by decide,by decide,by decide,⟨⟨by decide,by decide,by decide,by decide,by decide,by decide,by decide⟩,by decide⟩⟩
theorem zjr{w:World}{b:Nat}{a1 a2 b1 b2:Lab}{T:TypeId}{fr:Nat×Nat}(h:w.heap[b]? =some (.cells #[vs a1,vs a2,vs b1,vs b2] T fr)):Rows 2 zdy w (.slice (some ⟨b,0,Option.none⟩) [(a1,a2),(b1,b2)].length 2) [(a1,a2),(b1,b2)]:=by
 refine Rows.close (Nat.le_refl _) (fun i hi=>?_)
 have hi2:i=0∨i=1:=by
  have h2:i<2:=hi
  omega
 rcases hi2 with rfl|rfl
 ·exact⟨_,by rw[zaZ];exact zau h (Nat.le_of_ble_eq_true rfl),rfl⟩
 ·exact⟨_,by rw[zaZ];exact zau h (Nat.le_of_ble_eq_true rfl),rfl⟩
theorem zga{w:World}{b:Nat}{a1 a2:Lab}{T:TypeId}{fr:Nat×Nat}(h:w.heap[b]? =some (.cells #[vs a1,vs a2] T fr)):Rows 2 zdy w (.slice (some ⟨b,0,Option.none⟩) [(a1,a2)].length 1) [(a1,a2)]:=by
 refine Rows.close (Nat.le_refl _) (fun i hi=>?_)
 have hi2:i=0:=by
  have h2:i<1:=hi
  omega
 subst hi2
 exact⟨_,by rw[zaZ];exact zau h (Nat.le_of_ble_eq_true rfl),rfl⟩
theorem zj3{w0:World}(hX:WX w0)(hY:WY w0):Fn Tryz.prog 8 #[] w0 (fun v w'=>v= .bool true∧Ext w0 w'):=by
 refine enter Tryz.func8 Tryz.ntmps8 rfl rfl ?_
 refine go trivial ?_
 refine rq ?_;intro gd K hgd hK
 try simp only[go_sem]
 refine⟨by kernel_rfl,?_⟩
 refine ze5 (v:= .agg #[vs [97],vs tx9a]) (by kernel_rfl) ?_
 try simp only[go_sem]
 refine⟨by kernel_rfl,?_⟩
 refine ze5 (v:= .agg #[vs [98],vs tx9b]) (by kernel_rfl) ?_
 try simp only[go_sem]
 refine zjK (e:=48) (arr:=#[vs [97],vs tx9a,vs [98],vs tx9b]) (by kernel_rfl) ?_
 intro w1 e1 s1 b1
 try simp only[go_sem]
 refine hK _ _ ?_;clear hK hgd;clear K;try clear gd
 have hf1:=zjr b1
 obtain⟨c1,hc1⟩:∃c,w0.heap.size=c:=⟨_,rfl⟩
 rw[hc1]at hf1 ⊢
 refine go trivial ?_
 refine rq ?_;intro gd K hgd hK
 try simp only[go_sem]
 refine zft (z:=vs []) (l:=[vs [111]]) rfl rfl rfl rfl rfl rfl (fun v hv=>by simp at hv;rcases hv with rfl;rfl) (by simp) ?_
 intro w2 e2 s2 o2
 have e02:=e1.trans e2
 try simp only[go_sem]
 refine Fn.mono (zfA (o:=o9) (hX.ext e02) (hf1.ext e2) (by decide) o2.row ⟨by decide,by decide⟩ fa9) ?_
 rintro _ w3 ⟨e3,rv,rfl,hR⟩
 try simp only[go_sem]
 refine hK _ _ ?_;clear hK hgd;clear K;try clear gd
 have e03:=e02.trans e3
 obtain⟨L,hR1,hR2,hR3⟩:=hR
 refine go trivial ?_
 refine rq ?_;intro gd K hgd hK
 try simp only[go_sem]
 refine Fn.mono (zfA (o:=[]) (hX.ext e03) (hf1.ext (e2.trans e3)) (by decide) (zgG _) ⟨by decide,by decide⟩ fc9) ?_
 rintro _ w4 ⟨e4,p4,rfl,hp4⟩
 try simp only[go_sem]
 refine hK _ _ ?_;clear hK hgd;clear K;try clear gd
 have e04:=e03.trans e4
 refine go trivial ?_
 refine rq ?_;intro gd K hgd hK
 try simp only[go_sem]
 refine⟨by kernel_rfl,?_⟩
 refine ze5 (v:= .agg #[vs [97],vs tx9c]) (by kernel_rfl) ?_
 try simp only[go_sem]
 refine zjK (e:=48) (arr:=#[vs [97],vs tx9c]) (by kernel_rfl) ?_
 intro w5 e5 s5 b5
 have hf5:=zga b5
 try simp only[go_sem]
 refine Fn.mono (zfA (o:=[]) (hX.ext (e04.trans e5)) hf5 (by decide) (zgG _) ⟨by decide,by decide⟩ fd9) ?_
 rintro _ w6 ⟨e6,p6,rfl,hp6⟩
 try simp only[go_sem]
 refine hK _ _ ?_;clear hK hgd;clear K;try clear gd
 have e06:=(e04.trans e5).trans e6
 obtain⟨ra,rcap,rfl,hrc⟩:∃ra rcap,rv= .slice ra 5 rcap∧True:=by
  obtain⟨a,c,h,_⟩:=hR1
  rw[hR2]at h
  exact⟨a,c,h,trivial⟩
 have e36:=(e4.trans e5).trans e6
 have hrows:Rows 7 (RecAt w6) w6 (.slice ra 5 rcap) [rc1,rc2,rc3,rc4,rc5]:=(Rows.ext ⟨L,hR1,hR2,hR3⟩ e36).to fun cs a h=>h.ext e36
 obtain⟨_,_,hg⟩:=zch hrows
 obtain⟨cs1,g1,r1⟩:=hg 1 (by decide)
 obtain⟨cs2,g2,r2⟩:=hg 2 (by decide)
 obtain⟨cs4,g4,r4⟩:=hg 4 (by decide)
 obtain⟨xa,rfl⟩:=Option.isSome_iff_exists.1 (zaO g1)
 refine go trivial ?_
 have d5:decide (((5:Nat):Int)=5)=true:=rfl
 refine rgg [(2,32),(7,37),(11,41)] (an2 d5 trivial) ?_
 refine go trivial ?_
 refine rc trivial (zfD (hf1.ext (e2.trans (e3.trans e36))) (by decide) [98]) ?_
 rintro _ w7 ⟨rfl,e7⟩
 rw[show zb6 [98] fl9=(tx9b,true) from by decide+kernel]
 refine rgo trivial ?_
 have g1:=zaj e7 g1
 have g2:=zaj e7 g2
 have g4:=zaj e7 g4
 obtain⟨x1,hx1⟩:∃x,adr (some xa) (1*7)=some x:=⟨_,rfl⟩
 obtain⟨x2,hx2⟩:∃x,adr (some xa) (2*7)=some x:=⟨_,rfl⟩
 obtain⟨x4,hx4⟩:∃x,adr (some xa) (4*7)=some x:=⟨_,rfl⟩
 rw[hx1]at g1
 rw[hx2]at g2
 rw[hx4]at g4
 have z1:(0:Int)≤1:=by decide
 have z2:(0:Int)≤2:=by decide
 have z4:(0:Int)≤4:=by decide
 have l1:(1:Int)<5:=by decide
 have l2:(2:Int)<5:=by decide
 have l4:(4:Int)<5:=by decide
 have t1:(1:Int).toNat=1:=rfl
 have t2:(2:Int).toNat=2:=rfl
 have t4:(4:Int).toNat=4:=rfl
 have hY7:=hY.ext (e06.trans e7)
 refine rq ?_;intro gd K hgd hK
 have hg5:∀n σ b,zaJ gd n σ (some (5,b))=zat (ev n σ (.tmp 55)) b:=(fun n σ b=>by rw[zag,show gd 5=some 55 from(by rw[hgd];rfl)];rfl);have hg12:∀n σ b,zaJ gd n σ (some (12,b))=zat (ev n σ (.tmp 62)) b:=(fun n σ b=>by rw[zag,show gd 12=some 62 from(by rw[hgd];rfl)];rfl);have hg19:∀n σ b,zaJ gd n σ (some (19,b))=zat (ev n σ (.tmp 69)) b:=(fun n σ b=>by rw[zag,show gd 19=some 69 from(by rw[hgd];rfl)];rfl);have hg26:∀n σ b,zaJ gd n σ (some (26,b))=zat (ev n σ (.tmp 76)) b:=(fun n σ b=>by rw[zag,show gd 26=some 76 from(by rw[hgd];rfl)];rfl);have hg33:∀n σ b,zaJ gd n σ (some (33,b))=zat (ev n σ (.tmp 83)) b:=(fun n σ b=>by rw[zag,show gd 33=some 83 from(by rw[hgd];rfl)];rfl);have hg38:∀n σ b,zaJ gd n σ (some (38,b))=zat (ev n σ (.tmp 88)) b:=(fun n σ b=>by rw[zag,show gd 38=some 88 from(by rw[hgd];rfl)];rfl);have hg41:∀n σ b,zaJ gd n σ (some (41,b))=zat (ev n σ (.tmp 91)) b:=(fun n σ b=>by rw[zag,show gd 41=some 91 from(by rw[hgd];rfl)];rfl)
 try simp (disch:=first|omega|assumption|rfl) only[go_sem,z1,l1,t1,hx1,g1,↓hg5,↓hg12,↓hg19,↓hg26,↓hg33,↓hg38,↓hg41]
 refine Fn.mono (zdl (r:=rc2) hY7 (r1.ext e7) rc2_T) ?_
 rintro _ w8 ⟨rfl,e8⟩
 rw[k9a]
 have d1:decide (([120,46,115,117,98,46,111,46,32,53,32,73,78,32,78,83,32,121,46,115,117,98,46,111,46]:Lab)=[120,46,115,117,98,46,111,46,32,53,32,73,78,32,78,83,32,121,46,115,117,98,46,111,46])=true:=decide_eq_true rfl
 have g2:=zaj e8 g2
 try simp (disch:=first|omega|assumption|rfl) only[go_sem,d1,z2,l2,t2,hx2,g2,↓hg5,↓hg12,↓hg19,↓hg26,↓hg33,↓hg38,↓hg41]
 refine Fn.mono (zdl (r:=rc3) (hY7.ext e8) ((r2.ext e7).ext e8) rc3_T) ?_
 rintro _ w9 ⟨rfl,e9⟩
 rw[k9b]
 have d2:decide (([111,46,32,54,48,32,73,78,32,65,32,49,46,50,46,51,46,53]:Lab)=[111,46,32,54,48,32,73,78,32,65,32,49,46,50,46,51,46,53])=true:=decide_eq_true rfl
 have g4:=zaj (e8.trans e9) g4
 try simp (disch:=first|omega|assumption|rfl) only[go_sem,d2,z4,l4,t4,hx4,g4,↓hg5,↓hg12,↓hg19,↓hg26,↓hg33,↓hg38,↓hg41]
 refine Fn.mono (zdl (r:=rc5) (hY7.ext (e8.trans e9)) ((r4.ext e7).ext (e8.trans e9)) rc5_T) ?_
 rintro _ y1 ⟨rfl,f1⟩
 rw[k9c]
 have d3:decide (([104,50,46,111,46,32,54,48,32,73,78,32,65,32,49,48,46,48,46,48,46,50]:Lab)=[104,50,46,111,46,32,54,48,32,73,78,32,65,32,49,48,46,48,46,48,46,50])=true:=decide_eq_true rfl
 have e71:=(e8.trans e9).trans f1
 have k1:zad y1 (some ⟨p4,1,Option.none⟩)=some (vi 0):=zaa (Ext.at (((e5.trans e6).trans e7).trans e71) hp4) rfl
 have k2:zad y1 (some ⟨p4,2,Option.none⟩)=some (vi 4):=zaa (Ext.at (((e5.trans e6).trans e7).trans e71) hp4) rfl
 try simp (disch:=first|omega|assumption|rfl) only[go_sem,d3,k1,k2,Nat.zero_add,↓hg5,↓hg12,↓hg19,↓hg26,↓hg33,↓hg38,↓hg41]
 refine Fn.mono (zfE ((hX.ext (e06.trans e7)).ext e71) (Ext.at (e7.trans e71) hp6) (by decide) (by decide) (by decide)) ?_
 rintro _ y2 ⟨rfl,f2⟩
 rw[show ([97]++ [58]++Lib.itoa 2++ [58,32]++ [102,111,114,109]:Lab)=[97,58,50,58,32,102,111,114,109] from by rw[it2];rfl]
 have d4:decide (([97,58,50,58,32,102,111,114,109]:Lab)=[97,58,50,58,32,102,111,114,109])=true:=decide_eq_true rfl
 try simp (disch:=first|omega|assumption|rfl) only[go_sem,d4,↓hg5,↓hg12,↓hg19,↓hg26,↓hg33,↓hg38,↓hg41]
 refine hK _ _ ?_;clear hK hgd;clear K;try clear gd
 refine go trivial ?_
 refine rt0 Tryz.ntmps8 ?_
 exact⟨rfl,(e06.trans e7).trans (e71.trans f2)⟩
set_option maxRecDepth 10000
section
variable {fl : List (Lab × Lab)} {inc : LdS → Lab → Option FltL → LdS → Prop}
end
abbrev lnT:Lab:=[36,84,84,76,32,53]
theorem WX.wy{w:World}(h:WX w):WY w:=⟨h.p10,h.tv⟩
theorem zj9{w:World}(hW:WY w){n:Nat}(hn:n<65536):Fn Tryz.prog 173 #[vi n,vi 16] w (fun v w'=>v=vs (hexU n)∧Ext w w'):=by
 have d1:decide ((16:Int)=10)=false:=rfl
 have d2:decide ((n:Int)<0)=false:=decide_eq_false (by omega)
 have hw:IntKind.u64.wrap (n:Int)=(n:Int):=zcV (by omega) (by omega)
 have inner:Fn Tryz.prog 88 #[vi n,vi 16] w (fun v w'=>v=vs (hexU n)∧Ext w w'):=by
  refine enter Tryz.func88 Tryz.ntmps88 rfl rfl ?_
  refine go d1 ?_
  refine rc (an2 d2 hw) (zjM hW hn) ?_
  rintro _ w1 ⟨⟨l,rfl⟩,hE1⟩
  refine rgo trivial ?_
  refine rt0 Tryz.ntmps88 ?_
  exact⟨rfl,hE1⟩
 refine enter Tryz.func173 Tryz.ntmps173 rfl rfl ?_
 refine go trivial ?_
 refine rc trivial inner ?_
 rintro _ w1 ⟨rfl,hE1⟩
 refine rgo trivial ?_
 refine rt0 Tryz.ntmps173 ?_
 exact⟨rfl,hE1⟩
def padX(m:Nat):Lab:=List.replicate (5 - (hexU m).length) 48++hexU m
def xN(m:Nat):Lab:=120::padX m
def hN(m:Nat):Lab:=104::Lib.decDigits m
abbrev sX:Lab:=[120,36,123,49,44,53,44,120,125,46,121,46]
abbrev sB:Lab:=[49,44,53,44,120]
def brX(m:Nat)(i:Lab):Option (Lab×Int):=if i=sB then some (padX m,0) else Option.none
theorem splX:Spl sB [[49],[53],[120]]:=⟨by kernel_rfl,by kernel_rfl⟩
theorem zho{m:Nat}(h:m<65536):(hexU m).length≤4:=zdc 3 m (by omega)
theorem zdP{m:Nat}(h:m<65536):(padX m).length=5:=by
 have:=zho h
 unfold padX
 rw[List.length_append,List.length_replicate];omega
theorem brX_ok{n:Nat}(hn:n<60000)(i d:Lab)(e:Int)(h:brX (n+1) i=some (d,e)):d.length≤100∧∀v,WX v→Fn Tryz.prog 147 #[vs i,vi n] v (fun u v'=>u= .tuple #[vs d,vi e]∧Ext v v'):=by
 unfold brX at h
 split at h
 ·rename_i hi
  injection h with h
  injection h with h1 h2
  subst hi h1 h2
  have hl:=zdP (m:=n+1) (by omega)
  have hx:=zho (m:=n+1) (by omega)
  refine⟨by omega,fun v hW=>Fn.mono (zjL (a:=[49]) (b:=[53]) (c:=[120]) (D:=hexU (n+1)) (o:=1) (k:=16) (wd:=5) hW (by decide) splX (by decide+kernel) (by decide+kernel) (by decide) (by decide) (.inr (.inl ⟨rfl,rfl⟩)) (fun _=>⟨by omega,by omega,by omega,fun w' hW'=>?_⟩)) fun u v' ⟨h1,h2⟩=>⟨by rw[h1];rfl,h2⟩⟩
  rw[show (n:Int)+1=((n+1:Nat):Int) by push_cast;rfl]
  exact zj9 hW'.wy (by omega)
 ·cases h
theorem put_x{n:Nat}(hn:n<60000):zgp sX n (xN (n+1)++ [46,121,46]):=fun w hW=>by
 have hd:=zaQ 19 n (by omega)
 refine Put_ok (br:=brX (n+1)) (nd:=Lib.decDigits n) (f0:=100) hW (by decide) (by omega) (fun v hv=>?_) (brX_ok hn) ?_ (.inl rfl)
 ·rw[←zda];exact zgZ hv n (by omega) (by omega)
 ·obtain⟨D,hD⟩:∃D,padX (n+1)=D:=⟨_,rfl⟩
  unfold xN brX
  rw[hD]
  rfl
theorem put_h{n:Nat}(hn:n<60000):zgp [104,36] n (hN n):=by
 have hd:=zaQ 19 n (by omega)
 refine put9 (nd:=Lib.decDigits n) (f0:=100) (by decide) (by omega) (by omega) (by omega) (zda n) ?_
 show some (([104]:Lab)++(Lib.decDigits n++ []),(0:Int))=_
 rw[List.append_nil];rfl
theorem put_p{n:Nat}(hn:n<60000):zgp [80,84,82] n [80,84,82]:=by
 have hd:=zaQ 19 n (by omega)
 exact put9 (nd:=Lib.decDigits n) (f0:=100) (by decide) (by omega) (by omega) (by omega) (zda n) rfl
def plL(c:UInt8):Bool:=decide (labB c=[c])
theorem zdn:∀{l:Lab},(∀c∈l,plL c=true)→zas l=l
 | [],_=>rfl
 |c::l,h=>by
  have h1:labB c=[c]:=of_decide_eq_true (h c (List.mem_cons_self ..))
  have ih:=zdn (l:=l) fun x hx=>h x (List.mem_cons_of_mem _ hx)
  unfold zas at ih ⊢
  rw[List.flatMap_cons,h1,ih];rfl
theorem dig_plL{c:UInt8}(h:digB c=true):plL c=true:=zdv (P:=fun c=>digB c=true→plL c=true) (by decide+kernel) c h
theorem hex_plL{j:Nat}(h:j<16):plL (hexD j)=true:=by
 have:∀j:Fin 16,plL (hexD j.val)=true:=by decide+kernel
 exact this ⟨j,h⟩
theorem hN_plain(m:Nat):∀c∈hN m,plL c=true:=fun c hc=>by
 rcases List.mem_cons.1 hc with rfl|hc
 ·decide
 ·exact dig_plL (zbC m c hc)
theorem xN_plain(m:Nat):∀c∈xN m,plL c=true:=fun c hc=>by
 rcases List.mem_cons.1 hc with rfl|hc
 ·decide
 ·unfold padX at hc
  rcases List.mem_append.1 hc with hc|hc
  ·rw[List.eq_of_mem_replicate hc];decide
  ·obtain⟨j,hj,rfl⟩:=zfk _ _ (Nat.le_refl _) c hc
   exact hex_plL hj
theorem errL_0{l:Lab}(h0:l≠ [])(h1:l.length≤63):errL l=0:=by unfold errL;rw[if_neg h0,if_neg (by omega)]
theorem name_lab{l:Lab}(hp:∀c∈l,plL c=true)(h0:l≠ [])(h1:l.length≤63)(h64:l≠ [64])(h46:l≠ [46]):zaI l []=([l],0):=by
 have ht:=zdn hp
 have he:=errL_0 h0 h1
 have hs:=spl_join l []
 rw[List.map_singleton,zc9,ht]at hs
 have hpa:=zfS [l] [] true (fun x hx=>by rw[List.mem_singleton.1 hx];exact he)
 rw[List.map_singleton,ht]at hpa
 have hps:zbl l=([l],false,0):=by
  unfold zbl
  rw[hs,if_neg (by simp)]
  exact hpa
 have hck:zaX [l]=0:=zgj (fun x hx=>by rw[List.mem_singleton.1 hx];exact he) (by simp[lenN];omega)
 unfold zaI
 rw[if_neg h64,if_neg h46,if_neg h0,hps]
 simp[hck]
theorem name_x2{m:Nat}(hm:m<65536):zaI (xN m++ [46,121,46]) []=([xN m,[121]],0):=by
 have hl:(xN m).length=6:=by unfold xN;rw[List.length_cons,zdP hm]
 have hck:zaX [xN m,[121]]=0:=zgj (fun x hx=>by
  simp only[List.mem_cons,List.not_mem_nil,or_false]at hx
  rcases hx with rfl|rfl
  ·exact errL_0 (by unfold xN;simp) (by omega)
  ·decide) (by simp[lenN];omega)
 have ht:za7 [xN m,[121]]=xN m++ [46,121,46]:=by
  unfold za7
  rw[if_neg (by simp),List.flatMap_cons,List.flatMap_cons,zdn (xN_plain m),List.flatMap_nil]
  show(xN m++ [46])++_=_
  rw[List.append_assoc];rfl
 rw[←ht]
 exact zc7 hck
def recM(m:Nat):RecL:=⟨[hN m],5,⟨12,[[xN (m+1),[121]]],[],[],[]⟩⟩
abbrev wsM:List (Lab×Bool):=[([104,36],false),([80,84,82],false),(sX,false)]
theorem pTP:zbN [80,84,82]=(12,0):=by decide+kernel
theorem zg9:∀(l:List Nat) (st:LdS),(∀n∈l,n<60000)→st.origin=[]→st.ttl=some 5→st.out.length+l.length≤4096→∃st',GenRun wsM st (l.map fun n:Nat=>(n:Int)) st'∧st'.out=st.out++l.map recM∧st'.reads=st.reads
 | [],st,_,_,_,_=>⟨st,.done st,by simp,rfl⟩
 |n::l,st,hn,ho,ht,hl=>by
  have hn0:=hn n (List.mem_cons_self ..)
  have hd:=zaQ 19 n (by omega)
  have hnl:(hN n).length≤21:=by unfold hN;rw[List.length_cons];omega
  have hnm:zaI (hN n) st.origin=([hN n],0):=by rw[ho];exact name_lab (hN_plain n) (by unfold hN;simp) (by omega) (by unfold hN;simp) (by unfold hN;simp)
  obtain⟨st',h1,h2,h3⟩:=zg9 l {st with owner:=some [hN n],last:=some 5,out:=st.out++ [recM n]} (fun x hx=>hn x (List.mem_cons_of_mem _ hx)) ho ht (by show(st.out++ [recM n]).length+l.length≤4096;rw[List.length_append];rw[List.length_cons]at hl;show _+1+_≤_;omega)
  refine⟨st',GenRun.more st n _ (hN n) false [([80,84,82],false),(xN (n+1)++ [46,121,46],false)] {st with owner:=some [hN n],last:=some 5,out:=st.out++ [recM n]} st' (puts3 (put_h hn0) (put_p hn0) (put_x hn0)) (by omega) (by rw[hnm]) ?_ h1,?_,h3⟩
  ·rw[hnm]
   have hx2:=name_x2 (m:=n+1) (by omega)
   refine zcF (d:=⟨12,[[xN (n+1),[121]]],[],[],[]⟩) (n:=[hN n]) (τ:=5) (by decide) (by rw[pTP]) ?_ (by show st.out.length<4096;rw[List.length_cons]at hl;omega) rfl (by show orT (orT Option.none st.ttl) st.last=some 5;rw[ht];rfl)
   rw[pTP]
   refine zhd (.inr (.inr (.inl rfl))) (by show zaI _ st.origin=_;rw[ho];exact hx2) ?_ (by unfold xN;simp)
   rw[List.length_append]
   unfold xN
   rw[List.length_cons,zdP (by omega)]
   decide
  ·rw[h2];simp
def rgT(f t d:Nat):Lab:=Lib.decDigits f++45::(Lib.decDigits t++47::Lib.decDigits d)
def lnG(f t d:Nat):Lab:=wGen++([32]++(rgT f t d++([32]++([104,36]++([32]++([80,84,82]++([32]++sX)))))))
theorem rg_tkb(f t d:Nat):TkB (rgT f t d):=zdi (by unfold rgT;simp) fun c hc=>by
 unfold rgT at hc
 rcases List.mem_append.1 hc with h|h
 ·exact zgR (zbC f c h)
 rcases List.mem_cons.1 h with rfl|h
 ·decide
 rcases List.mem_append.1 h with h|h
 ·exact zgR (zbC t c h)
 rcases List.mem_cons.1 h with rfl|h
 ·decide
 ·exact zgR (zbC d c h)
theorem lnG_ok{f t d:Nat}(hf:f≤100000)(ht:t≤100000)(hd:d≤100000):Toks (lnG f t d) ((wGen,false)::(rgT f t d,false)::wsM)∧zeu (lnG f t d)∧(lnG f t d).length≤10000∧(rgT f t d).length≤1000:=by
 have b1:TkB wGen:=zdi (by decide) (by decide)
 have b2:TkB ([104,36]:Lab):=zdi (by decide) (by decide)
 have b3:TkB ([80,84,82]:Lab):=zdi (by decide) (by decide)
 have b4:TkB sX:=zdi (by decide) (by decide)
 have br:=rg_tkb f t d
 have p32:Prn [32]:=by unfold Prn;decide
 have l1:=zaQ 19 f (by omega)
 have l2:=zaQ 19 t (by omega)
 have l3:=zaQ 19 d (by omega)
 have lr:(rgT f t d).length≤1000:=by unfold rgT;simp only[List.length_append,List.length_cons];omega
 refine⟨zcZ b1 (zcZ br (zcZ b2 (zcZ b3 (zis b4)))),prn_line (b1.p.app (p32.app (br.p.app (p32.app (b2.p.app (p32.app (b3.p.app (p32.app b4.p)))))))),?_,lr⟩
 unfold lnG
 simp only[List.length_append,List.length_cons,List.length_nil]
 omega
def txM(f t d:Nat):Lab:=za0 [lnT,lnG f t d]
theorem zi7{f k d:Nat}(hf:f≤255)(hk0:1≤k)(hk:k≤60)(hd0:1≤d)(hd:d≤5):∃st',zgs [([97],txM f (f+(k - 1)*d) d)] [97] [] Option.none st'∧st'.out=(List.range k).map fun i=>recM (f+i*d):=by
 obtain⟨t,ht⟩:∃t,f+(k - 1)*d=t:=⟨_,rfl⟩
 have hkd:(k - 1)*d≤59*5:=Nat.mul_le_mul (by omega) hd
 have htl:t≤555:=by omega
 rw[ht]
 obtain⟨g1,g2,g3,g4⟩:=lnG_ok (f:=f) (t:=t) (d:=d) (by omega) (by omega) (by omega)
 have hq:(t - f) / d=k - 1:=by
  rw[←ht,Nat.add_sub_cancel_left,Nat.mul_div_cancel _ (by omega)]
 have hnum:numI (f:Int) (t:Int) (d:Int)=((List.range k).map fun i=>((f+i*d:Nat):Int),0):=by
  unfold numI
  rw[if_neg (by rw[Bool.not_eq_false,zeF];omega)]
  have hdv:((t:Int) - (f:Int)) / (d:Int)=((k - 1:Nat):Int):=by
   rw[←hq,Int.natCast_ediv];congr 1;omega
  rw[hdv,if_neg (by omega)]
  refine Prod.ext ?_ rfl
  show zbV _ _ _=_
  simp only[Int.toNat_natCast]
  refine List.ext_getElem (by rw[zc6,hq,List.length_map,List.length_range];omega) fun i h1 h2=>?_
  rw[zf1,List.getElem_map,List.getElem_range]
 have hd5:decP 2147483647 [53]=(5,0):=by decide+kernel
 obtain⟨st',r1,r2,r3⟩:=zg9 ((List.range k).map fun i=>f+i*d) ⟨[97],2,[],Option.none,some 5,Option.none,[],[[97]],0⟩ (fun n hn=>by
  obtain⟨i,hi,rfl⟩:=List.mem_map.1 hn
  have:=List.mem_range.1 hi
  have:i*d≤60*5:=Nat.mul_le_mul (by omega) hd
  omega) rfl rfl (by rw[List.length_map,List.length_range];show 0+k≤_;omega)
 rw[List.map_map]at r1 r2
 have hbl:zeP (lnG f t d)=false:=rfl
 refine⟨{st' with reads:=st'.reads.dropLast},.inl ⟨1,[(lnT,[(wTtl,false),([53],false)]),(lnG f t d,(wGen,false)::(rgT f t d,false)::wsM)],st',?_,lnsOk (fun x hx=>?_) (Nat.le_of_ble_eq_true rfl),by decide,?_,fun _=>⟨by rw[r3];decide,by rw[r3];decide,rfl⟩,fun h=>absurd rfl h⟩,?_⟩
 ·simp[zb6,txM]
 ·simp only[List.mem_cons,List.not_mem_nil,or_false]at hx
  rcases hx with rfl|rfl
  ·have:=zhi (x:=(lnT,[(wTtl,false),([53],false)])) (by decide+kernel)
   exact⟨this.1,this.2.1,by have:=this.2.2;omega⟩
  ·exact⟨g1,g2,by show(lnG f t d).length≤_;omega⟩
 ·have e1:entF 1 [(lnT,[(wTtl,false),([53],false)]),(lnG f t d,(wGen,false)::(rgT f t d,false)::wsM)]=[⟨1,false,[(wTtl,false),([53],false)]⟩,⟨2,false,(wGen,false)::(rgT f t d,false)::wsM⟩]:=by
   rw[entF,entF,entF]
   rfl
  rw[e1]
  refine EntsIs.more _ _ _ ⟨[97],1,[],Option.none,some 5,Option.none,[],[[97]],0⟩ _ _ (by decide) ?_ (EntsIs.more _ _ [] _ _ _ (by decide) (EntIs.dir _ _ _ _ _ (by decide) (.gen _ _ f t d _ _ (zhL (by omega) (by show t≤2147483647;omega) hd0 (by show d≤2147483647;omega)) hnum r1 (by omega) (by decide) (by decide) (by decide) (by omega))) (.nil _))
  have:=DirIs.ttl (fl:=[([97],txM f t d)]) (inc:=zcv [([97],txM f t d)] 0) (st:=⟨[97],1,[],Option.none,Option.none,Option.none,[],[[97]],0⟩) [53] (by decide)
  rw[hd5,if_pos rfl]at this
  exact EntIs.dir _ _ _ _ _ (by decide) this
 ·show st'.out=_
  rw[r2];rfl
abbrev preM:Lab:=[36,84,84,76,32,53,10,36,71,69,78,69,82,65,84,69,32]
abbrev sufM:Lab:=[32,104,36,32,80,84,82,32,120,36,123,49,44,53,44,120,125,46,121,46,10]
theorem txM_eq(f t d:Nat):txM f t d=preM++Lib.decDigits f++ [45]++Lib.decDigits t++ [47]++Lib.decDigits d++sufM:=by
 unfold txM lnG rgT
 simp[za0]
theorem made_at{w:World}{cs:List Value}{m:Nat}(h:RecAt w cs (recM m)):∃ox oc np nc nq nqc,∃na2 na3 na4:Value,cs=[.slice (some ox) 1 oc,v32 5,vi 12,.slice (some np) 1 nc,na2,na3,na4]∧zad w (some ox)=some (vs (hN m))∧zad w (some np)=some (.slice (some nq) 2 nqc)∧zad w (some nq)=some (vs (xN (m+1))):=by
 obtain⟨oa,da,rfl,o1,e1⟩:=h.ex
 obtain⟨na1,na2,na3,na4,rfl,hn,_⟩:=e1.ex
 obtain⟨ox,oc,rfl,_,og⟩:=o1
 have g0:=og 0 (by simp[recM])
 obtain⟨ox,rfl⟩:=Option.isSome_iff_exists.1 (zap g0)
 rw[zak]at g0
 obtain⟨L,hL1,hL2,hL3⟩:=hn
 obtain⟨q0,rfl⟩:=List.length_eq_one_iff.1 (show L.length=1 from hL2)
 obtain⟨np,nc,rfl,_,ng⟩:=hL1
 have n0:=ng 0 (by simp)
 obtain⟨np,rfl⟩:=Option.isSome_iff_exists.1 (zap n0)
 rw[zak]at n0
 obtain⟨nq,nqc,hq,_,qg⟩:=hL3 0 (by simp) (by show 0<1;omega)
 have q1:=qg 0 (by simp[recM])
 obtain⟨nq,rfl⟩:=Option.isSome_iff_exists.1 (zap q1)
 rw[zak]at q1
 replace n0:zad w (some np)=some q0:=n0
 rw[show q0=_ from hq]at n0
 exact⟨ox,oc,np,nc,nq,nqc,na2,na3,na4,rfl,g0,n0,q1⟩
theorem zgX{W:World}(hX:WX W)(hY:WY W)(f n s:Nat)(hf:f≤255)(hn:n≤255)(hs:s≤255):
  Fn Tryz.prog 7 #[.int .u8 f,.int .u8 n,.int .u8 s] W (fun v w'=>v= .bool true∧Ext W w'):=by
 obtain⟨q,hq⟩:∃q,n % 60=q:=⟨_,rfl⟩
 obtain⟨k,hk⟩:∃k,q+1=k:=⟨_,rfl⟩
 have hk1:1≤k:=by omega
 have hk60:k≤60:=by omega
 obtain⟨p,hp⟩:∃p,s % 5=p:=⟨_,rfl⟩
 obtain⟨d,hd⟩:∃d,1+p=d:=⟨_,rfl⟩
 have hd1:1≤d:=by omega
 have hd5:d≤5:=by omega
 have hqd:q*d≤59*5:=Nat.mul_le_mul (by omega) hd5
 obtain⟨b,hb⟩:∃b,f+q*d=b:=⟨_,rfl⟩
 have e1:(n:Int).tmod 60=(q:Int):=by rw[Int.tmod_eq_emod_of_nonneg (by omega)];omega
 have e2:(s:Int).tmod 5=(p:Int):=by rw[Int.tmod_eq_emod_of_nonneg (by omega)];omega
 have e3:1+(q:Int)=(k:Int):=by omega
 have e5:1+(p:Int)=(d:Int):=by omega
 have e8:IntKind.i64.wrap (((k:Int) - 1)*(d:Int))=((q*d:Nat):Int):=by
  rw[show (k:Int) - 1=(q:Int) by omega,←Int.natCast_mul]
  exact zby (by omega) (by omega)
 have eb:(f:Int)+((q*d:Nat):Int)=(b:Int):=by omega
 have n60:¬(60:Int)=0:=by decide
 have n5:¬(5:Int)=0:=by decide
 refine enter Tryz.func7 Tryz.ntmps7 rfl rfl ?_
 refine go trivial ?_
 refine rc trivial (zj3 hX hY) ?_
 rintro _ w1 ⟨rfl,hE1⟩
 refine rgo (an8 e1 e2 e3 e5 e8 eb n60 n5) ?_
 have hb2:b≤1000:=by omega
 obtain⟨st',hL,hout⟩:=zi7 (f:=f) (k:=k) (d:=d) hf hk1 hk60 hd1 hd5
 rw[show (k - 1)*d=q*d by rw[←hk];rfl,hb,txM_eq]at hL
 obtain⟨R,hR⟩:∃R,(List.range k).map (fun i=>recM (f+i*d))=R:=⟨_,rfl⟩
 have hRl:R.length=k:=by rw[←hR,List.length_map,List.length_range]
 have hRg:∀i (h:i<R.length),R[i]=recM (f+i*d):=fun i h=>by subst hR;rw[List.getElem_map,List.getElem_range]
 rw[hR]at hout
 clear hR e1 e2 e3 e5 e8 eb n60 n5
 refine rc trivial (zcb w1 f (by omega) (by omega)) ?_
 rintro _ w2 ⟨rfl,hE2⟩
 have la:=zaQ 6 f (by omega)
 have lb:=zaQ 6 b (by omega)
 have ld:=zaQ 6 d (by omega)
 obtain⟨A,hA⟩:∃A,Lib.decDigits f=A:=⟨_,rfl⟩
 obtain⟨B,hB⟩:∃B,Lib.decDigits b=B:=⟨_,rfl⟩
 obtain⟨D,hD⟩:∃D,Lib.decDigits d=D:=⟨_,rfl⟩
 rw[hA]at la hL ⊢
 rw[hB]at lb hL
 rw[hD]at ld hL
 have h0:([36,84,84,76,32,53,10,36,71,69,78,69,82,65,84,69,32]:Lab).length+A.length≤9223372036854775807:=by simp;omega
 have h1:(([36,84,84,76,32,53,10,36,71,69,78,69,82,65,84,69,32]:Lab)++A).length+([45]:Lab).length≤9223372036854775807:=by simp;omega
 have h2:(([36,84,84,76,32,53,10,36,71,69,78,69,82,65,84,69,32]:Lab)++A++ [45]).length+B.length≤9223372036854775807:=by simp;omega
 have h3:(([36,84,84,76,32,53,10,36,71,69,78,69,82,65,84,69,32]:Lab)++A++ [45]++B).length+([47]:Lab).length≤9223372036854775807:=by simp;omega
 have h4:(([36,84,84,76,32,53,10,36,71,69,78,69,82,65,84,69,32]:Lab)++A++ [45]++B++ [47]).length+D.length≤9223372036854775807:=by simp;omega
 have h5:(([36,84,84,76,32,53,10,36,71,69,78,69,82,65,84,69,32]:Lab)++A++ [45]++B++ [47]++D).length+sufM.length≤9223372036854775807:=by simp;omega
 simp only[List.cons_append,List.nil_append]at h1 h2 h3 h4 h5
 refine rd (an2 h0 h1) (zcb w2 b (by omega) (by omega)) ?_
 rintro _ w3 ⟨rfl,hE3⟩
 rw[hB]
 refine rd (an2 h2 h3) (zcb w3 d (by omega) (by omega)) ?_
 rintro _ w4 ⟨rfl,hE4⟩
 rw[hD]
 refine rgo (an2 h4 h5) ?_
 obtain⟨tx,htx⟩:∃tx,preM++A++ [45]++B++ [47]++D++sufM=tx:=⟨_,rfl⟩
 rw[htx]at hL
 have hE14:=((hE1.trans hE2).trans hE3).trans hE4
 refine rq ?_;intro gd K hgd hK
 try simp only[go_sem]
 refine⟨by kernel_rfl,?_⟩
 refine ze5 (m:= .mk) (v:= .agg #[vs [97],vs tx]) (by rw[←htx];kernel_rfl) ?_
 try simp only[go_sem]
 refine zjK (e:=48) (arr:=#[vs [97],vs tx]) (by kernel_rfl) ?_
 intro w5 f1 m1 b1
 have hf1:=zga b1
 try simp only[go_sem]
 refine Fn.mono (zfA (o:=[]) (hX.ext (hE14.trans f1)) hf1 (Nat.le_of_ble_eq_true rfl) (zgG _) ⟨by decide,by decide⟩ hL) ?_
 rintro _ w6 ⟨f2,rv,rfl,hRs⟩
 rw[hout]at hRs
 try simp only[go_sem]
 refine hK _ _ ?_;clear hK hgd;clear K;try clear gd
 have hE6:=(hE14.trans f1).trans f2
 obtain⟨ra,rcap,rfl,hrc,hgR⟩:=Rows.open (k:=7) (xs:=R) hRs
 have dk:decide ((R.length:Int)=(k:Int))=true:=decide_eq_true (by omega)
 refine go trivial ?_
 refine rgg [(2,53)] (an2 dk trivial) ?_
 refine go trivial ?_
 refine zbq k (fun i σ A=>(σ 0= .int .u8 f∧σ 7=vi k∧σ 8=vi d∧σ 11= .slice ra R.length rcap∧σ 13=vi i)∧Ext w6 A) ?_ ?_ ?_
 ·exact⟨⟨vr0,vr0,vr0,vr0,vr0⟩,Keep.refl _ _⟩
 ·rintro i σ A hi rr ⟨⟨s0,s7,s8,s11,s13⟩,hEA⟩
  have hiR:i<R.length:=by omega
  have hi0:(0:Int)≤(i:Int):=by omega
  have hi1:(i:Int)<(R.length:Int):=by omega
  have hik:(i:Int)<(k:Int):=by omega
  obtain⟨cr,hcr,hRr⟩:=hgR i hiR
  rw[hRg i hiR]at hRr
  obtain⟨m,hm⟩:∃m,f+i*d=m:=⟨_,rfl⟩
  rw[hm]at hRr
  have hid:i*d≤59*5:=Nat.mul_le_mul (by omega) hd5
  obtain⟨xR,rfl⟩:=Option.isSome_iff_exists.1 (zaO hcr)
  obtain⟨y,hy⟩:∃y,adr (some xR) (i*7)=some y:=⟨_,rfl⟩
  rw[hy]at hcr
  obtain⟨ox,oc,np,nc,nq,nqc,na2,na3,na4,rfl,c1,c2,c3⟩:=made_at hRr
  have hcA:=zaj hEA hcr
  have c1A:=zab hEA c1
  have c2A:=zab hEA c2
  have c3A:=zab hEA c3
  obtain⟨u1,hu1⟩:∃x,adr (some y) 1=some x:=⟨_,rfl⟩
  obtain⟨z1,hz1⟩:∃x,adr (some y) 2=some x:=⟨_,rfl⟩
  obtain⟨z2,hz2⟩:∃x,adr (some z1) 1=some x:=⟨_,rfl⟩
  have a0:zad A (adr (some y) 0)=some (.slice (some ox) 1 oc):=zbD hcA rfl
  have a1:zad A (adr (some y) 1)=some (v32 5):=zbD hcA rfl
  have a2:zad A (adr (some y) 2)=some (vi 12):=zbD hcA rfl
  have a3:zad A (adr (some y) 3)=some (.slice (some np) 1 nc):=zbD hcA rfl
  rw[zak]at a0
  rw[hu1]at a1
  rw[show adr (some y) 3=adr (adr (some y) 2) 1 from by rw[zdw],hz1,hz2]at a3
  rw[hz1]at a2
  have e8:IntKind.i64.wrap ((i:Int)*(d:Int))=((i*d:Nat):Int):=by
   rw[←Int.natCast_mul]
   exact zby (by omega) (by omega)
  have e9:(f:Int)+((i*d:Nat):Int)=(m:Int):=by omega
  have lm:=zaQ 6 m (by omega)
  have hxl:(xN (m+1)).length=6:=by unfold xN;rw[List.length_cons,zdP (by omega)]
  have z0:(0:Int)≤0:=Int.le_refl _
  have l01:(0:Int)<((1:Nat):Int):=by decide
  have l02:(0:Int)<((2:Nat):Int):=by decide
  have d1:decide (((1:Nat):Int)=1)=true:=rfl
  have d2:decide (((2:Nat):Int)=2)=true:=rfl
  have d5:decide ((5:Int)=5)=true:=rfl
  have d12:decide ((12:Int)=12)=true:=rfl
  have d6:decide (((xN (m+1)).length:Int)=6)=true:=decide_eq_true (by omega)
  refine go (an4 s7 s13 rr hik) ?_
  repeat refine c_r ?_
  refine zaS (fun _=>false) [(0,true),(1,true),(2,true),(3,true),(4,true),(5,true),(6,true),(7,true),(8,true),(9,true),(10,true),(11,true),(12,true),(13,true),(14,true),(15,true),(16,true),(17,true),(18,true),(19,true),(20,true),(21,false),(22,true),(23,true),(24,true),(25,true),(26,true),(27,true),(28,true),(29,true),(30,true),(31,true),(32,true),(33,true),(34,true),(35,true),(36,true),(37,true),(38,true),(39,true),(40,true),(41,true),(42,true),(43,true),(44,true),(45,true),(46,true),(47,true),(48,true),(49,true),(50,true),(51,true),(52,true),(53,true),(54,true),(55,true),(56,true),(57,true),(58,true),(59,true),(60,true),(61,true),(62,true),(63,true),(64,true),(65,true),(66,true),(67,true),(68,true),(69,true),(70,true),(71,true),(72,true),(73,true),(74,true),(75,true),(76,true),(77,true)] NoS mixed (by kernel_rfl) ?_;intro gd K x hgd hx hxe hK;have hx0:=zaP hxe;clear hxe
  have hg7:∀n σ b,zaJ gd n σ (some (7,b))=zat (ev n σ (.tmp 71)) b:=(fun n σ b=>by rw[zag,show gd 7=some 71 from(by rw[hgd];rfl)];rfl);have hg25:∀n σ b,zaJ gd n σ (some (25,b))=zat (ev n σ (.tmp 89)) b:=(fun n σ b=>by rw[zag,show gd 25=some 89 from(by rw[hgd];rfl)];rfl);have hg33:∀n σ b,zaJ gd n σ (some (33,b))=zat (ev n σ (.tmp 97)) b:=(fun n σ b=>by rw[zag,show gd 33=some 97 from(by rw[hgd];rfl)];rfl);have hg42:∀n σ b,zaJ gd n σ (some (42,b))=zat (ev n σ (.tmp 106)) b:=(fun n σ b=>by rw[zag,show gd 42=some 106 from(by rw[hgd];rfl)];rfl);have hg52:∀n σ b,zaJ gd n σ (some (52,b))=zat (ev n σ (.tmp 116)) b:=(fun n σ b=>by rw[zag,show gd 52=some 116 from(by rw[hgd];rfl)];rfl);have hg64:∀n σ b,zaJ gd n σ (some (64,b))=zat (ev n σ (.tmp 128)) b:=(fun n σ b=>by rw[zag,show gd 64=some 128 from(by rw[hgd];rfl)];rfl)
  simp only[List.toList_toArray,List.append_eq,List.cons_append,List.nil_append]
  have a0x:=zab hx0 a0
  have c1x:=zab hx0 c1A
  simp (disch:=first|omega|assumption|rfl) only[go_sem,s0,s8,s11,s13,hi0,hi1,Int.toNat_natCast,hy,zak,a0x,c1x,z0,l01,Int.toNat_zero,Nat.zero_mul,d1,e8,e9,↓hg7,↓hg25,↓hg33,↓hg42,↓hg52,↓hg64]
  refine Fn.mono (zcb x m (by omega) (by omega)) ?_
  rintro _ y1 ⟨rfl,hy1⟩
  refine⟨.inr hy1.keep,?_⟩
  have hxy:=hx0.trans hy1
  have a1y:=zab hxy a1
  have a2y:=zab hxy a2
  have a3y:=zab hxy a3
  have c2y:=zab hxy c2A
  have c3y:=zab hxy c3A
  have l1:([104]:Lab).length+(Lib.decDigits m).length≤9223372036854775807:=by show 1+_≤_;omega
  have dh:decide (hN m=104::Lib.decDigits m)=true:=decide_eq_true rfl
  simp (disch:=first|omega|assumption|rfl) only[go_sem,s0,s8,s11,s13,hi0,hi1,Int.toNat_natCast,hy,hu1,hz1,hz2,zak,a1y,a2y,a3y,c2y,c3y,z0,l01,l02,Int.toNat_zero,Nat.zero_mul,l1,dh,d1,d2,d5,d12,d6,↓hg7,↓hg25,↓hg33,↓hg42,↓hg52,↓hg64]
  refine hK _ _ ?_;clear hK hgd;clear K;try clear gd
  repeat refine c_r ?_
  refine wf Bool.not_true ?_
  refine go (an6 s0 s7 s8 s11 s13 rr) ?_
  exact⟨rfl,⟨(vq1 s0),(vq1 s7),(vq1 s8),(vq1 s11),(vq1 rr)⟩,hEA.trans hxy⟩
 ·rintro σ A rr ⟨⟨s0,s7,s8,s11,s13⟩,hEA⟩
  refine go (an3 s7 s13 rr) ?_
  refine rt0 Tryz.ntmps7 ?_
  exact⟨rfl,hE6.trans hEA⟩
end Go.Proofs.YtihbdhjibplldaaGreatDoor
namespace Go.Proofs.YtihbdhjibplldaaGreatDoor.loadMade
open Go Go.Proofs.YtihbdhjibplldaaGreatDoor
theorem j1:(Rows.loadMadeRow.inPlace==Tryz.pinned.checked.prog.inPlace 7)=true:=by kernel_rfl
theorem j2:(Rows.loadMadeRow.unfollowed==Tryz.pinned.checked.prog.unfollowed 7)=true:=by kernel_rfl
theorem j3:(Rows.loadMadeRow.recurses==Tryz.pinned.checked.prog.recurses 7)=true:=by kernel_rfl
theorem j4:(Rows.loadMadeRow.named==Tryz.pinned.checked.prog.varsNamed 7)=true:=by kernel_rfl
theorem j5:(Tryz.pinned.checked.prog.mayEnter)=true:=by kernel_rfl
theorem j6:(Rows.loadMadeRow.lifted==Tryz.pinned.checked.prog.liftsFinal)=true:=by kernel_rfl
theorem joined:joinedFacts Tryz.pinned.checked.prog 7 Tryz.f7 Rows.loadMadeSpec Rows.loadMadeRow=true:=by
 unfold joinedFacts
 rw[j1,j2,j3,j4,j5,j6]
 kernel_rfl
end Go.Proofs.YtihbdhjibplldaaGreatDoor.loadMade
namespace Go.Proofs.YtihbdhjibplldaaGreatDoor
open Go Go.ChangeShapes Go.WideShapes Go.ChangeAt Go.RowKit
theorem zjc{C:Checked}{os:Os}{f:FuncId}{fn:Func}{s:ChangeSpec}{conds:List PathCond}{apart fresh handsOn again:Bool}{H:Type}{enc:TypeId×Value→H}{X:World→Prop}
  (hX:∀(w w':World),w.heap=w'.heap→X w→X w')
  (own:ownKnob C.prog.godebug=none) (started:os.Started) (noInit:C.prog.inits.idxOf? f=none) (hfn:C.prog.funcs[f]? =some fn)
  (witness:∃(w:World) (tape:Tape) (i:Input),w.os=os∧(w.forCall tape i).Shaped C.prog∧i.vars=[]∧Input.okWide C.prog (w.forCall tape i) .any w.heap.size f i∧
   ((s.pre enc C.prog fn conds apart (w.forCall tape i).memory i.args∧X (w.forCall tape i).memory)∧sizedMet enc C.prog fn (OpenSpec.ofChange s) apart (w.forCall tape i).memory i.args)∧({}:Assume).holds C.prog (lone (Frame.enter C.prog f i.args .normal) [] (w.forCall tape i)))
  (hvn:s.vars=[]) (hspec:∀ds:List (DataW H),ds.length=fn.params.size→s.fn H ds={results:=[.lit (.bool true)],args:=ds}) {tb:TypeId} (hrt:fn.resultTypes=#[tb]) (htb:C.prog.underlying tb=some .bool)
  (hl:laidOutB C.prog=true) (hrd:fn.params.toList.all (fun t=>C.prog.readableRec t && decide (t<C.prog.types.size))=true)
  (walk:∀(W:World) (base:Nat) (args:List Value) (ds:List (DataW H)) (p:List MemPlace),X W→W.ShapedOpen C.prog→(∀(j:Nat) t v,fn.params[j]? =some t→args[j]? =some v→Value.okWide C.prog W .any base t v)→
   DataW.TrodAll enc C.prog W 0 (fun _=>true) true fn.params.toList args ds p→(∀x∈DataW.weightsEach C.prog fn.params.toList ds,x≤reachBytes)→Fn C.prog f args.toArray W (fun v W'=>v= .bool true∧Ext W W')):
  ReturnsInHanded {} C os f .any (fun w args=>(s.pre enc C.prog fn conds apart w args∧X w)∧sizedMet enc C.prog fn (OpenSpec.ofChange s) apart w args) (s.post enc C.prog fn apart fresh handsOn again):=by
 refine returnsInHanded_of_calls own started noInit witness ?_
 intro w tape i _ hsh _ hok hpre hholds
 obtain⟨_,_,_,fn',hfn',_,_,_,_,hval⟩:=hok
 have e:fn'=fn:=Option.some.inj (hfn'.symm.trans hfn)
 subst e
 obtain⟨⟨⟨ds,gs,before,hw,hc⟩,hx⟩,hz⟩:=hpre
 have hW:=DataW.Whole.of_heap (w':=w.forCall tape i) (by rfl) hw
 have hwt:(DataW.weightsEach C.prog (fn'.params.toList++s.plain.varTypes C.prog) (ds++gs)).all (·≤reachBytes)=true:=hz.weights hw
 have hXW:=hX _ (w.forCall tape i) (by rfl) hx
 obtain⟨W,hWe⟩:∃W,w.forCall tape i=W:=⟨_,rfl⟩
 rw[hWe]at hW hXW hsh hval ⊢
 refine Calls.mono (R:=fun e W'=>∃v,e= .returned v∧s.post enc C.prog fn' apart fresh handsOn again W i.args v W') ?_ (fun e W' ⟨v,he,hp⟩=>?_)
 rotate_left
 ·subst he
  exact ChangeSpec.post_blind hp
 obtain⟨args,hargs⟩:∃a,i.args=a:=⟨_,rfl⟩
 rw[hargs]at hval hW ⊢
 have hW0:=hW
 obtain⟨p,q,hA,hV,_⟩:=hW
 have hgs:gs=[]:=by
  rw[hvn]at hV
  cases gs with
  |nil=>rfl
  |cons _ _=>exact hV.elim
 subst hgs
 have hvt:s.plain.varTypes C.prog=[]:=by
  unfold DataSpec.varTypes
  rw[show s.plain.vars=[] from hvn];rfl
 rw[hvt,List.append_nil,List.append_nil]at hwt
 have hlen:∀{ts:List TypeId} {vs:List Value} {ds:List (DataW H)} {ps:List MemPlace},DataW.TrodAll enc C.prog W 0 (fun _=>true) true ts vs ds ps→ds.length=ts.length:=by
  intro ts
  induction ts with
  |nil=>intro vs ds ps h;obtain⟨rfl,rfl,rfl⟩:=trodAll_nil h;rfl
  |cons t ts ih=>
   intro vs ds ps h
   obtain⟨v,vs1,d,ds1,a,b,rfl,rfl,rfl,h1,h2⟩:=trodAll_cons h
   simp[ih h2]
 have hw:=walk W w.heap.size args.toList ds p hXW hsh (fun j t v h1 h2=>hval j t v h1 (by simpa using h2)) hA (fun x hx=>by simpa using (List.all_eq_true.1 hwt) x hx)
 rw[Array.toArray_toList]at hw
 refine Calls.mono (callsIn_wide.1 hw) ?_
 rintro e W' ⟨v,rfl,rfl,hE⟩
 refine⟨_,rfl,law_post hW0 hvn (hspec ds (by rw[hlen hA];simp)) hrt htb hl (fun t ht=>?_) hE⟩
 have:=(List.all_eq_true.1 hrd) t ht
 simpa using this
end Go.Proofs.YtihbdhjibplldaaGreatDoor
namespace Go.Proofs.YtihbdhjibplldaaGreatDoor
open Go
set_option maxRecDepth 100000
def bruijn64:List Int:=[0,1,56,2,57,49,28,3,61,58,42,50,38,29,17,4,62,47,59,36,45,43,51,22,53,39,33,30,24,18,12,5,63,55,48,27,60,41,37,16,46,35,44,21,52,32,23,11,54,26,40,15,34,20,31,10,25,14,19,9,13,8,7,6]
theorem zfi{H:Type}{enc:TypeId×Value→H}{P:Program}{w:World}{base:Nat}{sp:Nat→Bool}{held:Bool}{fuel:Nat}{t:TypeId}{cs:List Value}{nm:String}{d:DataW H}{p:List MemPlace}{ms:Array (String×TypeId)}
  (ht:P.underlying t=some (.interface ms)) (h:DataW.trod enc P w base sp held fuel t cs=some (.iface nm d,p)):∃u v,cs=[.iface u v]:=by
 cases fuel with
 |zero=>simp[DataW.trod]at h
 |succ fuel=>
  simp only[DataW.trod,ht]at h
  split at h<;>first| (rename_i heq _;cases heq;done)| (cases h;done)|exact⟨_,_,rfl⟩|simp_all
theorem WX_of{W:World}{rest:List (String×DataW Unit)}(hsh:W.ShapedOpen Tryz.prog)(h:laidMet Tryz.prog ((Rows.loadTextRow.laid.take 5)++rest) W):WX W:=by
 have h1:=laidMet.tail h
 have h2:=laidMet.tail h1
 have h4:=laidMet.tail (laidMet.tail h2)
 have tz:=Lib.tabIs_of_head (g:=3) (t:=205) (e:=5) (n:=64) (k:= .u8) (zs:=bruijn64) (by kernel_rfl) (by kernel_rfl) (by kernel_rfl) (by kernel_rfl) (by kernel_rfl) (by kernel_rfl) h1
 have tp:=Lib.tabIs_of_head (g:=0) (t:=157) (e:=71) (n:=20) (k:= .u64) (zs:=Lib.pow10Tab) (by kernel_rfl) (by kernel_rfl) (by kernel_rfl) (by kernel_rfl) (by kernel_rfl) (by kernel_rfl) h2
 obtain⟨u,v,hv⟩:∃u v,W.cell? ⟨7,0,Option.none⟩=some (.iface u v):=by
  obtain⟨_,⟨g0,t0,cs0,f0,p0,q0,hg0,ht0,hv0,hd0,_,_⟩,_,_⟩:=h4
  obtain rfl:=Option.some.inj ((show Tryz.prog.globalNamed _=some 7 by kernel_rfl).symm.trans hg0)
  obtain rfl:=Option.some.inj ((show(Tryz.prog.globals[7]?).map (·.type)=some 100 by kernel_rfl).symm.trans ht0)
  obtain⟨u,v,hcs⟩:=zfi Tryz.underlying100 hd0
  have e0:cs0=#[.iface u v]:=Array.toList_inj.1 (by simpa using hcs)
  exact⟨u,v,by rw[World.var?_cell hg0 hv0 0,e0];rfl⟩
 refine⟨cell_of_shapedOpen_int (t:=3) (zero:=#[.int .i64 0]) hsh (by decide+kernel) (by kernel_rfl) rfl (by kernel_rfl) (by kernel_rfl) (by kernel_rfl),?_,⟨u,v,hv⟩,⟨4,World.var?_cell (by kernel_rfl) tz 15,by decide,by decide⟩,World.var?_cell (by kernel_rfl) tz 15⟩
 have h3:=tp
 unfold Lib.TabIs World.var? at h3
 rw[show Tryz.prog.globalNamed _=some 0 from by kernel_rfl,Option.bind_some]at h3
 split at h3
 ·rename_i cs t fr hh
  injection h3 with h3
  exact⟨t,fr,by rw[hh,h3]⟩
 ·cases h3
def bruijnT:List Int:=[0,1,56,2,57,49,28,3,61,58,42,50,38,29,17,4,62,47,59,36,45,43,51,22,53,39,33,30,24,18,12,5,63,55,48,27,60,41,37,16,46,35,44,21,52,32,23,11,54,26,40,15,34,20,31,10,25,14,19,9,13,8,7,6]
theorem WY_of{W:World}{rest:List (String×DataW Unit)}(h:laidMet Tryz.prog ((Rows.loadTextRow.laid.take 3)++rest) W):WY W:=by
 have h1:=laidMet.tail h
 have h2:=laidMet.tail h1
 have tz:=Lib.tabIs_of_head (g:=3) (t:=205) (e:=5) (n:=64) (k:= .u8) (zs:=bruijnT) (by kernel_rfl) (by kernel_rfl) (by kernel_rfl) (by kernel_rfl) (by kernel_rfl) (by kernel_rfl) h1
 have tp:=Lib.tabIs_of_head (g:=0) (t:=157) (e:=71) (n:=20) (k:= .u64) (zs:=Lib.pow10Tab) (by kernel_rfl) (by kernel_rfl) (by kernel_rfl) (by kernel_rfl) (by kernel_rfl) (by kernel_rfl) h2
 refine⟨?_,World.var?_cell (by kernel_rfl) tz 15⟩
 have h3:=tp
 unfold Lib.TabIs World.var? at h3
 rw[show Tryz.prog.globalNamed _=some 0 from by kernel_rfl,Option.bind_some]at h3
 split at h3
 ·rename_i cs t fr hh
  injection h3 with h3
  exact⟨t,fr,by rw[hh,h3]⟩
 ·cases h3
end Go.Proofs.YtihbdhjibplldaaGreatDoor
namespace Go.Proofs.YtihbdhjibplldaaGreatDoor.loadMade
open Go Go.Proofs.YtihbdhjibplldaaGreatDoor Go.ChangeShapes Go.WideShapes Go.ChangeAt Go.RowKit
theorem own:ownKnob Tryz.prog.godebug=none:=by kernel_rfl
set_option maxRecDepth 100000 in
theorem lifted(os:Os)(started:os.Started)(H:Type)(enc:TypeId×Value→H):
  ReturnsInHanded {} Tryz.checked os 7 .any (fun w args=>(Rows.loadMadeSpec.pre enc Tryz.prog Tryz.f7 Rows.loadMadeRow.domain false w args∧laidMetH Tryz.prog Rows.loadMadeRow.laid w)∧sizedMet enc Tryz.prog Tryz.f7 (OpenSpec.ofChange Rows.loadMadeSpec) false w args)
   (Rows.loadMadeSpec.post enc Tryz.prog Tryz.f7 false true false false):=by
 refine zjc (C:=Tryz.checked) (X:=laidMetH Tryz.prog Rows.loadMadeRow.laid) (fun _ _ hh h=>h.of_heap hh) own started (by kernel_rfl) Tryz.func7
  (ChangeSpec.witness_shaped (enc:=enc) (C:=Tryz.checked) (os:=os) (X:=fun w _=>laidMetH Tryz.prog Rows.loadMadeRow.laid w) false (World.laidAll Tryz.prog os Rows.loadMadeRow.laid) #[.int .u8 0,.int .u8 0,.int .u8 0] 8 (World.laidAll_os _ _ _)
   (World.shaped_of_ZipB (by kernel_rfl) (by kernel_rfl)) (by kernel_rfl) (by kernel_rfl) (by kernel_rfl)
   (by rw[MakeChecks.laidMetH_plain _ _ _ (by kernel_rfl)];exact laidMet_laidAll _ (by kernel_rfl) (by kernel_rfl))) rfl ?_ (tb:=4) rfl rfl (by kernel_rfl) (by kernel_rfl) ?_
 ·intro ds hds
  match ds,hds with
  | [d0,d1,d2],_=>rfl
 ·intro W base args ds p hXW hsh hval hA0 hw0
  rw[MakeChecks.laidMetH_plain _ _ _ (by kernel_rfl)]at hXW
  have hX:WX W:=WX_of (rest:=Rows.loadMadeRow.laid.drop 5) hsh hXW
  have hY:WY W:=WY_of (rest:=Rows.loadMadeRow.laid.drop 3) hXW
  have hA:DataW.TrodAll enc Tryz.prog W 0 (fun _=>true) true [5,5,5] args ds p:=hA0
  have hw:∀x∈DataW.weightsEach Tryz.prog [5,5,5] ds,x≤reachBytes:=hw0
  obtain⟨v0,vs0,d0,ds0,p0,q0,rfl,rfl,rfl,h0,r0⟩:=trodAll_cons hA
  obtain⟨v1,vs1,d1,ds1,p1,q1,rfl,rfl,rfl,h1,r1⟩:=trodAll_cons r0
  obtain⟨v2,vs2,d2,ds2,p2,q2,rfl,rfl,rfl,h2,r2⟩:=trodAll_cons r1
  obtain⟨rfl,rfl,rfl⟩:=trodAll_nil r2
  obtain⟨x0,rfl,_,_,f0⟩:=open_int (k:= .u8) rfl (hval 0 _ _ rfl rfl) h0
  obtain⟨b0,c0⟩:=bounds_u8 f0
  obtain⟨t0,rfl⟩:∃t:Nat,x0=(t:Int):=⟨x0.toNat,by omega⟩
  replace f0:t0≤255:=by omega
  obtain⟨x1,rfl,_,_,f1⟩:=open_int (k:= .u8) rfl (hval 1 _ _ rfl rfl) h1
  obtain⟨b1,c1⟩:=bounds_u8 f1
  obtain⟨t1,rfl⟩:∃t:Nat,x1=(t:Int):=⟨x1.toNat,by omega⟩
  replace f1:t1≤255:=by omega
  obtain⟨x2,rfl,_,_,f2⟩:=open_int (k:= .u8) rfl (hval 2 _ _ rfl rfl) h2
  obtain⟨b2,c2⟩:=bounds_u8 f2
  obtain⟨t2,rfl⟩:∃t:Nat,x2=(t:Int):=⟨x2.toNat,by omega⟩
  replace f2:t2≤255:=by omega
  exact zgX hX hY t0 t1 t2 f0 f1 f2
theorem over:Rows.loadMadeRow.holds Tryz.pinned (OpenSpec.ofChange Rows.loadMadeSpec):=
 OpenClaim.holds_of_wide 7 Tryz.f7 rfl rfl rfl rfl rfl rfl rfl ⟨rfl,rfl,rfl,rfl,rfl⟩ rfl rfl rfl rfl rfl (by kernel_rfl) Tryz.func7 joined
  (of_decide_eq_true (by kernel_rfl)) (by unfold Func.isWrapper;first| (rw[if_pos (by decide+kernel)];kernel_rfl)| (rw[if_neg (by decide+kernel)];exact⟨rfl,rfl⟩))
  (fun os started H enc _=>lifted os started H enc)
theorem proved:Rows.LoadMadeCardSaid:=
 Claim7.holds_tied_plain_at .later [] [.data,.data,.data,.data,.sentinel,.sentinel,.pinned,.pinned] true Rows.loadMadeCard.stood.harness true over (fun _ h=>by cases h) (by kernel_rfl) (fun _ h=>by cases h) loadMade_row_tie rfl ⟨rfl,rfl⟩ (by kernel_rfl) rfl
  (fun f fn hf hfn=>by
   obtain rfl:f=7:=Option.some.inj ((show Tryz.prog.funcNamed Rows.loadMadeRow.func=some 7 by kernel_rfl).symm.trans hf)|>.symm
   obtain rfl:fn=Tryz.f7:=(Option.some.inj (Tryz.func7.symm.trans hfn)).symm
   exact⟨by kernel_rfl,fun j t ht=>by
    have hm:t∈ [5,5,5]:=by simpa using Array.mem_of_getElem? (show(#[5,5,5]:Array TypeId)[j]? =some t from ht)
    have hall:([5,5,5].all fun u=>!Tryz.prog.wantsStandIn u)=true:=by kernel_rfl
    exact(show Tryz.prog.wantsStandIn t=false by simpa using List.all_eq_true.1 hall t hm)⟩)
  (by kernel_rfl)
end Go.Proofs.YtihbdhjibplldaaGreatDoor.loadMade
