/-
  Texts of a proof, joined: QH, QI, QJ, QK, JX, NC, NE, QL, QM, QN, K34, K35, K40, QO, YT2, KC3, GW, HX0, ZT2.
  Conditions: none.
-/
import Derived.Test.YtihbdhjibplldaaGreatDoorQLI10
import Derived.Test.YtihbdhjibplldaaGreatDoorQLI04
import Derived.Test.YtihbdhjibplldaaGreatDoorQLI07
import Derived.Test.YtihbdhjibplldaaGreatDoorQLI09
import Derived.Test.YtihbdhjibplldaaGreatDoorQLI02
import Derived.Test.YtihbdhjibplldaaGreatDoorRows
import Derived.JoinedOf
import Derived.Handed
import Derived.Test.YtihbdhjibplldaaGreatDoorQLI03
import Derived.Stop.LaidErr
import Derived.Shelf.Vars
import Derived.MakeChecks
import Derived.Test.YtihbdhjibplldaaGreatDoorCards
import Derived.Test.YtihbdhjibplldaaGreatDoorTie
import Derived.Lay
import Derived.SevenTiedAt
import Derived.ChangeMaps5
set_option linter.unusedVariables false
set_option linter.unusedSimpArgs false
set_option linter.defProp false
set_option linter.unnecessarySimpa false
set_option maxHeartbeats 8000000
namespace Go.Proofs.YtihbdhjibplldaaGreatDoor
open Go
set_option maxRecDepth 10000
theorem prs_name{T:Int}{s:Lab}{o n:Nm}(hT:T=2∨T=5∨T=12∨T=39)(hn:zaI s o=(n,0))(hs:s.length≤1000)(hm:s≠ [92,35]):zd4 T [(s,false)] o ⟨T,[n],[],[],[]⟩ 0:=fun w wv oa on oc hX hr ho hoT=>by
 have hsh:zax T=(1,0,0,0):=by rcases hT with rfl|rfl|rfl|rfl<;>rfl
 have hmk:zbQ [(s,false)]=false:=zfH (.inr hm)
 refine Fn.mono (PkG (d:=⟨T,[n],[],[],[]⟩) (by omega) (by omega) hr fun b w1 h=>?_) ?_
 ·rw[if_neg (by rw[hmk];decide)]
  refine Fn.mono (zjA (tx:=fun _=>s) (ns:=[n]) (us:=[]) hX (by omega) (by rw[hsh];rfl) (by simp) (by simp) h ho hoT (fun m hm=>?_) (fun m hm=>by cases hm)) ?_
  ·rw[List.mem_singleton.1 hm]
   exact⟨hn,by omega,trivial⟩
  rintro _ w' ⟨⟨nmv,nuv,rfl,a1,a2⟩,hR,hk⟩
  exact⟨⟨_,rfl,fun X hX=>⟨_,_,_,_,rfl,a2 X hX,zdU a1 X hX,zbI X,zbI X⟩⟩,hR,hk⟩
 ·rintro v w' ⟨hE,cs,rfl,hg⟩
  exact⟨hE,cs,rfl,(zfm hg).1,(zfm hg).2,fun _=>hg⟩
theorem prs_badA{s:Lab}{q:Bool}{o:Nm}{ps:List Lab}{e:Int}{d:DatL}(hsp:SplP s ps)(hs:s.length≤1000)(hpl:ps.length≤1000)(hpx:∀p∈ps,p.length≤1000)(hm:zbQ [(s,q)]=false)(he:zhl (if ps.length=4 then(if q=true then zbe 0 2 else 0) else zbe (if q=true then zbe 0 2 else 0) 2) ps=e)(he0:¬e=0):zd4 1 [(s,q)] o d e:=fun w wv oa on oc hX hr ho hoT=>by
 refine Fn.mono (zfl (e:=e) (G:=fun _ _ _=>True) (by decide) (by decide) hr (fun _ _ _ _ _ _ _ _=>trivial) fun b w1 h=>?_) ?_
 ·rw[if_neg (by rw[hm];decide)]
  refine Fn.mono (zjB hX h (by omega) hsp (by omega) fun p hp=>by have:=hpx p hp;omega) ?_
  rintro _ w' ⟨⟨rv,rfl,hown⟩,hR,hk⟩
  rw[he]at hR
  obtain⟨ra,rc,rfl⟩:=hown.slice
  exact⟨⟨_,rfl,rfl,zc2 _ _ _ _ _ rfl rfl rfl rfl,trivial⟩,hR,hk⟩
 ·rintro v w' ⟨hE,_,h2⟩
  exact⟨hE,_,h2 he0,rfl,zc2 _ _ _ _ _ rfl rfl rfl rfl,fun h=>absurd h he0⟩
abbrev tA3:Lab:=[49,46,50,46,51]
abbrev tA4:Lab:=[49,46,50,46,51,46,52]
theorem spl3:SplP tA3 [[49],[50],[51]]:=⟨by decide+kernel,by decide+kernel⟩
theorem prs_A3(o:Nm)(d:DatL):zd4 1 [(tA3,false)] o d 2:=prs_badA spl3 (by decide) (by decide) (by decide) (by decide) (by decide+kernel) (by decide)
theorem zes{K:Value→World→Prop}{o:Option Value}{v:Value}{w:World}{F:Prop}{m:Lck K F}(h:o=some v)(hK:K v w):optL o w K F m:=by
 subst h;rw[zgn];exact hK
def tokB:Nat→Lab→Option (List (Lab×Bool))
 |_,[]=>some []
 |0,_::_=>Option.none
 |k+1,c::s=>
  if c=32∨c=9 then tokB k s else
  if c=59 then some [] else
  if c=34 then
   match s.dropWhile (fun x=>x !=34 && x !=92) with
   |d::r=>if d=34 then(tokB k r).map (fun ws=>(s.takeWhile (fun x=>x !=34 && x !=92),true)::ws) else Option.none
   | []=>Option.none
  else if plnB c=true then
   if ((c::s).dropWhile plnB).head?.all (fun d=>stopsL.contains d)=true then(tokB k ((c::s).dropWhile plnB)).map (fun ws=>((c::s).takeWhile plnB,false)::ws) else Option.none
  else Option.none
theorem zfZ{α:Type}{p:α→Bool}:∀(l:List α),∀x∈l.takeWhile p,p x=true
 | [],x,h=>by cases h
 |a::l,x,h=>by
  rw[List.takeWhile_cons]at h
  split at h
  ·rename_i ha
   rcases List.mem_cons.1 h with rfl|h
   ·exact ha
   ·exact zfZ l x h
  ·cases h
theorem quot_run{q:Lab}(h:∀c∈q,(c !=34 && c !=92)=true):QuotW q:=by
 induction q with
 |nil=>exact .nil
 |cons c q ih=>
  have:=h c (List.mem_cons_self ..)
  simp only[Bool.and_eq_true,bne_iff_ne]at this
  exact .one c q this.1 this.2 (ih fun x hx=>h x (List.mem_cons_of_mem _ hx))
theorem zfp:∀(k:Nat) (s:Lab) (ws:List (Lab×Bool)),tokB k s=some ws→Toks s ws
 |k,[],ws,h=>by
  have:ws=[]:=by cases k<;>(injection h with h;exact h.symm)
  rw[this];exact .nil
 |0,_::_,ws,h=>by cases h
 |k+1,c::s,ws,h=>by
  unfold tokB at h
  split at h
  ·rename_i hc;exact .blank c s ws hc (zfp k s ws h)
  split at h
  ·rename_i hc;injection h with h;rw[←h,hc];exact .semi s
  split at h
  ·rename_i hc
   subst hc
   cases hd:s.dropWhile (fun x=>x !=34 && x !=92) with
   |nil=>rw[hd]at h;cases h
   |cons d r=>
    rw[hd]at h
    simp only at h
    split at h
    ·rename_i hd34
     subst hd34
     cases ht:tokB k r with
     |none=>rw[ht]at h;cases h
     |some ws1=>
      rw[ht]at h
      injection h with h
      rw[←h]
      have e:s=s.takeWhile (fun x=>x !=34 && x !=92)++34::r:=by rw[←hd];exact List.takeWhile_append_dropWhile.symm
      have:=Toks.quot (s.takeWhile (fun x=>x !=34 && x !=92)) r ws1 (quot_run (zfZ s)) (zfp k r ws1 ht)
      rw[←e]at this
      exact this
    ·cases h
  split at h
  ·rename_i hp
   split at h
   ·rename_i he
    cases ht:tokB k ((c::s).dropWhile plnB) with
    |none=>rw[ht]at h;cases h
    |some ws1=>
     rw[ht]at h
     injection h with h
     rw[←h]
     have hne:(c::s).takeWhile plnB≠ []:=by rw[List.takeWhile_cons,if_pos hp];simp
     have tk:=zct hne (zfZ (c::s))
     have:=Toks.word _ _ ws1 hne tk.b ?_ (zfp k _ ws1 ht)
     ·rw[List.takeWhile_append_dropWhile]at this;exact this
     ·cases hd:(c::s).dropWhile plnB with
      |nil=>exact .inl rfl
      |cons d r=>
       rw[hd]at he
       exact .inr ⟨d,r,rfl,List.contains_iff_mem.1 (by simpa using he)⟩
   ·cases h
  ·cases h
def lineB(x:Lab×List (Lab×Bool)):Bool:=decide (tokB (x.1.length+1) x.1=some x.2) && !x.1.contains 10 && decide (x.1.getLast?≠some 13) && decide (x.1.length≤10000)
theorem zhV{x:Lab×List (Lab×Bool)}(h:lineB x=true):Toks x.1 x.2∧zeU x.1∧x.1.length≤10000:=by
 unfold lineB at h
 simp only[Bool.and_eq_true,decide_eq_true_eq,Bool.not_eq_true']at h
 obtain⟨⟨⟨h1,h2⟩,h3⟩,h4⟩:=h
 exact⟨zfp _ _ _ h1,⟨(fun e=>by have:=List.contains_iff_mem.2 e;rw[h2]at this;cases this),h3⟩,h4⟩
theorem zem:∀(ls:List Lab) (m:Nat),(∀l∈ls,l.length≤m)→(zas ls).length≤ls.length*(m+1)
 | [],m,_=>by simp[zas]
 |l::ls,m,h=>by
  have ih:=zem ls m fun x hx=>h x (List.mem_cons_of_mem _ hx)
  have:=h l (List.mem_cons_self ..)
  rw[zch,List.length_append,List.length_cons,List.length_cons,Nat.add_mul]
  omega
theorem lnsOk{xs:List (Lab×List (Lab×Bool))}(h:∀x∈xs,Toks x.1 x.2∧zeU x.1∧x.1.length≤100000)(hl:xs.length≤1000):zkU xs:=by
 refine⟨fun x hx=>⟨(h x hx).1,(h x hx).2.1,by have:=(h x hx).2.2;omega⟩,?_,by omega⟩
 have:=zem (xs.map Prod.fst) 100000 fun l hl=>by
  obtain⟨x,hx,rfl⟩:=List.mem_map.1 hl
  exact(h x hx).2.2
 rw[List.length_map]at this
 have h2:xs.length*(100000+1)≤1000*(100000+1):=Nat.mul_le_mul_right _ hl
 omega
theorem lnsB{xs:List (Lab×List (Lab×Bool))}(h:xs.all lineB=true)(hl:xs.length≤1000):zkU xs:=lnsOk (fun x hx=>by
 have:=zhV (List.all_eq_true.1 h x hx)
 exact⟨this.1,this.2.1,by have:=this.2.2;omega⟩) hl
def fewW(ws:List (Lab×Bool)):Bool:=decide (ws.length≤1000) && ws.all fun x=>decide (x.1.length≤10000)
theorem headR{st st':LdS}{ws:List (Lab×Bool)}{hs:List (Nat×Bool)}{e:Int}(hf:fewW ws=true)(hh:zbT 0 false false ws=hs)(hg:hs.all (fun y=>!y.2||decide ((decP 2147483647 (wdAt ws y.1)).2=0))=true)(ha:AddR st (tmH ws hs) (ws.drop hs.length) e st')(ho:st.owner.isSome=true):zk2 st ws e st':=by
 unfold fewW at hf
 simp only[Bool.and_eq_true,decide_eq_true_eq]at hf
 subst hh
 refine⟨by omega,fun x hx=>?_,fun y hy h2=>?_,ha,ho⟩
 ·have:=List.all_eq_true.1 hf.2 x hx
  have:=of_decide_eq_true this
  omega
 ·have:=List.all_eq_true.1 hg y hy
  rw[h2]at this
  simpa using this
section
variable {fl : List (Lab × Lab)} {inc : LdS → Lab → Option FltL → LdS → Prop} {st st' : LdS} {t ty : Lab} {q : Bool} {ws dw : List (Lab × Bool)} {hs : List (Nat × Bool)} {n : Nm} {d : DatL} {τ e : Int}
theorem zhm(ln:Int)(h36:[36].isPrefixOf t=false)(ht:t.length≤1000)(hn:zaI t st.origin=(n,0))(hf:fewW ws=true)(hh:zbT 0 false false ws=hs)(hg:hs.all (fun y=>!y.2||decide ((decP 2147483647 (wdAt ws y.1)).2=0))=true)
  (ha:AddR {st with line:=ln,owner:=some n} (tmH ws hs) (ws.drop hs.length) e st'):EntIs fl inc {st with line:=ln} ⟨ln,false,(t,false)::ws⟩ (fltE st' e) st':=by
 refine EntIs.rcd ln t ws e st' ?_ h36 (RecR.named t ws e st' (by omega) (by show(zaI t st.origin).2=0;rw[hn]) ?_)
 ·unfold fewW at hf
  simp only[Bool.and_eq_true,decide_eq_true_eq]at hf
  omega
 ·show zk2 {st with line:=ln,owner:=some (zaI t st.origin).1} ws e st'
  rw[hn]
  exact headR hf hh hg ha rfl
theorem zkm(ln:Int)(ho:st.owner=some n)(hf:fewW ((t,q)::ws)=true)(hh:zbT 0 false false ((t,q)::ws)=hs)(hg:hs.all (fun y=>!y.2||decide ((decP 2147483647 (wdAt ((t,q)::ws) y.1)).2=0))=true)
  (ha:AddR {st with line:=ln} (tmH ((t,q)::ws) hs) (((t,q)::ws).drop hs.length) e st'):EntIs fl inc {st with line:=ln} ⟨ln,true,(t,q)::ws⟩ (fltE st' e) st':=by
 refine EntIs.blank ln t q ws e st' ?_ (RecR.blank _ e st' (headR hf hh hg ha (by show st.owner.isSome=true;rw[ho];rfl)))
 ·unfold fewW at hf
  simp only[Bool.and_eq_true,decide_eq_true_eq,List.length_cons]at hf
  omega
theorem zdE{tm:Option Int}(ht:ty.length≤1000)(hp:(zbH ty).2=0)(hP:zd4 (zbH ty).1 dw st.origin d 0)(hout:st.out.length<4096)(ho:st.owner=some n)(hτ:orT (orT tm st.ttl) st.last=some τ):AddR st tm ((ty,false)::dw) 0 {st with last:=some τ,out:=st.out++ [⟨n,τ,d⟩]}:=
 AddR.data ty dw d 0 _ (by omega) hp hP (.inr ⟨rfl,hout,n,τ,ho,hτ,rfl⟩)
theorem add_bad{tm:Option Int}(ht:ty.length≤1000)(hp:(zbH ty).2=0)(hP:zd4 (zbH ty).1 dw st.origin d e)(he:¬e=0):AddR st tm ((ty,false)::dw) e st:=
 AddR.data ty dw d e _ (by omega) hp hP (.inl ⟨he,rfl⟩)
end
theorem prs_A{a b c d:UInt8}{s:Lab}{o:Nm}(hs:za6 hexU ⟨1,[],[],[],[a,b,c,d]⟩=s)(hw:wF false s [] false=[(s,false)]):zd4 1 [(s,false)] o ⟨1,[],[],[],[a,b,c,d]⟩ 0:=by
 have hc:za9 ⟨1,[],[],[],[a,b,c,d]⟩=0:=by rfl
 have:=zhN (o:=o) hc ⟨⟨(fun n h=>by cases h),Nat.zero_le _,Nat.zero_le _,(fun n h=>by cases h),Nat.zero_le _,(fun n h=>by cases h),(by show 4≤_;omega)⟩,Nat.zero_le _⟩
 rw[hs,hw]at this
 exact this
abbrev xs9a:List (Lab×List (Lab×Bool)):=[([36,84,84,76,32,54,48],[([36,84,84,76],false),([54,48],false)]),([64,32,73,78,32,65,32,49,46,50,46,51,46,52],[([64],false),([73,78],false),([65],false),([49,46,50,46,51,46,52],false)]),([36,73,78,67,76,85,68,69,32,98,32,115,117,98],[([36,73,78,67,76,85,68,69],false),([98],false),([115,117,98],false)]),([32,65,32,49,46,50,46,51,46,53],[([65],false),([49,46,50,46,51,46,53],false)]),([36,71,69,78,69,82,65,84,69,32,49,45,50,32,104,36,32,65,32,49,48,46,48,46,48,46,36],[([36,71,69,78,69,82,65,84,69],false),([49,45,50],false),([104,36],false),([65],false),([49,48,46,48,46,48,46,36],false)])]
abbrev xs9b:List (Lab×List (Lab×Bool)):=[([120,32,53,32,73,78,32,78,83,32,121],[([120],false),([53],false),([73,78],false),([78,83],false),([121],false)])]
abbrev xs9c:List (Lab×List (Lab×Bool)):=[([],[]),([64,32,65,32,49,46,50,46,51],[([64],false),([65],false),([49,46,50,46,51],false)])]
abbrev tx9a:Lab:=[36,84,84,76,32,54,48,10,64,32,73,78,32,65,32,49,46,50,46,51,46,52,10,36,73,78,67,76,85,68,69,32,98,32,115,117,98,10,32,65,32,49,46,50,46,51,46,53,10,36,71,69,78,69,82,65,84,69,32,49,45,50,32,104,36,32,65,32,49,48,46,48,46,48,46,36,10]
abbrev tx9b:Lab:=[120,32,53,32,73,78,32,78,83,32,121,10]
abbrev tx9c:Lab:=[10,64,32,65,32,49,46,50,46,51,10]
abbrev fl9:List (Lab×Lab):=[([97],tx9a),([98],tx9b)]
abbrev o9:Nm:=[[111]]
abbrev oS:Nm:=[[115,117,98],[111]]
def rc1:RecL:=⟨o9,60,⟨1,[],[],[],[1,2,3,4]⟩⟩
def rc2:RecL:=⟨[120]::oS,5,⟨2,[[121]::oS],[],[],[]⟩⟩
def rc3:RecL:=⟨o9,60,⟨1,[],[],[],[1,2,3,5]⟩⟩
def rc4:RecL:=⟨[[104,49],[111]],60,⟨1,[],[],[],[10,0,0,1]⟩⟩
def rc5:RecL:=⟨[[104,50],[111]],60,⟨1,[],[],[],[10,0,0,2]⟩⟩
theorem pA1(o:Nm):zd4 1 [(tA4,false)] o ⟨1,[],[],[],[1,2,3,4]⟩ 0:=prs_A (by decide+kernel) (by decide+kernel)
theorem pA2(o:Nm):zd4 1 [([49,46,50,46,51,46,53],false)] o ⟨1,[],[],[],[1,2,3,5]⟩ 0:=prs_A (by decide+kernel) (by decide+kernel)
theorem pA3(o:Nm):zd4 1 [([49,48,46,48,46,48,46,49],false)] o ⟨1,[],[],[],[10,0,0,1]⟩ 0:=prs_A (by decide+kernel) (by decide+kernel)
theorem pA4(o:Nm):zd4 1 [([49,48,46,48,46,48,46,50],false)] o ⟨1,[],[],[],[10,0,0,2]⟩ 0:=prs_A (by decide+kernel) (by decide+kernel)
theorem pT1:zbH [65]=(1,0):=by decide+kernel
theorem pT2:zbH [78,83]=(2,0):=by decide+kernel
theorem put9{s out nd:Lab}{n:Int}{f0:Nat}(hs:s.length≤10000)(hnd:nd.length≤100)(h0:0≤n)(h1:n≤1000000000)(hi:Lib.itoa n=nd)(hp:putN (fun _=>Option.none) nd f0 s=some (out,0)):zkP s n out:=fun w hW=>by
 refine Put_ok hW hs hnd (fun v hv=>?_) (fun i d e h=>(by cases h)) hp (.inl rfl)
 rw[←hi]
 exact zkZ hv n (by omega) (by omega)
theorem puts3{a b c a2 b2 c2:Lab}{n:Int}(h1:zkP a n a2)(h2:zkP b n b2)(h3:zkP c n c2):zkO [(a,false),(b,false),(c,false)] n [(a2,false),(b2,false),(c2,false)]:=by
 refine⟨rfl,fun i h h'=>?_,fun i h h'=>?_⟩
 ·rcases i with _|_|_|i
  ·exact h1
  ·exact h2
  ·exact h3
  ·simp at h;omega
 ·rcases i with _|_|_|i
  ·rfl
  ·rfl
  ·rfl
  ·simp at h;omega
theorem it1:Lib.itoa 1=[49]:=itoa_1
theorem it2:Lib.itoa 2=[50]:=(zhY (n:=2) (by decide)).trans rfl
theorem ps9{n:Int}{c:UInt8}(h0:0≤n)(h1:n≤1000000000)(hi:Lib.itoa n=[c])(a1:putN (fun _=>Option.none) [c] 100 [104,36]=some ([104,c],0))(a2:putN (fun _=>Option.none) [c] 100 [65]=some ([65],0))(a3:putN (fun _=>Option.none) [c] 100 [49,48,46,48,46,48,46,36]=some ([49,48,46,48,46,48,46,c],0)):
  zkO [([104,36],false),([65],false),([49,48,46,48,46,48,46,36],false)] n [([104,c],false),([65],false),([49,48,46,48,46,48,46,c],false)]:=puts3 (put9 (by decide) (Nat.le_of_ble_eq_true rfl) h0 h1 hi a1) (put9 (by decide) (Nat.le_of_ble_eq_true rfl) h0 h1 hi a2) (put9 (by decide) (Nat.le_of_ble_eq_true rfl) h0 h1 hi a3)
theorem fb9(st:LdS)(hr:st.reads.length≤900)(ho:st.origin=oS)(hx:st.out.length<4096):zbG fl9 1 st [98] Option.none {st with path:=[98],line:=1,owner:=some ([120]::oS),last:=some 5,out:=st.out++ [rc2]}:=by
 refine⟨xs9b,{st with path:=[98],line:=1,owner:=some ([120]::oS),last:=some 5,out:=st.out++ [rc2],reads:=st.reads++ [[98]]},by decide+kernel,lnsB (by decide+kernel) (by decide),by omega,?_,fun _=>⟨by simp,by simp;omega,by simp⟩,fun h=>absurd rfl h⟩
 refine EntsIs.more _ _ [] _ _ _ (by simp;omega) ?_ (.nil _)
 refine zhm (n:=[120]::oS) (hs:=[(0,true),(1,false)]) (e:=0) 1 (by decide) (by decide) (by show zaI [120] st.origin=_;rw[ho];decide+kernel) (by decide) (by decide+kernel) (by decide+kernel) ?_
 refine zdE (d:=⟨2,[[121]::oS],[],[],[]⟩) (n:=[120]::oS) (τ:=5) (by decide) (by rw[pT2]) ?_ hx rfl rfl
 rw[pT2]
 exact prs_name (.inl rfl) (by show zaI [121] st.origin=_;rw[ho];decide+kernel) (by decide) (by decide)
theorem fa9:zeT fl9 [97] o9 Option.none ⟨[97],5,o9,some [[104,50],[111]],some 60,some 60,[rc1,rc2,rc3,rc4,rc5],[],1⟩:=by
 refine .inl ⟨2,xs9a,⟨[97],5,o9,some [[104,50],[111]],some 60,some 60,[rc1,rc2,rc3,rc4,rc5],[[97]],1⟩,by decide+kernel,lnsB (by decide+kernel) (by decide),by decide,?_,fun _=>⟨by decide,by decide,rfl⟩,fun h=>absurd rfl h⟩
 -- the time
 refine EntsIs.more _ ⟨1,false,[(wTtl,false),([54,48],false)]⟩ _ ⟨[97],1,o9,Option.none,some 60,Option.none,[],[[97]],0⟩ _ _ (by decide) ?_ ?_
 ·have hd:decP 2147483647 [54,48]=(60,0):=by decide+kernel
  have:=DirIs.ttl (fl:=fl9) (inc:=zbG fl9 1) (st:=⟨[97],1,o9,Option.none,Option.none,Option.none,[],[[97]],0⟩) [54,48] (by decide)
  rw[hd,if_pos rfl]at this
  exact EntIs.dir _ _ _ _ _ (by decide) this
 -- an address
 refine EntsIs.more _ ⟨2,false,[([64],false),([73,78],false),([65],false),(tA4,false)]⟩ _ ⟨[97],2,o9,some o9,some 60,some 60,[rc1],[[97]],0⟩ _ _ (by decide) ?_ ?_
 ·refine zhm (st:=⟨[97],1,o9,Option.none,some 60,Option.none,[],[[97]],0⟩) (n:=o9) (hs:=[(0,false)]) (e:=0) 2 (by decide) (by decide) (by decide+kernel) (by decide) (by decide+kernel) (by decide+kernel) ?_
  exact zdE (d:=⟨1,[],[],[],[1,2,3,4]⟩) (n:=o9) (τ:=60) (by decide) (by rw[pT1]) (by rw[pT1];exact pA1 _) (by decide) rfl rfl
 -- another file
 refine EntsIs.more _ ⟨3,false,[(wInc,false),([98],false),([115,117,98],false)]⟩ _ ⟨[97],3,o9,some o9,some 60,some 60,[rc1,rc2],[[97]],1⟩ _ _ (by decide) ?_ ?_
 ·refine EntIs.dir _ _ _ _ _ (by decide) (.incl _ _ _ ?_)
  have hn:zaI [115,117,98] o9=(oS,0):=by decide+kernel
  refine AskIs.two _ _ _ _ _ (by decide) (by show(zaI [115,117,98] o9).2=0;rw[hn]) (by show NmT (zaI [115,117,98] o9).1;rw[hn];exact⟨by decide,by decide⟩) ?_
  show IncIs fl9 (zbG fl9 1) _ _ (zaI [115,117,98] o9).1 _ _
  rw[hn]
  exact IncIs.read (fl:=fl9) (st:=⟨[97],3,o9,some o9,some 60,some 60,[rc1],[[97]],0⟩) (p:=[98]) _ _ (by decide+kernel) (by decide) (by decide) (by decide) (by decide) (fb9 ⟨[97],3,oS,some o9,some 60,some 60,[rc1],[[97]],1⟩ (by decide) rfl (by decide))
 -- an address of the same owner
 refine EntsIs.more _ ⟨4,true,[([65],false),([49,46,50,46,51,46,53],false)]⟩ _ ⟨[97],4,o9,some o9,some 60,some 60,[rc1,rc2,rc3],[[97]],1⟩ _ _ (by decide) ?_ ?_
 ·refine zkm (st:=⟨[97],3,o9,some o9,some 60,some 60,[rc1,rc2],[[97]],1⟩) (n:=o9) (hs:=[]) (e:=0) 4 rfl (by decide) (by decide+kernel) (by decide+kernel) ?_
  exact zdE (d:=⟨1,[],[],[],[1,2,3,5]⟩) (n:=o9) (τ:=60) (by decide) (by rw[pT1]) (by rw[pT1];exact pA2 _) (by decide) rfl rfl
 -- a range
 refine EntsIs.more _ ⟨5,false,[(wGen,false),([49,45,50],false),([104,36],false),([65],false),([49,48,46,48,46,48,46,36],false)]⟩ _ _ _ _ (by decide) ?_ (.nil _)
 refine EntIs.dir _ _ _ _ _ (by decide) (.gen _ _ 1 2 1 [1,2] _ (by decide+kernel) (by decide+kernel) ?_ (by decide) (by decide) (by decide) (by decide) (by decide))
 refine GenRun.more _ _ _ [104,49] false [([65],false),([49,48,46,48,46,48,46,49],false)] ⟨[97],5,o9,some [[104,49],[111]],some 60,some 60,[rc1,rc2,rc3,rc4],[[97]],1⟩ _ (ps9 (by decide) (by decide) it1 (by decide+kernel) (by decide+kernel) (by decide+kernel)) (by decide) (by decide+kernel) ?_ ?_
 ·have hn:zaI [104,49] o9=([[104,49],[111]],0):=by decide+kernel
  show AddR {(⟨[97],5,o9,some o9,some 60,some 60,[rc1,rc2,rc3],[[97]],1⟩:LdS) with owner:=some (zaI [104,49] o9).1} _ _ _ _
  rw[hn]
  exact zdE (d:=⟨1,[],[],[],[10,0,0,1]⟩) (n:=[[104,49],[111]]) (τ:=60) (by decide) (by rw[pT1]) (by rw[pT1];exact pA3 _) (by decide) rfl rfl
 refine GenRun.more _ _ _ [104,50] false [([65],false),([49,48,46,48,46,48,46,50],false)] _ _ (ps9 (by decide) (by decide) it2 (by decide+kernel) (by decide+kernel) (by decide+kernel)) (by decide) (by decide+kernel) ?_ (.done _)
 have hn:zaI [104,50] o9=([[104,50],[111]],0):=by decide+kernel
 show AddR {(⟨[97],5,o9,some [[104,49],[111]],some 60,some 60,[rc1,rc2,rc3,rc4],[[97]],1⟩:LdS) with owner:=some (zaI [104,50] o9).1} _ _ _ _
 rw[hn]
 exact zdE (d:=⟨1,[],[],[],[10,0,0,2]⟩) (n:=[[104,50],[111]]) (τ:=60) (by decide) (by rw[pT1]) (by rw[pT1];exact pA4 _) (by decide) rfl rfl
theorem fc9:zeT fl9 [99] [] (some ⟨[99],0,4⟩) (ld0 []):= .inr ⟨by decide+kernel,rfl,rfl⟩
abbrev fl9c:List (Lab×Lab):=[([97],tx9c)]
theorem fd9:zeT fl9c [97] [] (some ⟨[97],2,2⟩) ⟨[97],2,[],some [],Option.none,Option.none,[],[[97]],0⟩:=by
 refine .inl ⟨1,xs9c,⟨[97],2,[],some [],Option.none,Option.none,[],[[97]],0⟩,by decide+kernel,lnsB (by decide+kernel) (by decide),by decide,?_,(fun h=>by cases h),fun _=>rfl⟩
 refine EntsIs.flt _ ⟨2,false,[([64],false),([65],false),(tA3,false)]⟩ [] _ _ (by decide) ?_
 have:=zhm (fl:=fl9c) (inc:=zbG fl9c 0) (st:=⟨[97],0,[],Option.none,Option.none,Option.none,[],[[97]],0⟩) (t:=[64]) (ws:=[([65],false),(tA3,false)]) (st':=⟨[97],2,[],some [],Option.none,Option.none,[],[[97]],0⟩) (n:=[]) (hs:=[]) (e:=2) 2 (by decide) (by decide) (by decide+kernel) (by decide) (by decide+kernel) (by decide+kernel) (add_bad (d:=⟨1,[],[],[],[]⟩) (by decide) (by rw[pT1]) (by rw[pT1];exact prs_A3 _ _) (by decide))
 exact this
set_option maxRecDepth 100000
theorem k9a:recT rc2=[120,46,115,117,98,46,111,46,32,53,32,73,78,32,78,83,32,121,46,115,117,98,46,111,46]:=by decide+kernel
theorem k9b:recT rc3=[111,46,32,54,48,32,73,78,32,65,32,49,46,50,46,51,46,53]:=by decide+kernel
theorem k9c:recT rc5=[104,50,46,111,46,32,54,48,32,73,78,32,65,32,49,48,46,48,46,48,46,50]:=by decide+kernel
theorem rc2_T:RecT rc2:=⟨by decide,by decide,by decide,⟨⟨by decide,by decide,by decide,by decide,by decide,by decide,by decide⟩,by decide⟩⟩
theorem rc3_T:RecT rc3:=⟨by decide,by decide,by decide,⟨⟨by decide,by decide,by decide,by decide,by decide,by decide,by decide⟩,by decide⟩⟩
theorem rc5_T:RecT rc5:=⟨by decide,by decide,by decide,⟨⟨by decide,by decide,by decide,by decide,by decide,by decide,by decide⟩,by decide⟩⟩
theorem zgF{w:World}{b:Nat}{a1 a2 b1 b2:Lab}{T:TypeId}{fr:Nat×Nat}(h:w.heap[b]? =some (.cells #[vs a1,vs a2,vs b1,vs b2] T fr)):Rows 2 zdT w (.slice (some ⟨b,0,Option.none⟩) [(a1,a2),(b1,b2)].length 2) [(a1,a2),(b1,b2)]:=by
 refine Rows.close (Nat.le_refl _) (fun i hi=>?_)
 have hi2:i=0∨i=1:=by
  have h2:i<2:=hi
  omega
 rcases hi2 with rfl|rfl
 ·exact⟨_,by rw[zaY];exact zav h (Nat.le_of_ble_eq_true rfl),rfl⟩
 ·exact⟨_,by rw[zaY];exact zav h (Nat.le_of_ble_eq_true rfl),rfl⟩
theorem zkh{w:World}{b:Nat}{a1 a2:Lab}{T:TypeId}{fr:Nat×Nat}(h:w.heap[b]? =some (.cells #[vs a1,vs a2] T fr)):Rows 2 zdT w (.slice (some ⟨b,0,Option.none⟩) [(a1,a2)].length 1) [(a1,a2)]:=by
 refine Rows.close (Nat.le_refl _) (fun i hi=>?_)
 have hi2:i=0:=by
  have h2:i<1:=hi
  omega
 subst hi2
 exact⟨_,by rw[zaY];exact zav h (Nat.le_of_ble_eq_true rfl),rfl⟩
theorem zkY{w0:World}(hX:WX w0)(hY:WY w0):Fn Tryz.prog 8 #[] w0 (fun v w'=>v= .bool true∧Ext w0 w'):=by
 refine enter Tryz.func8 Tryz.ntmps8 rfl rfl ?_
 refine go trivial ?_
 refine rq ?_;intro gd K hgd hK
 try simp only[go_sem]
 refine⟨by kernel_rfl,?_⟩
 refine zes (v:= .agg #[vs [97],vs tx9a]) (by kernel_rfl) ?_
 try simp only[go_sem]
 refine⟨by kernel_rfl,?_⟩
 refine zes (v:= .agg #[vs [98],vs tx9b]) (by kernel_rfl) ?_
 try simp only[go_sem]
 refine zkB (e:=48) (arr:=#[vs [97],vs tx9a,vs [98],vs tx9b]) (by kernel_rfl) ?_
 intro w1 e1 s1 b1
 try simp only[go_sem]
 refine hK _ _ ?_;clear hK hgd;clear K;try clear gd
 have hf1:=zgF b1
 obtain⟨c1,hc1⟩:∃c,w0.heap.size=c:=⟨_,rfl⟩
 rw[hc1]at hf1 ⊢
 refine go trivial ?_
 refine rq ?_;intro gd K hgd hK
 try simp only[go_sem]
 refine zfX (z:=vs []) (l:=[vs [111]]) rfl rfl rfl rfl rfl rfl (fun v hv=>by simp at hv;rcases hv with rfl;rfl) (by simp) ?_
 intro w2 e2 s2 o2
 have e02:=e1.trans e2
 try simp only[go_sem]
 refine Fn.mono (zf3 (o:=o9) (hX.ext e02) (hf1.ext e2) (by decide) o2.row ⟨by decide,by decide⟩ fa9) ?_
 rintro _ w3 ⟨e3,rv,rfl,hR⟩
 try simp only[go_sem]
 refine hK _ _ ?_;clear hK hgd;clear K;try clear gd
 have e03:=e02.trans e3
 obtain⟨L,hR1,hR2,hR3⟩:=hR
 refine go trivial ?_
 refine rq ?_;intro gd K hgd hK
 try simp only[go_sem]
 refine Fn.mono (zf3 (o:=[]) (hX.ext e03) (hf1.ext (e2.trans e3)) (by decide) (zjS _) ⟨by decide,by decide⟩ fc9) ?_
 rintro _ w4 ⟨e4,p4,rfl,hp4⟩
 try simp only[go_sem]
 refine hK _ _ ?_;clear hK hgd;clear K;try clear gd
 have e04:=e03.trans e4
 refine go trivial ?_
 refine rq ?_;intro gd K hgd hK
 try simp only[go_sem]
 refine⟨by kernel_rfl,?_⟩
 refine zes (v:= .agg #[vs [97],vs tx9c]) (by kernel_rfl) ?_
 try simp only[go_sem]
 refine zkB (e:=48) (arr:=#[vs [97],vs tx9c]) (by kernel_rfl) ?_
 intro w5 e5 s5 b5
 have hf5:=zkh b5
 try simp only[go_sem]
 refine Fn.mono (zf3 (o:=[]) (hX.ext (e04.trans e5)) hf5 (by decide) (zjS _) ⟨by decide,by decide⟩ fd9) ?_
 rintro _ w6 ⟨e6,p6,rfl,hp6⟩
 try simp only[go_sem]
 refine hK _ _ ?_;clear hK hgd;clear K;try clear gd
 have e06:=(e04.trans e5).trans e6
 obtain⟨ra,rcap,rfl,hrc⟩:∃ra rcap,rv= .slice ra 5 rcap∧True:=by
  obtain⟨a,c,h,_⟩:=hR1
  rw[hR2]at h
  exact⟨a,c,h,trivial⟩
 have e36:=(e4.trans e5).trans e6
 have hrows:Rows 7 (RecAt w6) w6 (.slice ra 5 rcap) [rc1,rc2,rc3,rc4,rc5]:=(Rows.ext ⟨L,hR1,hR2,hR3⟩ e36).to fun cs a h=>h.ext e36
 obtain⟨_,_,hg⟩:=zcz hrows
 obtain⟨cs1,g1,r1⟩:=hg 1 (by decide)
 obtain⟨cs2,g2,r2⟩:=hg 2 (by decide)
 obtain⟨cs4,g4,r4⟩:=hg 4 (by decide)
 obtain⟨xa,rfl⟩:=Option.isSome_iff_exists.1 (zaA g1)
 refine go trivial ?_
 have d5:decide (((5:Nat):Int)=5)=true:=rfl
 refine rgg [(2,32),(7,37),(11,41)] (an2 d5 trivial) ?_
 refine go trivial ?_
 refine rc trivial (zf6 (hf1.ext (e2.trans (e3.trans e36))) (by decide) [98]) ?_
 rintro _ w7 ⟨rfl,e7⟩
 rw[show zbU [98] fl9=(tx9b,true) from by decide+kernel]
 refine rgo trivial ?_
 have g1:=zah e7 g1
 have g2:=zah e7 g2
 have g4:=zah e7 g4
 obtain⟨x1,hx1⟩:∃x,adr (some xa) (1*7)=some x:=⟨_,rfl⟩
 obtain⟨x2,hx2⟩:∃x,adr (some xa) (2*7)=some x:=⟨_,rfl⟩
 obtain⟨x4,hx4⟩:∃x,adr (some xa) (4*7)=some x:=⟨_,rfl⟩
 rw[hx1]at g1
 rw[hx2]at g2
 rw[hx4]at g4
 have z1:(0:Int)≤1:=by decide
 have z2:(0:Int)≤2:=by decide
 have z4:(0:Int)≤4:=by decide
 have l1:(1:Int)<5:=by decide
 have l2:(2:Int)<5:=by decide
 have l4:(4:Int)<5:=by decide
 have t1:(1:Int).toNat=1:=rfl
 have t2:(2:Int).toNat=2:=rfl
 have t4:(4:Int).toNat=4:=rfl
 have hY7:=hY.ext (e06.trans e7)
 refine rq ?_;intro gd K hgd hK
 have hg5:∀n σ b,zaw gd n σ (some (5,b))=zap (ev n σ (.tmp 55)) b:=(fun n σ b=>by rw[zag,show gd 5=some 55 from(by rw[hgd];rfl)];rfl);have hg12:∀n σ b,zaw gd n σ (some (12,b))=zap (ev n σ (.tmp 62)) b:=(fun n σ b=>by rw[zag,show gd 12=some 62 from(by rw[hgd];rfl)];rfl);have hg19:∀n σ b,zaw gd n σ (some (19,b))=zap (ev n σ (.tmp 69)) b:=(fun n σ b=>by rw[zag,show gd 19=some 69 from(by rw[hgd];rfl)];rfl);have hg26:∀n σ b,zaw gd n σ (some (26,b))=zap (ev n σ (.tmp 76)) b:=(fun n σ b=>by rw[zag,show gd 26=some 76 from(by rw[hgd];rfl)];rfl);have hg33:∀n σ b,zaw gd n σ (some (33,b))=zap (ev n σ (.tmp 83)) b:=(fun n σ b=>by rw[zag,show gd 33=some 83 from(by rw[hgd];rfl)];rfl);have hg38:∀n σ b,zaw gd n σ (some (38,b))=zap (ev n σ (.tmp 88)) b:=(fun n σ b=>by rw[zag,show gd 38=some 88 from(by rw[hgd];rfl)];rfl);have hg41:∀n σ b,zaw gd n σ (some (41,b))=zap (ev n σ (.tmp 91)) b:=(fun n σ b=>by rw[zag,show gd 41=some 91 from(by rw[hgd];rfl)];rfl)
 try simp (disch:=first|omega|assumption|rfl) only[go_sem,z1,l1,t1,hx1,g1,↓hg5,↓hg12,↓hg19,↓hg26,↓hg33,↓hg38,↓hg41]
 refine Fn.mono (zb6 (r:=rc2) hY7 (r1.ext e7) rc2_T) ?_
 rintro _ w8 ⟨rfl,e8⟩
 rw[k9a]
 have d1:decide (([120,46,115,117,98,46,111,46,32,53,32,73,78,32,78,83,32,121,46,115,117,98,46,111,46]:Lab)=[120,46,115,117,98,46,111,46,32,53,32,73,78,32,78,83,32,121,46,115,117,98,46,111,46])=true:=decide_eq_true rfl
 have g2:=zah e8 g2
 try simp (disch:=first|omega|assumption|rfl) only[go_sem,d1,z2,l2,t2,hx2,g2,↓hg5,↓hg12,↓hg19,↓hg26,↓hg33,↓hg38,↓hg41]
 refine Fn.mono (zb6 (r:=rc3) (hY7.ext e8) ((r2.ext e7).ext e8) rc3_T) ?_
 rintro _ w9 ⟨rfl,e9⟩
 rw[k9b]
 have d2:decide (([111,46,32,54,48,32,73,78,32,65,32,49,46,50,46,51,46,53]:Lab)=[111,46,32,54,48,32,73,78,32,65,32,49,46,50,46,51,46,53])=true:=decide_eq_true rfl
 have g4:=zah (e8.trans e9) g4
 try simp (disch:=first|omega|assumption|rfl) only[go_sem,d2,z4,l4,t4,hx4,g4,↓hg5,↓hg12,↓hg19,↓hg26,↓hg33,↓hg38,↓hg41]
 refine Fn.mono (zb6 (r:=rc5) (hY7.ext (e8.trans e9)) ((r4.ext e7).ext (e8.trans e9)) rc5_T) ?_
 rintro _ y1 ⟨rfl,f1⟩
 rw[k9c]
 have d3:decide (([104,50,46,111,46,32,54,48,32,73,78,32,65,32,49,48,46,48,46,48,46,50]:Lab)=[104,50,46,111,46,32,54,48,32,73,78,32,65,32,49,48,46,48,46,48,46,50])=true:=decide_eq_true rfl
 have e71:=(e8.trans e9).trans f1
 have k1:zad y1 (some ⟨p4,1,Option.none⟩)=some (vi 0):=zaa (Ext.at (((e5.trans e6).trans e7).trans e71) hp4) rfl
 have k2:zad y1 (some ⟨p4,2,Option.none⟩)=some (vi 4):=zaa (Ext.at (((e5.trans e6).trans e7).trans e71) hp4) rfl
 try simp (disch:=first|omega|assumption|rfl) only[go_sem,d3,k1,k2,Nat.zero_add,↓hg5,↓hg12,↓hg19,↓hg26,↓hg33,↓hg38,↓hg41]
 refine Fn.mono (zf7 ((hX.ext (e06.trans e7)).ext e71) (Ext.at (e7.trans e71) hp6) (by decide) (by decide) (by decide)) ?_
 rintro _ y2 ⟨rfl,f2⟩
 rw[show ([97]++ [58]++Lib.itoa 2++ [58,32]++ [102,111,114,109]:Lab)=[97,58,50,58,32,102,111,114,109] from by rw[it2];rfl]
 have d4:decide (([97,58,50,58,32,102,111,114,109]:Lab)=[97,58,50,58,32,102,111,114,109])=true:=decide_eq_true rfl
 try simp (disch:=first|omega|assumption|rfl) only[go_sem,d4,↓hg5,↓hg12,↓hg19,↓hg26,↓hg33,↓hg38,↓hg41]
 refine hK _ _ ?_;clear hK hgd;clear K;try clear gd
 refine go trivial ?_
 refine rt0 Tryz.ntmps8 ?_
 exact⟨rfl,(e06.trans e7).trans (e71.trans f2)⟩
set_option maxRecDepth 10000
theorem zk0{w:World}{av bv:Value}{n:Nm}(ha:Row w av (n.map vs))(hb:Row w bv (n.map vs))(hl:n.length≤1000000000):Fn Tryz.prog 35 #[av,bv] w (fun v w'=>v= .bool true∧Ext w w'):=by
 obtain⟨a,ca,rfl,hga⟩:=zc9 ha
 obtain⟨b,cb,rfl,hgb⟩:=zc9 hb
 refine enter Tryz.func35 Tryz.ntmps35 rfl rfl ?_
 have d0:decide ((n.length:Int)=(n.length:Int))=true:=decide_eq_true rfl
 refine go d0 ?_
 refine zba n.length (fun i σ v=>(σ 0= .slice a n.length ca∧σ 1= .slice b n.length cb∧σ 5=vi i)∧Ext w v) ?_ ?_ ?_
 ·exact⟨⟨vr0,vr0,vr0⟩,Keep.refl _ _⟩
 ·rintro i σ v hi ⟨r1,r2,r3,r4⟩ ⟨⟨s0,s1,s5⟩,hE⟩
  obtain⟨xa,rfl,g0⟩:=hga i hi
  obtain⟨xb,rfl,g1⟩:=hgb i hi
  obtain⟨t,ht⟩:∃t,n[i]=t:=⟨_,rfl⟩
  rw[ht]at g0 g1
  refine go (an4 s0 s1 s5 r1) ?_
  refine zat (Q:=fun e' σ' ds' v'=>e'= .normal∧ds'=[]∧(σ' 0= .slice (some xa) n.length ca∧σ' 1= .slice (some xb) n.length cb∧σ' 5=vi i)∧Ext v v'∧σ' 25= .bool false) ?_ ?_
  ·refine zaT (fun _=>false) [(0,true),(1,true),(2,true),(3,true),(4,true),(5,true),(6,true),(7,true),(8,true)] NoS mixed (by kernel_rfl) ?_;intro gd K x hgd hx hxe hK;have hx0:=zaR hxe;clear hxe
   have u0:=zab (hE.trans hx0) g0
   have u1:=zab (hE.trans hx0) g1
   have ht:decide (t=t)=true:=decide_eq_true rfl
   simp (disch:=first|omega|assumption|rfl) only[go_sem,s0,s1,s5,r2,r3,u0,u1,ht,Nat.mul_one,Int.toNat_natCast,Bool.not_true]
   refine hK _ _ ?_;clear hK hgd;clear K;try clear gd
   exact⟨rfl,rfl,⟨(vq1 s0),(vq1 s1),(vq1 s5)⟩,hx0,vr0⟩
  clear s0 s1 s5
  rintro _ σ1 _ v1 ⟨rfl,rfl,⟨s0,s1,s5⟩,hE1,s25⟩
  refine go (an5 s0 s1 s5 s25 r4) ?_
  exact⟨rfl,⟨(vq1 s0),(vq1 s1),(vq1 r4)⟩,hE.trans hE1⟩
 ·rintro σ v r ⟨⟨s0,s1,s5⟩,hE⟩
  refine go (an4 s0 s1 s5 r) ?_
  refine rt0 Tryz.ntmps35 ?_
  exact⟨rfl,hE⟩
theorem zjm{w:World}{v:Value}{l:List UInt8}(h:Row w v (l.map zao)):∃a c,v= .slice a l.length c∧∀i (hi:i<l.length),zad w (adr a i)=some (zao l[i]):=by
 obtain⟨a,c,rfl,_,hg⟩:=h
 refine⟨a,c,by rw[List.length_map],fun i hi=>?_⟩
 have g:=hg i (by rw[List.length_map];exact hi)
 rwa [List.getElem_map]at g
theorem IsD_ok{w:World}{ca cb:List Value}{d:DatL}(ha:DatAt w ca d)(hb:DatAt w cb d)(hT:DatT d):Fn Tryz.prog 36 #[.agg ca.toArray,.agg cb.toArray] w (fun v w'=>v= .bool true∧Ext w w'):=by
 have hS:=hT.s
 have hnl:=hT.nn
 have hul:=hS.nu
 have htl:=hS.nt
 have hrl:=hS.nr
 obtain⟨nm,nu,tx,rw',rfl,⟨vals,⟨an,cn,rfl,hcn,hgn⟩,hvl,hvr⟩,hnu,htx,hrw⟩:=ha.ex
 obtain⟨nm2,nu2,tx2,rw2,rfl,⟨vals2,⟨an2,cn2,rfl,hcn2,hgn2⟩,hvl2,hvr2⟩,hnu2,htx2,hrw2⟩:=hb.ex
 obtain⟨au,cu,hau,hcu,hgu⟩:=id hnu
 obtain⟨au2,cu2,hau2,hcu2,hgu2⟩:=id hnu2
 obtain⟨at1,ct,hat,hgt⟩:=zc9 htx
 obtain⟨at2,ct2,hat2,hgt2⟩:=zc9 htx2
 obtain⟨ar,cr,har,hgr⟩:=zjm hrw
 obtain⟨ar2,cr2,har2,hgr2⟩:=zjm hrw2
 rw[List.length_map]at hau hau2 hcu hcu2
 subst hau hat har hau2 hat2 har2
 rw[hvl]at hcn ⊢
 rw[hvl2]at hcn2 ⊢
 refine enter Tryz.func36 Tryz.ntmps36 rfl rfl ?_
 refine go trivial ?_
 refine zc1 ?_
 intro w1 hE1 hs1 hA hB
 simp only[zaB]
 obtain⟨p,hp⟩:∃p,w.heap.size=p:=⟨_,rfl⟩
 rw[hp]at hA hB ⊢
 have p0:zad w1 (some ⟨p,0,Option.none⟩)=some (vi d.ty):=zaa hA rfl
 have p1:zad w1 (some ⟨p,1,Option.none⟩)=some (.slice an d.names.length cn):=zaa hA rfl
 have p2:zad w1 (some ⟨p,2,Option.none⟩)=some (.slice au d.nums.length cu):=zaa hA rfl
 have p3:zad w1 (some ⟨p,3,Option.none⟩)=some (.slice at1 d.texts.length ct):=zaa hA rfl
 have p4:zad w1 (some ⟨p,4,Option.none⟩)=some (.slice ar d.raw.length cr):=zaa hA rfl
 have q0:zad w1 (some ⟨p+1,0,Option.none⟩)=some (vi d.ty):=zaa hB rfl
 have q1:zad w1 (some ⟨p+1,1,Option.none⟩)=some (.slice an2 d.names.length cn2):=zaa hB rfl
 have q2:zad w1 (some ⟨p+1,2,Option.none⟩)=some (.slice au2 d.nums.length cu2):=zaa hB rfl
 have q3:zad w1 (some ⟨p+1,3,Option.none⟩)=some (.slice at2 d.texts.length ct2):=zaa hB rfl
 have q4:zad w1 (some ⟨p+1,4,Option.none⟩)=some (.slice ar2 d.raw.length cr2):=zaa hB rfl
 have dt:decide (d.ty=d.ty)=true:=decide_eq_true rfl
 have dn:decide ((d.names.length:Int)=(d.names.length:Int))=true:=decide_eq_true rfl
 have du:decide ((d.nums.length:Int)=(d.nums.length:Int))=true:=decide_eq_true rfl
 have dx:decide ((d.texts.length:Int)=(d.texts.length:Int))=true:=decide_eq_true rfl
 have dr:decide (d.raw=d.raw)=true:=decide_eq_true rfl
 refine zat (Q:=fun e' σ' ds' v'=>e'= .normal∧ds'=[]∧v'=w1∧(σ' 2= .pointer (some ⟨p,0,Option.none⟩)∧σ' 3= .pointer (some ⟨p+1,0,Option.none⟩))∧σ' 47= .bool false) ?_ ?_
 ·refine go trivial ?_
  refine rq ?_;intro gd K hgd hK
  have hg5:∀n σ b,zaw gd n σ (some (5,b))=zap (ev n σ (.tmp 12)) b:=(fun n σ b=>by rw[zag,show gd 5=some 12 from(by rw[hgd];rfl)];rfl);have hg14:∀n σ b,zaw gd n σ (some (14,b))=zap (ev n σ (.tmp 21)) b:=(fun n σ b=>by rw[zag,show gd 14=some 21 from(by rw[hgd];rfl)];rfl);have hg23:∀n σ b,zaw gd n σ (some (23,b))=zap (ev n σ (.tmp 30)) b:=(fun n σ b=>by rw[zag,show gd 23=some 30 from(by rw[hgd];rfl)];rfl);have hg32:∀n σ b,zaw gd n σ (some (32,b))=zap (ev n σ (.tmp 39)) b:=(fun n σ b=>by rw[zag,show gd 32=some 39 from(by rw[hgd];rfl)];rfl)
  simp only[List.append_eq,List.cons_append,List.nil_append]
  try simp (disch:=first|omega|assumption|rfl) only[go_sem,p0,p1,p2,p3,p4,q0,q1,q2,q3,q4,dt,dn,du,dx,Bool.not_true,Nat.add_zero,Nat.add_right_cancel_iff,↓hg5,↓hg14,↓hg23,↓hg32]
  refine zcn (l:=d.raw) (a:=ar) (c:=cr) rfl rfl rfl (vr0) (fun j hj=>zab hE1 (hgr j hj)) ?_
  try simp (disch:=first|omega|assumption|rfl) only[go_sem,p0,p1,p2,p3,p4,q0,q1,q2,q3,q4,dt,dn,du,dx,Bool.not_true,Nat.add_zero,↓hg5,↓hg14,↓hg23,↓hg32]
  refine zcn (l:=d.raw) (a:=ar2) (c:=cr2) rfl rfl rfl (vr0) (fun j hj=>zab hE1 (hgr2 j hj)) ?_
  try simp (disch:=first|omega|assumption|rfl) only[go_sem,dr,Bool.not_true,↓hg5,↓hg14,↓hg23,↓hg32]
  refine hK _ _ ?_;clear hK hgd;clear K;try clear gd
  exact⟨rfl,rfl,rfl,⟨vr0,vr0⟩,vr0⟩
 rintro _ σ1 _ v1 ⟨rfl,rfl,rfl,⟨s2,s3⟩,s47⟩
 refine go (an3 s2 s3 s47) ?_
 refine zba d.names.length (fun i σ v=>(σ 2= .pointer (some ⟨p,0,Option.none⟩)∧σ 3= .pointer (some ⟨p+1,0,Option.none⟩)∧σ 5=vi i)∧Ext v1 v) ?_ ?_ ?_
 ·exact⟨⟨(vr1 s2),(vr1 s3),vr0⟩,Keep.refl _ _⟩
 ·clear s2 s3 s47
  rintro i σ v hi ⟨r1,r2,r3,r4⟩ ⟨⟨s2,s3,s5⟩,hE⟩
  have hEv:=hE1.trans hE
  have g0:=hgn i (by omega)
  have g1:=hgn2 i (by omega)
  obtain⟨xa,rfl⟩:=Option.isSome_iff_exists.1 (zam g0)
  obtain⟨xb,rfl⟩:=Option.isSome_iff_exists.1 (zam g1)
  have h0:=hvr i (by omega) hi
  have h1:=hvr2 i (by omega) hi
  obtain⟨nv,hnv⟩:∃v,vals[i]'(by omega)=v:=⟨_,rfl⟩
  obtain⟨nv2,hnv2⟩:∃v,vals2[i]'(by omega)=v:=⟨_,rfl⟩
  obtain⟨n,hn⟩:∃n,d.names[i]=n:=⟨_,rfl⟩
  rw[hnv]at g0 h0
  rw[hnv2]at g1 h1
  rw[hn]at h0 h1
  have hnS:=hS.names n (hn▸List.getElem_mem hi)
  have c1:=zab hE p1
  have e1:=zab hE q1
  refine go (an6 s2 s3 s5 c1 r1 (Nat.zero_add 1)) ?_
  refine zat (Q:=fun e' σ' ds' v'=>e'= .normal∧ds'=[]∧(σ' 2= .pointer (some ⟨p,0,Option.none⟩)∧σ' 3= .pointer (some ⟨p+1,0,Option.none⟩)∧σ' 5=vi i)∧Ext v v'∧σ' 66= .bool false) ?_ ?_
  ·refine zaT (fun _=>false) [(0,true),(1,true),(2,true),(3,true),(4,true),(5,true),(6,true),(7,true),(8,true),(9,true),(10,false),(11,true)] NoS mixed (by kernel_rfl) ?_;intro gd K x hgd hx hxe hK;have hx0:=zaR hxe;clear hxe
   have u0:=zab (hEv.trans hx0) g0
   have u1:=zab (hEv.trans hx0) g1
   have c1x:=zab hx0 c1
   have e1x:=zab hx0 e1
   simp (disch:=first|omega|assumption|rfl) only[go_sem,s2,s3,s5,r2,r3,u0,u1,c1x,e1x,Nat.zero_add,Nat.mul_one,Int.toNat_natCast]
   refine Fn.mono (zk0 (h0.ext (hEv.trans hx0)) (h1.ext (hEv.trans hx0)) (by omega)) ?_
   rintro _ y1 ⟨rfl,hy1⟩
   refine⟨.inr hy1.keep,?_⟩
   simp (disch:=first|omega|assumption|rfl) only[go_sem,Bool.not_true]
   refine hK _ _ ?_;clear hK hgd;clear K;try clear gd
   exact⟨rfl,rfl,⟨(vq1 s2),(vq1 s3),(vq1 s5)⟩,hx0.trans hy1,vr0⟩
  clear s2 s3 s5
  rintro _ σ2 _ v2 ⟨rfl,rfl,⟨s2,s3,s5⟩,hE2,s66⟩
  refine go (an5 s2 s3 s5 s66 r4) ?_
  exact⟨rfl,⟨(vq1 s2),(vq1 s3),(vq1 r4)⟩,hE.trans hE2⟩
 clear s2 s3 s47
 rintro σ v r ⟨⟨s2,s3,s5⟩,hE⟩
 have c1:=zab hE p1
 refine go (an6 s2 s3 s5 c1 r (Nat.zero_add 1)) ?_
 refine zba d.nums.length (fun i σ v'=>(σ 2= .pointer (some ⟨p,0,Option.none⟩)∧σ 3= .pointer (some ⟨p+1,0,Option.none⟩)∧σ 6=vi i)∧Ext v v') ?_ ?_ ?_
 ·exact⟨⟨(vr1 s2),(vr1 s3),vr0⟩,Keep.refl _ _⟩
 ·clear s2 s3 s5
  rintro i σ z hi ⟨r1,r2,r3,r4⟩ ⟨⟨s2,s3,s5⟩,hEz⟩
  have hEv:=(hE1.trans hE).trans hEz
  have g0:=hgu i (by rw[List.length_map];omega)
  have g1:=hgu2 i (by rw[List.length_map];omega)
  rw[List.getElem_map]at g0 g1
  obtain⟨xa,rfl⟩:=Option.isSome_iff_exists.1 (zam g0)
  obtain⟨xb,rfl⟩:=Option.isSome_iff_exists.1 (zam g1)
  obtain⟨n,hn⟩:∃n,d.nums[i]=n:=⟨_,rfl⟩
  rw[hn]at g0 g1
  have c1:=zab (hE.trans hEz) p2
  have e1:=zab (hE.trans hEz) q2
  refine go (an6 s2 s3 s5 c1 r1 (Nat.zero_add 2)) ?_
  refine zat (Q:=fun e' σ' ds' v'=>e'= .normal∧ds'=[]∧(σ' 2= .pointer (some ⟨p,0,Option.none⟩)∧σ' 3= .pointer (some ⟨p+1,0,Option.none⟩)∧σ' 6=vi i)∧Ext z v'∧σ' 84= .bool false) ?_ ?_
  ·refine zaT (fun _=>false) [(0,true),(1,true),(2,true),(3,true),(4,true),(5,true),(6,true),(7,true),(8,true),(9,true),(10,true)] NoS mixed (by kernel_rfl) ?_;intro gd K x hgd hx hxe hK;have hx0:=zaR hxe;clear hxe
   have u0:=zab (hEv.trans hx0) g0
   have u1:=zab (hEv.trans hx0) g1
   have c1x:=zab hx0 c1
   have e1x:=zab hx0 e1
   have he:decide (n=n)=true:=decide_eq_true rfl
   simp (disch:=first|omega|assumption|rfl) only[go_sem,s2,s3,s5,r2,r3,u0,u1,c1x,e1x,he,Nat.zero_add,Nat.mul_one,Int.toNat_natCast,Bool.not_true]
   refine hK _ _ ?_;clear hK hgd;clear K;try clear gd
   exact⟨rfl,rfl,⟨(vq1 s2),(vq1 s3),(vq1 s5)⟩,hx0,vr0⟩
  clear s2 s3 s5
  rintro _ σ2 _ v2 ⟨rfl,rfl,⟨s2,s3,s5⟩,hE2,s66⟩
  refine go (an5 s2 s3 s5 s66 r4) ?_
  exact⟨rfl,⟨(vq1 s2),(vq1 s3),(vq1 r4)⟩,hEz.trans hE2⟩
 clear s2 s3 s5 r c1
 rintro σ z r ⟨⟨s2,s3,s5⟩,hEz⟩
 have hEv:=(hE1.trans hE).trans hEz
 have c1:=zab (hE.trans hEz) p2
 have c3:=zab (hE.trans hEz) p3
 have e3:=zab (hE.trans hEz) q3
 refine go (an6 s2 s3 s5 c1 r (Nat.zero_add 2)) ?_
 refine rc (an5 s2 s3 c3 e3 (Nat.zero_add 3)) (zk0 (htx.ext hEv) (htx2.ext hEv) (by omega)) ?_
 rintro _ y ⟨rfl,hy⟩
 refine rgo trivial ?_
 refine rt0 Tryz.ntmps36 ?_
 exact⟨rfl,hEv.trans hy⟩
theorem Is5E_ok(w:World){av bv:Value}{R:List RecL}(ha:Rows 7 (RecAt w) w av R)(hb:Rows 7 (RecAt w) w bv R)(ko:∀r∈R,r.owner.length≤1000000000∧DatT r.dat)(hl:R.length≤1000000000):
  Fn Tryz.prog 15 #[av,bv] w (fun v w'=>v= .bool true∧Ext w w'):=by
 obtain⟨a1,c1,rfl,_,h1⟩:=ha.open
 obtain⟨a2,c2,rfl,_,h2⟩:=hb.open
 refine enter Tryz.func15 Tryz.ntmps15 rfl rfl ?_
 refine go (show decide ((R.length:Int)=(R.length:Int))=true from decide_eq_true rfl) ?_
 refine zba R.length (fun i σ A=>(σ 5=vi i∧σ 0= .slice a1 R.length c1∧σ 1= .slice a2 R.length c2)∧Ext w A) ?_ ?_ ?_
 ·exact⟨⟨vr0,vr0,vr0⟩,Keep.refl _ _⟩
 ·rintro i σ A hi r ⟨⟨s5,s0,s1⟩,hEA⟩
  have hi0:(0:Int)≤(i:Int):=by omega
  have hi1:(i:Int)<(R.length:Int):=by omega
  obtain⟨ca,hca,hRa⟩:=h1 i hi
  obtain⟨cb,hcb,hRb⟩:=h2 i hi
  obtain⟨ko1,ko2⟩:=ko _ (List.getElem_mem hi)
  obtain⟨ra,hra⟩:∃r,R[i]=r:=⟨_,rfl⟩
  rw[hra]at hRa hRb ko1 ko2
  obtain⟨oa,da,rfl,o1,e1⟩:=hRa.ex
  obtain⟨ob,db,rfl,o2,e2⟩:=hRb.ex
  have e1':=e1
  have e2':=e2
  obtain⟨na1,na2,na3,na4,rfl,_⟩:=e1.ex
  obtain⟨nb1,nb2,nb3,nb4,rfl,_⟩:=e2.ex
  obtain⟨x1,rfl⟩:=Option.isSome_iff_exists.1 (zaA hca)
  obtain⟨x2,rfl⟩:=Option.isSome_iff_exists.1 (zaA hcb)
  obtain⟨y1,hy1⟩:∃y,adr (some x1) (i*7)=some y:=⟨_,rfl⟩
  obtain⟨y2,hy2⟩:∃y,adr (some x2) (i*7)=some y:=⟨_,rfl⟩
  rw[hy1]at hca
  rw[hy2]at hcb
  obtain⟨u1,hu1⟩:∃y,adr (some y1) 1=some y:=⟨_,rfl⟩
  obtain⟨u2,hu2⟩:∃y,adr (some y2) 1=some y:=⟨_,rfl⟩
  obtain⟨z1,hz1⟩:∃y,adr (some y1) 2=some y:=⟨_,rfl⟩
  obtain⟨z2,hz2⟩:∃y,adr (some y2) 2=some y:=⟨_,rfl⟩
  refine go (an4 r s5 s0 hi1) ?_
  repeat refine c_r ?_
  refine zaT (fun _=>false) [(0,true),(1,true),(2,true),(3,true),(4,true),(5,true),(6,true),(7,true),(8,true),(9,true),(10,false),(11,true),(12,true),(13,true),(14,true),(15,true),(16,true),(17,true),(18,true),(19,true),(20,true),(21,true),(22,true),(23,true),(24,true),(25,true),(26,true),(27,true),(28,true),(29,true),(30,true),(31,true),(32,true),(33,true),(34,true),(35,true),(36,false),(37,true),(38,true)] NoS mixed (by kernel_rfl) ?_;intro gd K x hgd hx hxe hK;clear hxe
  have hg12:∀n σ b,zaw gd n σ (some (12,b))=zap (ev n σ (.tmp 29)) b:=(fun n σ b=>by rw[zag,show gd 12=some 29 from(by rw[hgd];rfl)];rfl);have hg25:∀n σ b,zaw gd n σ (some (25,b))=zap (ev n σ (.tmp 42)) b:=(fun n σ b=>by rw[zag,show gd 25=some 42 from(by rw[hgd];rfl)];rfl)
  have hW:=hEA.trans hx
  have f0:zad x (adr (some y1) 0)=some oa:=zbt (zah hW hca) rfl
  have f1:zad x (adr (some y1) 1)=some (v32 ra.ttl):=zbt (zah hW hca) rfl
  have f2:zar x (adr (some y1) 2) 5=some [vi ra.dat.ty,na1,na2,na3,na4]:=zbb (m:=2) (k:=5) (zah hW hca)
  have g0:zad x (adr (some y2) 0)=some ob:=zbt (zah hW hcb) rfl
  have g1:zad x (adr (some y2) 1)=some (v32 ra.ttl):=zbt (zah hW hcb) rfl
  have g2:zar x (adr (some y2) 2) 5=some [vi ra.dat.ty,nb1,nb2,nb3,nb4]:=zbb (m:=2) (k:=5) (zah hW hcb)
  rw[zal]at f0 g0
  rw[hu1]at f1
  rw[hu2]at g1
  rw[hz1]at f2
  rw[hz2]at g2
  simp (disch:=first|omega|assumption|rfl) only[go_sem,s5,s0,s1,hi0,hi1,hy1,hy2,hu1,hu2,hz1,hz2,zal,f0,f1,f2,g0,g1,g2]
  refine Fn.mono (zk0 (o1.ext hW) (o2.ext hW) ko1) ?_
  rintro _ y ⟨rfl,hy⟩
  refine⟨.inr hy,?_⟩
  have f1y:=zab hy f1
  have f2y:=zah hy f2
  have g1y:=zab hy g1
  have g2y:=zah hy g2
  have htt:decide (ra.ttl=ra.ttl)=true:=decide_eq_true rfl
  simp (disch:=first|omega|assumption|rfl) only[go_sem,Bool.not_true,zeX,s5,s0,s1,hi0,hi1,hy1,hy2,hu1,hu2,f1y,g1y,htt,hz1,hz2,f2y,g2y,↓hg12,↓hg25]
  refine Fn.mono (IsD_ok (e1'.ext (hW.trans hy)) (e2'.ext (hW.trans hy)) ko2) ?_
  rintro _ z ⟨rfl,hz⟩
  refine⟨.inr hz,?_⟩
  simp (disch:=first|omega|assumption|rfl) only[go_sem,zeX,↓hg12,↓hg25]
  refine hK _ _ ?_;clear hK hgd;clear K;try clear gd
  have hWz:=(hW.trans hy).trans hz
  repeat refine c_r ?_
  refine wf Bool.not_true ?_
  refine go (an4 s5 s0 s1 r) ?_
  exact⟨rfl,⟨(vq1 r),(vq1 s0),(vq1 s1)⟩,hWz⟩
 ·rintro σ A r ⟨⟨s5,s0,s1⟩,hEA⟩
  refine go (an4 r s5 s0 s1) ?_
  refine rt0 Tryz.ntmps15 ?_
  exact⟨rfl,hEA⟩
def zdH(r:RecL):Lab×List (Lab×Bool):=(recT r,zfu r)
theorem bare_hd{p:Lab}(h:BareW p)(h0:p≠ []):zcI p=false:=by
 cases h with
 |nil=>exact absurd rfl h0
 |pair d r _=>rfl
 |one c r h1 h2 _=>
  have h32:¬c=32:=fun e=>h1 (by rw[e];decide)
  have h9:¬c=9:=fun e=>h1 (by rw[e];decide)
  simp[zcI,h32,h9]
theorem zkC{p s:Lab}(h0:p≠ []):zcI (p++s)=zcI p:=by
 cases p with
 |nil=>exact absurd rfl h0
 |cons c r=>rfl
theorem zjp(r:RecL):zcI (recT r)=false:=by
 have tk:=zcQ r.owner
 have hne:=tk.t.1
 have e:recT r=zaV r.owner++([32]++numT r.ttl++ [32,73,78,32]++tyT r.dat.ty++ [32]++za6 hexU r.dat):=by rw[zjq];simp only[List.append_assoc]
 rw[e,zkC hne]
 exact bare_hd tk.b hne
theorem zhI{r:RecL}(h:RecG r):(recT r).length≤99000:=by
 obtain⟨⟨t1,t2⟩,_,_,_,_,_⟩:=za4 h.chk
 obtain⟨_,_,_,_,p5,_⟩:=zeh t1 t2
 have hdl:=zh8 h.chk h.dat h.num
 have hnt:=zdm h.own
 have hnl:=zcT (n:=r.ttl) (by have:=h.ttl;omega)
 rw[zjq]
 simp only[List.length_append,List.length_cons,List.length_nil]
 omega
theorem zft{r:RecL}(h:RecG r):Toks (zdH r).1 (zdH r).2∧zeU (zdH r).1∧(zdH r).1.length≤100000:=
 ⟨(zhH h).1,prn_line (zhH h).2,Nat.le_trans (zhI h) (by decide)⟩
def zcs(st:LdS)(n:Nat):List RecL→LdS
 | []=>st
 |r::R=>zcs {st with line:=(n:Int),owner:=some r.owner,last:=some r.ttl,out:=st.out++ [r]} (n+1) R
theorem zdS:∀(R:List RecL) (st:LdS) (n:Nat),(zcs st n R).out=st.out++R∧(zcs st n R).reads=st.reads∧(zcs st n R).origin=st.origin∧(zcs st n R).many=st.many∧(zcs st n R).path=st.path∧(zcs st n R).ttl=st.ttl
 | [],st,n=>⟨by simp[zcs],rfl,rfl,rfl,rfl,rfl⟩
 |r::R,st,n=>by
  obtain⟨h1,h2,h3,h4,h5,h6⟩:=zdS R {st with line:=(n:Int),owner:=some r.owner,last:=some r.ttl,out:=st.out++ [r]} (n+1)
  unfold zcs
  exact⟨by rw[h1];simp,h2,h3,h4,h5,h6⟩
theorem zeA{fl:List (Lab×Lab)}{inc:LdS→Lab→Option FltL→LdS→Prop}{es:List EntL}{out:Option FltL}{st2:LdS}:∀(R:List RecL) (st:LdS) (n:Nat),(∀r∈R,RecG r)→st.out.length+R.length≤4096→st.reads.length≤1000→EntsIs fl inc (zcs st n R) es out st2→EntsIs fl inc st (entF n (R.map zdH)++es) out st2
 | [],st,n,_,_,_,h=>h
 |r::R,st,n,hG,hl,hr,h=>by
  have hne:¬zfu r=[]:=by unfold zfu;simp
  have e:entF n ((r::R).map zdH)++es=⟨(n:Int),false,zfu r⟩::(entF (n+1) (R.map zdH)++es):=by
   rw[List.map_cons,entF]
   unfold zkn
   rw[if_neg (show¬(zdH r).2=[] from hne)]
   show [(⟨(n:Int),zcI (recT r),zfu r⟩:EntL)]++_++es=_
   rw[zjp]
   rfl
  rw[List.length_cons]at hl
  rw[e]
  refine EntsIs.more _ _ _ _ _ _ hr (rec_ent (hG r (List.mem_cons_self ..)) (by omega) (n:Int)) ?_
  refine zeA R _ (n+1) (fun x hx=>hG x (List.mem_cons_of_mem _ hx)) ?_ hr h
  show(st.out++ [r]).length+R.length≤4096
  rw[List.length_append]
  show st.out.length+1+R.length≤4096
  omega
theorem ze3(a b:List Lab):zas (a++b)=zas a++zas b:=by unfold zas;rw[List.flatMap_append]
theorem zgk(R:List RecL):(R.map zdH).map Prod.fst=R.map recT:=by rw[List.map_map];rfl
theorem zgc{R:List RecL}(h:∀r∈R,RecG r):(zas (R.map recT)).length≤R.length*100001:=by
 have:=zem (R.map recT) 100000 fun l hl=>by
  obtain⟨r,hr,rfl⟩:=List.mem_map.1 hl
  exact(zft (h r hr)).2.2
 rwa [List.length_map]at this
abbrev lnX:Lab:=[36,73,78,67,76,85,68,69,32,98,32,120]
theorem name_x(o:Nm):zaI [120] o=if zaE ([120]::o)=0 then([120]::o,0) else([],zaE ([120]::o)):=by
 have hp:zbx [120]=([[120]],false,0):=by decide+kernel
 unfold zaI
 rw[if_neg (by decide),if_neg (by decide),if_neg (by decide),hp]
 simp
theorem load_inc{P Q:List RecL}{o:Nm}(hP:∀r∈P,RecG r)(hQ:∀r∈Q,RecG r)(hl:P.length+Q.length≤60):
  if zaE ([120]::o)=0 then∃st',zeT [([97],zas (P.map recT)++(lnX++ [10])),([98],zas (Q.map recT))] [97] o Option.none st'∧st'.out=P++Q else∃f st',zeT [([97],zas (P.map recT)++(lnX++ [10])),([98],zas (Q.map recT))] [97] o (some f) st':=by
 obtain⟨fl,hfe⟩:∃fl:List (Lab×Lab),fl=[([97],zas (P.map recT)++(lnX++ [10])),([98],zas (Q.map recT))]:=⟨_,rfl⟩
 rw[←hfe]
 obtain⟨xs,hxs⟩:∃xs:List (Lab×List (Lab×Bool)),xs=P.map zdH++ [(lnX,[(wInc,false),([98],false),([120],false)])]:=⟨_,rfl⟩
 have hxe:entF 1 xs=entF 1 (P.map zdH)++ [⟨((1+P.length:Nat):Int),false,[(wInc,false),([98],false),([120],false)]⟩]:=by
  rw[hxs,zfT,List.length_map];rfl
 have hx1:zbU [97] fl=(zas (xs.map Prod.fst),true):=by
  rw[hfe,hxs,List.map_append,zgk,ze3];simp[zbU,zas]
 have hx2:zbU [98] fl=(zas ((Q.map zdH).map Prod.fst),true):=by rw[hfe,zgk];simp[zbU]
 have hx3:zkU xs:=by
  refine lnsOk (fun x hx=>?_) (by rw[hxs,List.length_append,List.length_map];simp;omega)
  rw[hxs]at hx
  rcases List.mem_append.1 hx with hx|hx
  ·obtain⟨r,hr,rfl⟩:=List.mem_map.1 hx;exact zft (hP r hr)
  ·rw[List.mem_singleton.1 hx]
   have:=zhV (x:=(lnX,[(wInc,false),([98],false),([120],false)])) (by decide+kernel)
   exact⟨this.1,this.2.1,by have:=this.2.2;omega⟩
 obtain⟨h1,h2,h3,h4,_⟩:=zdS P {ld0 o with path:=[97],reads:=[[97]]} 1
 obtain⟨stP,hsP⟩:∃s,zcs {ld0 o with path:=[97],reads:=[[97]]} 1 P=s:=⟨_,rfl⟩
 rw[hsP]at h1 h2 h3 h4
 replace h1:stP.out=P:=h1
 replace h2:stP.reads=[[97]]:=h2
 replace h4:stP.many=0:=h4
 have hx4:∀(k:Nat) (out:Option FltL) (st1:LdS),EntIs fl (zbG fl k) {stP with line:=((1+P.length:Nat):Int)} ⟨((1+P.length:Nat):Int),false,[(wInc,false),([98],false),([120],false)]⟩ out st1→EntsIs fl (zbG fl k) {ld0 o with path:=[97],reads:=(ld0 o).reads++ [[97]]} (entF 1 xs) out st1:=fun k out st1 h=>by
  rw[hxe]
  refine zeA P {ld0 o with path:=[97],reads:=[[97]]} 1 hP (by show 0+P.length≤4096;omega) (by show 1≤1000;omega) ?_
  rw[hsP]
  cases out with
  |none=>exact EntsIs.more _ _ [] _ _ _ (by rw[h2];decide) h (EntsIs.nil _)
  |some f=>exact EntsIs.flt _ _ [] _ _ (by rw[h2];decide) h
 have hnm:=name_x o
 have hNT':zaE ([120]::o)=0→NmT ([120]::o):=fun h1=>⟨fun l hl=>by have:=(zco h1 l hl).2;omega,by have:=zfd h1;omega⟩
 have ho3:stP.origin=o:=h3
 split
 ·rename_i hc
  rw[if_pos hc]at hnm
  have hNT:=hNT' hc
  obtain⟨g1,g2,g3,g4,g5,g6⟩:=zdS Q {stP with line:=((1+P.length:Nat):Int),many:=stP.many+1,origin:=[120]::o,path:=[98],reads:=stP.reads++ [[98]]} 1
  obtain⟨stQ,hsQ⟩:∃s,zcs {stP with line:=((1+P.length:Nat):Int),many:=stP.many+1,origin:=[120]::o,path:=[98],reads:=stP.reads++ [[98]]} 1 Q=s:=⟨_,rfl⟩
  rw[hsQ]at g1 g2 g3 g4
  replace g2:stQ.reads=[[97],[98]]:=by rw[g2];show stP.reads++ [[98]]=_;rw[h2];rfl
  have hfile:zbG fl 1 {stP with line:=((1+P.length:Nat):Int),many:=stP.many+1,origin:=[120]::o} [98] Option.none {stQ with reads:=stQ.reads.dropLast}:=by
   refine⟨Q.map zdH,stQ,hx2,lnsOk (fun x hx=>by obtain⟨r,hr,rfl⟩:=List.mem_map.1 hx;exact zft (hQ r hr)) (by rw[List.length_map];omega),by show stP.reads.length≤1000;rw[h2];decide,?_,fun _=>⟨by rw[g2];decide,by rw[g2];decide,rfl⟩,fun h=>absurd rfl h⟩
   have:=zeA (fl:=fl) (inc:=zbG fl 0) Q {stP with line:=((1+P.length:Nat):Int),many:=stP.many+1,origin:=[120]::o,path:=[98],reads:=stP.reads++ [[98]]} 1 hQ (by show stP.out.length+Q.length≤4096;rw[h1];omega) (by show(stP.reads++ [[98]]).length≤_;rw[h2];decide) (EntsIs.nil _)
   rw[List.append_nil,hsQ]at this
   exact this
  refine⟨_,.inl ⟨2,xs,_,hx1,hx3,Nat.zero_le _,hx4 1 Option.none _ (EntIs.dir _ _ _ _ _ (by decide) (.incl _ _ _ (AskIs.two [98] [120] false _ _ (by decide) (by show(zaI [120] stP.origin).2=0;rw[ho3,hnm]) (by show NmT (zaI [120] stP.origin).1;rw[ho3,hnm];exact hNT) (IncIs.read _ _ (by rw[hx2]) (by show [98]∉stP.reads;rw[h2];decide) (by show stP.reads.length≤8;rw[h2];decide) (by show 0≤stP.many;rw[h4];decide) (by show stP.many<64;rw[h4];decide) (by show zbG fl 1 {stP with line:=_,many:=_,origin:=(zaI [120] stP.origin).1} _ _ _;rw[ho3,hnm];exact hfile))))),fun _=>⟨?_,?_,rfl⟩,fun h=>absurd rfl h⟩,?_⟩
  ·show 1≤(stQ.reads.dropLast).length
   rw[g2];decide
  ·show(stQ.reads.dropLast).length≤10000
   rw[g2];decide
  ·show stQ.out=P++Q
   rw[g1];show stP.out++Q=_;rw[h1]
 ·rename_i hc
  rw[if_neg hc]at hnm
  have hb:=AskIs.bad (fl:=fl) (inc:=zbG fl 0) (st:={stP with line:=((1+P.length:Nat):Int)}) [98] [120] false (by decide) (by show¬(zaI [120] stP.origin).2=0;rw[ho3,hnm];exact hc)
  have hfe2:fltE {stP with line:=((1+P.length:Nat):Int)} (zaI [120] stP.origin).2=some ⟨stP.path,((1+P.length:Nat):Int),(zaI [120] stP.origin).2⟩:=by
   unfold fltE
   rw[if_neg (by rw[ho3,hnm];exact hc)]
  have hb2:AskIs fl (zbG fl 0) {stP with line:=((1+P.length:Nat):Int)} [([98],false),([120],false)] (some ⟨stP.path,((1+P.length:Nat):Int),(zaI [120] stP.origin).2⟩) {stP with line:=((1+P.length:Nat):Int)}:=hfe2▸hb
  exact⟨_,_,.inl ⟨1,xs,_,hx1,hx3,Nat.zero_le _,hx4 0 _ _ (EntIs.dir _ _ _ _ _ (by decide) (.incl _ _ _ hb2)),(fun h=>by cases h),fun _=>rfl⟩⟩
theorem ze2{R:List RecL}{i:Nat}(h:i<R.length):zas ((R.take (i+1)).map recT)=zas ((R.take i).map recT)++recT R[i]++ [10]:=by
 rw[zak h,List.map_append,ze3,List.map_singleton,zch]
 simp[zas]
section
variable {P : Program} {d : Option Tmp} {ty : TypeId} {ps : String} {af : Array Edge} {g : Option (Nat × Bool)} {ρ : Operand → Value} {w : World} {K : Value → World → Prop}
end
section
variable {P : Program} {w : World} {B : Nat}
end
section
variable {P : Program} {d : Option Tmp} {ty : TypeId} {ps : String} {af : Array Edge} {g : Option (Nat × Bool)} {ρ : Operand → Value} {w : World} {K K2 : Value → World → Prop} {α : Type} {k : Nat} {C : List Value → α → Prop}
end
section
variable {P : Program} {d : Option Tmp} {ty : TypeId} {ps : String} {af : Array Edge} {g : Option (Nat × Bool)} {ρ : Operand → Value} {w : World} {K : Value → World → Prop}
theorem zkF{t t2 e e2:TypeId}{u v:Value}(h1:P.underlying t=some (.slice e))(h2:P.underlying t2=some (.slice e2)):(Builtin.append_ #[t,t2] ty #[u,v]).run P w=(Builtin.append_ #[t,t] ty #[u,v]).run P w:=by
 have k1:∀(s:TypeId) (e:TypeId) (w:World),P.underlying s=some (.slice e)→(underlying s).run P w= .ok (.slice e) w:=fun s e w h=>by
  simp[underlying,program,Sem.run,show P.underlying s=_ from h]
 unfold Builtin.append_
 cases u with
 |slice b l c=>
  simp only[List.getElem?_toArray,List.getElem?_cons_zero,List.getElem?_cons_succ,Sem.run_bind,k1 t e _ h1,Result.andThen_ok]
  cases hz:(sizeOf e).run P w with
  |ok z w2=>
   simp only[Result.andThen_ok,Sem.run_bind,k1 t e _ h1,k1 t2 e2 _ h2,Sem.run_pure]
  |_=>rfl
 |_=>simp only[List.getElem?_toArray,List.getElem?_cons_zero,List.getElem?_cons_succ,Sem.run_bind,k1 t e _ h1,Result.andThen_ok]
theorem op_apT{t t2 e e2:TypeId}{s x:Operand}(h1:tyU P t=some (.slice e))(h2:tyU P t2=some (.slice e2))(h:opW P ⟨d,.call ⟨.builtin .append,#[s,x],#[t,t]⟩,ty,ps,af,g⟩ ρ w K):opW P ⟨d,.call ⟨.builtin .append,#[s,x],#[t,t2]⟩,ty,ps,af,g⟩ ρ w K:=by
 simp only[opW,execOp,Sem.run_bind,resolve]at h ⊢
 simp only[Sem.run_pure,Result.andThen_ok,invoke,builtin]at h ⊢
 simp only[List.map_toArray,List.map_cons,List.map_nil]at h ⊢
 rw[Sem.run_bind]at h ⊢
 rw[zkF h1 h2]
 exact h
end
theorem take_le{R:List RecL}{i k:Nat}(h:i<k)(hi:i<R.length):zas (((R.take k).take (i+1)).map recT)=zas (((R.take k).take i).map recT)++recT R[i]++ [10]:=by
 have hk:i<(R.take k).length:=by rw[List.length_take];omega
 have:=ze2 (R:=R.take k) hk
 rw[List.getElem_take]at this
 exact this
theorem drop_ge{R:List RecL}{i k:Nat}(h:k≤i)(hi:i<R.length):zas (((R.drop k).take (i+1 - k)).map recT)=zas (((R.drop k).take (i - k)).map recT)++recT R[i]++ [10]:=by
 have hk:i - k<(R.drop k).length:=by rw[List.length_drop];omega
 have:=ze2 (R:=R.drop k) hk
 rw[List.getElem_drop]at this
 rw[show i+1 - k=i - k+1 by omega,this]
 congr 3
 congr 1
 omega
theorem ze0{W:World}(hX:WX W)(hY:WY W){lv ov:Value}{R:List RecL}{o:Nm}(t:Nat)(hl:Rows 7 (RecAt W) W lv R)(hnum:∀r∈R,zkR r)(ho:Row W ov (o.map vs))(ht:t≤255):
  Fn Tryz.prog 4 #[lv,.int .u8 t,ov] W (fun v w'=>v= .bool true∧Ext W w'):=by
 obtain⟨aR,cR,rfl,hcR,hgR⟩:=hl.open
 refine enter Tryz.func4 Tryz.ntmps4 rfl rfl ?_
 refine go trivial ?_
 refine rc trivial (zkY hX hY) ?_
 rintro _ w1 ⟨rfl,hE1⟩
 refine rgo trivial ?_
 refine rcg [(3,18)] trivial (ziS ((hl.ext hE1).to fun cs a h=>h.ext hE1) hnum) ?_
 rintro _ w2 ⟨hE2,b,rfl,hb⟩
 have hE12:=hE1.trans hE2
 cases b with
 |false=>
  refine reg [(3,18)] trivial ?_
  refine go trivial ?_
  refine rt0 Tryz.ntmps4 ?_
  exact⟨rfl,hE12⟩
 |true=>
 obtain⟨hRl,hG⟩:=hb rfl
 refine rdg [(3,18)] trivial (NGood_ok w2 ov o (ho.ext hE12)) ?_
 rintro _ w3 ⟨rfl,hE3⟩
 have hE13:=hE12.trans hE3
 cases hg2:ziA o with
 |false=>
  refine reg [(3,18)] trivial ?_
  refine go trivial ?_
  refine rt0 Tryz.ntmps4 ?_
  exact⟨rfl,hE13⟩
 |true=>
 obtain⟨k,hk⟩:∃k,t % (R.length+1)=k:=⟨_,rfl⟩
 have hkR:k≤R.length:=by have:=Nat.mod_lt t (show 0<R.length+1 by omega);omega
 have e1:(R.length:Int)+1=((R.length+1:Nat):Int):=by push_cast;rfl
 have ekm:((t:Nat):Int).tmod ((R.length+1:Nat):Int)=((k:Nat):Int):=by rw[Int.tmod_eq_emod_of_nonneg (by omega),←hk];omega
 have hnz:¬((R.length+1:Nat):Int)=0:=by omega
 refine reg [(3,18)] trivial ?_
 refine go (an4 e1 ekm hnz ht) ?_
 obtain⟨P,hP⟩:∃P,R.take k=P:=⟨_,rfl⟩
 obtain⟨Q,hQ⟩:∃Q,R.drop k=Q:=⟨_,rfl⟩
 have hPQ:P++Q=R:=by rw[←hP,←hQ];exact List.take_append_drop k R
 have hPG:∀r∈P,RecG r:=fun r hr=>hG r (hPQ▸List.mem_append_left _ hr)
 have hQG:∀r∈Q,RecG r:=fun r hr=>hG r (hPQ▸List.mem_append_right _ hr)
 have hPl:P.length=k:=by rw[←hP,List.length_take];omega
 have hQl:Q.length=R.length - k:=by rw[←hQ,List.length_drop]
 have tl:∀(S:List RecL) i,S.length≤60→(∀r∈S,RecG r)→(zas ((S.take i).map recT)).length≤6000060:=fun S i hS hSG=>by
  have h1:=zgc (R:=S.take i) fun r hr=>hSG r (List.mem_of_mem_take hr)
  have h2:(S.take i).length≤60:=by rw[List.length_take];omega
  omega
 refine zba R.length (fun i σ A=>(σ 0= .slice aR R.length cR∧σ 2=ov∧σ 7=vi k∧σ 8=vs (zas ((P.take i).map recT))∧σ 9=vs (zas ((Q.take (i - k)).map recT))∧σ 10=vi i)∧Ext W A) ?_ ?_ ?_
 ·exact⟨⟨vr0,vr0,vr0,vr0,by rw[Nat.zero_sub];first| (simp only[go_sem];done)| (simp only[go_sem];rfl),vr0⟩,hE13⟩
 ·rintro i σ A hi rr ⟨⟨s0,s2,s7,s8,s9,s10⟩,hEA⟩
  have hi0:(0:Int)≤(i:Int):=by omega
  have hi1:(i:Int)<(R.length:Int):=by omega
  obtain⟨cr,hcr,hRr⟩:=hgR i hi
  obtain⟨r,hr⟩:∃r,R[i]=r:=⟨_,rfl⟩
  rw[hr]at hRr
  have hGr:RecG r:=hG r (hr▸List.getElem_mem hi)
  have hTr:=recG_T hGr
  have hlr:=zhI hGr
  obtain⟨xR,rfl⟩:=Option.isSome_iff_exists.1 (zaA hcr)
  obtain⟨xi,hxi⟩:∃xi,adr (some xR) (i*7)=some xi:=⟨_,rfl⟩
  rw[hxi]at hcr
  have hcA:=zah hEA hcr
  by_cases hik:i<k
  ·have dk:decide ((i:Int)<(k:Int))=true:=decide_eq_true (by omega)
   have ts:zas ((P.take (i+1)).map recT)=zas ((P.take i).map recT)++recT r++ [10]:=by
    have:=take_le hik hi
    rw[hP,hr]at this;exact this
   have tl1:=tl P i (by omega) hPG
   have l1:(zas ((P.take i).map recT)).length+(recT r).length≤9223372036854775807:=by omega
   have l2:(zas ((P.take i).map recT)++recT r).length+([10]:Lab).length≤9223372036854775807:=by rw[List.length_append];show _+1≤_;omega
   refine go (an6 s0 s10 s7 dk rr hi1) ?_
   refine rc (an7 s0 s10 s8 hi0 hi1 hxi hcA) (zb6 (hY.ext hEA) (hRr.ext hEA) hTr.1) ?_
   rintro _ A1 ⟨rfl,hA1⟩
   refine rgo (an6 s0 s10 s8 l1 l2 rr) ?_
   refine⟨rfl,⟨(vq1 s0),(vq1 s2),(vq1 s7),?_,?_,(vq1 rr)⟩,hEA.trans hA1⟩
   ·rw[ts];first| (simp only[go_sem,s8];done)| (simp only[go_sem,s8];rfl)
   ·rw[show i+1 - k=i - k by omega];simp only[go_sem,s9]
  ·have dk:decide ((i:Int)<(k:Int))=false:=decide_eq_false (by omega)
   have ts:zas ((Q.take (i+1 - k)).map recT)=zas ((Q.take (i - k)).map recT)++recT r++ [10]:=by
    have:=drop_ge (R:=R) (k:=k) (show k≤i by omega) hi
    rw[hQ,hr]at this;exact this
   have tl1:=tl Q (i - k) (by omega) hQG
   have l1:(zas ((Q.take (i - k)).map recT)).length+(recT r).length≤9223372036854775807:=by omega
   have l2:(zas ((Q.take (i - k)).map recT)++recT r).length+([10]:Lab).length≤9223372036854775807:=by rw[List.length_append];show _+1≤_;omega
   refine go (an6 s0 s10 s7 dk rr hi1) ?_
   refine rc (an7 s0 s10 s9 hi0 hi1 hxi hcA) (zb6 (hY.ext hEA) (hRr.ext hEA) hTr.1) ?_
   rintro _ A1 ⟨rfl,hA1⟩
   refine rgo (an6 s0 s10 s9 l1 l2 rr) ?_
   refine⟨rfl,⟨(vq1 s0),(vq1 s2),(vq1 s7),?_,?_,(vq1 rr)⟩,hEA.trans hA1⟩
   ·rw[List.take_of_length_le (show P.length≤i+1 by omega)]
    rw[List.take_of_length_le (show P.length≤i by omega)]at s8
    simp only[go_sem,s8]
   ·rw[ts];first| (simp only[go_sem,s9];done)| (simp only[go_sem,s9];rfl)
 ·rintro σ A rr ⟨⟨s0,s2,s7,s8,s9,s10⟩,hEA⟩
  rw[List.take_of_length_le (show P.length≤R.length by omega)]at s8
  rw[List.take_of_length_le (show Q.length≤R.length - k by omega)]at s9
  have hLI:=load_inc (o:=o) hPG hQG (by omega)
  have tP:=zgc hPG
  have tP2:P.length≤60:=by omega
  obtain⟨tp,htp⟩:∃t,zas (P.map recT)=t:=⟨_,rfl⟩
  obtain⟨tq,htq⟩:∃t,zas (Q.map recT)=t:=⟨_,rfl⟩
  rw[htp]at s8 hLI tP
  rw[htq]at s9 hLI
  have l1:tp.length+([36,73,78,67,76,85,68,69,32,98,32,120,10]:Lab).length≤9223372036854775807:=by simp;omega
  obtain⟨out,st',hLd,hcase⟩:∃out st',zeT [([97],tp++(lnX++ [10])),([98],tq)] [97] o out st'∧(zaE ([120]::o)=0→out=Option.none∧st'.out=R)∧(¬zaE ([120]::o)=0→∃f,out=some f):=by
   split at hLI
   ·rename_i hc
    obtain⟨st',h1,h2⟩:=hLI
    exact⟨_,_,h1,fun _=>⟨rfl,by rw[h2,hPQ]⟩,fun h=>absurd hc h⟩
   ·rename_i hc
    obtain⟨f,st',h1⟩:=hLI
    exact⟨_,_,h1,fun h=>absurd h hc,fun _=>⟨f,rfl⟩⟩
  refine go (an3 s0 s10 rr) ?_
  refine rq ?_;intro gd K hgd hK
  try simp (disch:=first|omega|assumption|rfl) only[go_sem,s8,s9,s2,l1]
  refine⟨by kernel_rfl,?_⟩
  refine zes (v:= .agg #[vs [97],vs (tp++ [36,73,78,67,76,85,68,69,32,98,32,120,10])]) (by kernel_rfl) ?_
  try simp (disch:=first|omega|assumption|rfl) only[go_sem,s9,s2]
  refine⟨by kernel_rfl,?_⟩
  refine zes (v:= .agg #[vs [98],vs tq]) (by kernel_rfl) ?_
  try simp (disch:=first|omega|assumption|rfl) only[go_sem,s2]
  refine zkB (e:=48) (arr:=#[vs [97],vs (tp++(lnX++ [10])),vs [98],vs tq]) (by kernel_rfl) ?_
  intro A1 e1 n1 b1
  have hf:=zgF b1
  try simp (disch:=first|omega|assumption|rfl) only[go_sem,s2]
  refine Fn.mono (zf3 (o:=o) (hX.ext (hEA.trans e1)) hf (Nat.le_of_ble_eq_true rfl) (ho.ext (hEA.trans e1)) (zhh hg2) hLd) ?_
  rintro v A2 ⟨e2,hAt⟩
  obtain⟨rv,fv,rfl,hfv⟩:∃rv fv,v= .tuple #[rv,.pointer fv]∧((fv=Option.none∧out=Option.none∧zkM A2 rv st'.out)∨∃p,fv=some p∧∃f,out=some f):=by
   cases out with
   |none=>obtain⟨rv,h1,h2⟩:=hAt;exact⟨_,_,h1,.inl ⟨rfl,rfl,h2⟩⟩
   |some f=>obtain⟨p,h1,h2⟩:=hAt;exact⟨_,_,h1,.inr ⟨_,rfl,f,rfl⟩⟩
  try simp (disch:=first|omega|assumption|rfl) only[go_sem,s0,s2]
  refine hK _ _ ?_;clear hK hgd;clear K;try clear gd
  have hE2:=(hEA.trans e1).trans e2
  have hco:=ho.ext hE2
  obtain⟨oa,oc,rfl,_⟩:=id hco
  refine go trivial ?_
  refine rq ?_;intro gd K hgd hK
  try simp (disch:=first|omega|assumption|rfl) only[go_sem,s2]
  refine zbc rfl rfl rfl rfl rfl ?_
  intro A3 e3 n3 hown
  try simp (disch:=first|omega|assumption|rfl) only[go_sem,s2]
  refine op_apT (e:=9) (e2:=9) rfl rfl ?_
  refine za0 (e:=9) hown (hco.ext e3) rfl rfl rfl rfl rfl rfl (vq0) (vq0) (fun q hq=>by obtain⟨l,_,rfl⟩:=List.mem_map.1 hq;rfl) (by simp;have:=(zhh hg2).2;omega) (by decide) (by omega) ?_
  intro sv A4 ho4 hX4 hk4 hb4
  try simp only[go_sem]
  have hg3:=zhh hg2
  refine Fn.mono (zbL A4 _ ([120]::o) ho4.row (fun l hl=>?_) (by simp;have:=hg3.2;omega)) ?_
  ·rcases List.mem_cons.1 hl with rfl|hl
   ·decide
   ·have:=hg3.1 l hl;omega
  rintro _ A5 ⟨rfl,e5⟩
  try simp only[go_sem]
  refine hK _ _ ?_;clear hK hgd;clear K;try clear gd
  have hE5:Ext W A5:=(hX4 W (hE2.trans e3) (by have:=hE2.size;omega)).trans e5
  by_cases hc:zaE ([120]::o)=0
  rotate_left
  ·obtain⟨f,hf⟩:=(hcase.2 hc)
   obtain⟨p,rfl⟩:∃p,fv=some p:=by
    rcases hfv with ⟨_,h,_⟩| ⟨p,h,_⟩
    ·rw[hf]at h;cases h
    ·exact⟨p,h⟩
   refine go (decide_eq_false hc) ?_
   refine rt0 Tryz.ntmps4 ?_
   exact⟨rfl,hE5⟩
  obtain⟨ho1,ho2⟩:=hcase.1 hc
  obtain⟨rfl,hR⟩:fv=Option.none∧zkM A2 rv st'.out:=by
   rcases hfv with ⟨h1,_,h2⟩| ⟨p,_,f,h⟩
   ·exact⟨h1,h2⟩
   ·rw[ho1]at h;cases h
  rw[ho2]at hR
  have hR5:Rows 7 (RecAt A5) A5 rv R:=(Rows.ext (k:=7) (xs:=R) hR ((hX4 A2 e3 (by omega)).trans e5)).to fun cs a h=>h.ext ((hX4 A2 e3 (by omega)).trans e5)
  obtain⟨ra,rcap,rfl,_⟩:=hR5.open
  refine go (decide_eq_true hc) ?_
  have nn:∀r∈R,r.dat.names.length≤1000000000:=fun r hr=>(hG r hr).dat.nn
  refine rcg [(2,74)] (an2 s0 trivial) (zif (w0:=A5) (Keep.refl _ _) hR5 nn (by omega)) ?_
  rintro v1 B3 ⟨f3,hr1⟩
  refine rdg [(2,74)] (an2 s0 trivial) (zif (hE5.trans f3) (hl.ext (hE5.trans f3)) nn (by omega)) ?_
  rintro v2 B4 ⟨f4,hr2⟩
  refine rdg [(2,74)] (an2 s0 trivial) (Is5E_ok B4 ((hr1.ext f4).to fun cs a h=>h.ext f4) hr2 (fun r hr=>⟨by have:=(few_T (hG r hr).few).2;omega,(few_D (hG r hr).dat (hG r hr).num).1⟩) (by omega)) ?_
  rintro _ B5 ⟨rfl,f5⟩
  refine reg [(2,74)] trivial ?_
  refine go trivial ?_
  refine rt0 Tryz.ntmps4 ?_
  exact⟨rfl,((hE5.trans f3).trans f4).trans f5⟩
end Go.Proofs.YtihbdhjibplldaaGreatDoor
namespace Go.Proofs.YtihbdhjibplldaaGreatDoor.loadInclude
open Go Go.Proofs.YtihbdhjibplldaaGreatDoor
theorem j1:(Rows.loadIncludeRow.inPlace==Tryz.pinned.checked.prog.inPlace 4)=true:=by kernel_rfl
theorem j2:(Rows.loadIncludeRow.unfollowed==Tryz.pinned.checked.prog.unfollowed 4)=true:=by kernel_rfl
theorem j3:(Rows.loadIncludeRow.recurses==Tryz.pinned.checked.prog.recurses 4)=true:=by kernel_rfl
theorem j4:(Rows.loadIncludeRow.named==Tryz.pinned.checked.prog.varsNamed 4)=true:=by kernel_rfl
theorem j5:(Tryz.pinned.checked.prog.mayEnter)=true:=by kernel_rfl
theorem j6:(Rows.loadIncludeRow.lifted==Tryz.pinned.checked.prog.liftsFinal)=true:=by kernel_rfl
theorem joined:joinedFacts Tryz.pinned.checked.prog 4 Tryz.f4 Rows.loadIncludeSpec Rows.loadIncludeRow=true:=by
 unfold joinedFacts
 rw[j1,j2,j3,j4,j5,j6]
 kernel_rfl
end Go.Proofs.YtihbdhjibplldaaGreatDoor.loadInclude
namespace Go.Proofs.YtihbdhjibplldaaGreatDoor
open Go Go.ChangeShapes Go.WideShapes Go.ChangeAt Go.RowKit
theorem zj0{C:Checked}{os:Os}{f:FuncId}{fn:Func}{s:ChangeSpec}{conds:List PathCond}{apart fresh handsOn again:Bool}{H:Type}{enc:TypeId×Value→H}{X:World→Prop}
  (hX:∀(w w':World),w.heap=w'.heap→X w→X w')
  (own:ownKnob C.prog.godebug=none) (started:os.Started) (noInit:C.prog.inits.idxOf? f=none) (hfn:C.prog.funcs[f]? =some fn)
  (witness:∃(w:World) (tape:Tape) (i:Input),w.os=os∧(w.forCall tape i).Shaped C.prog∧i.vars=[]∧Input.okWide C.prog (w.forCall tape i) .any w.heap.size f i∧
   ((s.pre enc C.prog fn conds apart (w.forCall tape i).memory i.args∧X (w.forCall tape i).memory)∧sizedMet enc C.prog fn (OpenSpec.ofChange s) apart (w.forCall tape i).memory i.args)∧({}:Assume).holds C.prog (lone (Frame.enter C.prog f i.args .normal) [] (w.forCall tape i)))
  (hvn:s.vars=[]) (hspec:∀ds:List (DataW H),ds.length=fn.params.size→s.fn H ds={results:=[.lit (.bool true)],args:=ds}) {tb:TypeId} (hrt:fn.resultTypes=#[tb]) (htb:C.prog.underlying tb=some .bool)
  (hl:laidOutB C.prog=true) (hrd:fn.params.toList.all (fun t=>C.prog.readableRec t && decide (t<C.prog.types.size))=true)
  (walk:∀(W:World) (base:Nat) (args:List Value) (ds:List (DataW H)) (p:List MemPlace),X W→W.ShapedOpen C.prog→(∀(j:Nat) t v,fn.params[j]? =some t→args[j]? =some v→Value.okWide C.prog W .any base t v)→
   DataW.TrodAll enc C.prog W 0 (fun _=>true) true fn.params.toList args ds p→(∀x∈DataW.weightsEach C.prog fn.params.toList ds,x≤reachBytes)→Fn C.prog f args.toArray W (fun v W'=>v= .bool true∧Ext W W')):
  ReturnsInHanded {} C os f .any (fun w args=>(s.pre enc C.prog fn conds apart w args∧X w)∧sizedMet enc C.prog fn (OpenSpec.ofChange s) apart w args) (s.post enc C.prog fn apart fresh handsOn again):=by
 refine returnsInHanded_of_calls own started noInit witness ?_
 intro w tape i _ hsh _ hok hpre hholds
 obtain⟨_,_,_,fn',hfn',_,_,_,_,hval⟩:=hok
 have e:fn'=fn:=Option.some.inj (hfn'.symm.trans hfn)
 subst e
 obtain⟨⟨⟨ds,gs,before,hw,hc⟩,hx⟩,hz⟩:=hpre
 have hW:=DataW.Whole.of_heap (w':=w.forCall tape i) (by rfl) hw
 have hwt:(DataW.weightsEach C.prog (fn'.params.toList++s.plain.varTypes C.prog) (ds++gs)).all (·≤reachBytes)=true:=hz.weights hw
 have hXW:=hX _ (w.forCall tape i) (by rfl) hx
 obtain⟨W,hWe⟩:∃W,w.forCall tape i=W:=⟨_,rfl⟩
 rw[hWe]at hW hXW hsh hval ⊢
 refine Calls.mono (R:=fun e W'=>∃v,e= .returned v∧s.post enc C.prog fn' apart fresh handsOn again W i.args v W') ?_ (fun e W' ⟨v,he,hp⟩=>?_)
 rotate_left
 ·subst he
  exact ChangeSpec.post_blind hp
 obtain⟨args,hargs⟩:∃a,i.args=a:=⟨_,rfl⟩
 rw[hargs]at hval hW ⊢
 have hW0:=hW
 obtain⟨p,q,hA,hV,_⟩:=hW
 have hgs:gs=[]:=by
  rw[hvn]at hV
  cases gs with
  |nil=>rfl
  |cons _ _=>exact hV.elim
 subst hgs
 have hvt:s.plain.varTypes C.prog=[]:=by
  unfold DataSpec.varTypes
  rw[show s.plain.vars=[] from hvn];rfl
 rw[hvt,List.append_nil,List.append_nil]at hwt
 have hlen:∀{ts:List TypeId} {vs:List Value} {ds:List (DataW H)} {ps:List MemPlace},DataW.TrodAll enc C.prog W 0 (fun _=>true) true ts vs ds ps→ds.length=ts.length:=by
  intro ts
  induction ts with
  |nil=>intro vs ds ps h;obtain⟨rfl,rfl,rfl⟩:=trodAll_nil h;rfl
  |cons t ts ih=>
   intro vs ds ps h
   obtain⟨v,vs1,d,ds1,a,b,rfl,rfl,rfl,h1,h2⟩:=trodAll_cons h
   simp[ih h2]
 have hw:=walk W w.heap.size args.toList ds p hXW hsh (fun j t v h1 h2=>hval j t v h1 (by simpa using h2)) hA (fun x hx=>by simpa using (List.all_eq_true.1 hwt) x hx)
 rw[Array.toArray_toList]at hw
 refine Calls.mono (callsIn_wide.1 hw) ?_
 rintro e W' ⟨v,rfl,rfl,hE⟩
 refine⟨_,rfl,law_post hW0 hvn (hspec ds (by rw[hlen hA];simp)) hrt htb hl (fun t ht=>?_) hE⟩
 have:=(List.all_eq_true.1 hrd) t ht
 simpa using this
end Go.Proofs.YtihbdhjibplldaaGreatDoor
namespace Go.Proofs.YtihbdhjibplldaaGreatDoor
open Go
set_option maxRecDepth 100000
def bruijn64:List Int:=[0,1,56,2,57,49,28,3,61,58,42,50,38,29,17,4,62,47,59,36,45,43,51,22,53,39,33,30,24,18,12,5,63,55,48,27,60,41,37,16,46,35,44,21,52,32,23,11,54,26,40,15,34,20,31,10,25,14,19,9,13,8,7,6]
theorem zfN{H:Type}{enc:TypeId×Value→H}{P:Program}{w:World}{base:Nat}{sp:Nat→Bool}{held:Bool}{fuel:Nat}{t:TypeId}{cs:List Value}{nm:String}{d:DataW H}{p:List MemPlace}{ms:Array (String×TypeId)}
  (ht:P.underlying t=some (.interface ms)) (h:DataW.trod enc P w base sp held fuel t cs=some (.iface nm d,p)):∃u v,cs=[.iface u v]:=by
 cases fuel with
 |zero=>simp[DataW.trod]at h
 |succ fuel=>
  simp only[DataW.trod,ht]at h
  split at h<;>first| (rename_i heq _;cases heq;done)| (cases h;done)|exact⟨_,_,rfl⟩|simp_all
theorem WX_of{W:World}{rest:List (String×DataW Unit)}(hsh:W.ShapedOpen Tryz.prog)(h:laidMet Tryz.prog ((Rows.loadTextRow.laid.take 5)++rest) W):WX W:=by
 have h1:=laidMet.tail h
 have h2:=laidMet.tail h1
 have h4:=laidMet.tail (laidMet.tail h2)
 have tz:=Lib.tabIs_of_head (g:=3) (t:=205) (e:=5) (n:=64) (k:= .u8) (zs:=bruijn64) (by kernel_rfl) (by kernel_rfl) (by kernel_rfl) (by kernel_rfl) (by kernel_rfl) (by kernel_rfl) h1
 have tp:=Lib.tabIs_of_head (g:=0) (t:=157) (e:=71) (n:=20) (k:= .u64) (zs:=Lib.pow10Tab) (by kernel_rfl) (by kernel_rfl) (by kernel_rfl) (by kernel_rfl) (by kernel_rfl) (by kernel_rfl) h2
 obtain⟨u,v,hv⟩:∃u v,W.cell? ⟨7,0,Option.none⟩=some (.iface u v):=by
  obtain⟨_,⟨g0,t0,cs0,f0,p0,q0,hg0,ht0,hv0,hd0,_,_⟩,_,_⟩:=h4
  obtain rfl:=Option.some.inj ((show Tryz.prog.globalNamed _=some 7 by kernel_rfl).symm.trans hg0)
  obtain rfl:=Option.some.inj ((show(Tryz.prog.globals[7]?).map (·.type)=some 100 by kernel_rfl).symm.trans ht0)
  obtain⟨u,v,hcs⟩:=zfN Tryz.underlying100 hd0
  have e0:cs0=#[.iface u v]:=Array.toList_inj.1 (by simpa using hcs)
  exact⟨u,v,by rw[World.var?_cell hg0 hv0 0,e0];rfl⟩
 refine⟨cell_of_shapedOpen_int (t:=3) (zero:=#[.int .i64 0]) hsh (by decide+kernel) (by kernel_rfl) rfl (by kernel_rfl) (by kernel_rfl) (by kernel_rfl),?_,⟨u,v,hv⟩,⟨4,World.var?_cell (by kernel_rfl) tz 15,by decide,by decide⟩⟩
 have h3:=tp
 unfold Lib.TabIs World.var? at h3
 rw[show Tryz.prog.globalNamed _=some 0 from by kernel_rfl,Option.bind_some]at h3
 split at h3
 ·rename_i cs t fr hh
  injection h3 with h3
  exact⟨t,fr,by rw[hh,h3]⟩
 ·cases h3
def bruijnT:List Int:=[0,1,56,2,57,49,28,3,61,58,42,50,38,29,17,4,62,47,59,36,45,43,51,22,53,39,33,30,24,18,12,5,63,55,48,27,60,41,37,16,46,35,44,21,52,32,23,11,54,26,40,15,34,20,31,10,25,14,19,9,13,8,7,6]
theorem WY_of{W:World}{rest:List (String×DataW Unit)}(h:laidMet Tryz.prog ((Rows.loadTextRow.laid.take 3)++rest) W):WY W:=by
 have h1:=laidMet.tail h
 have h2:=laidMet.tail h1
 have tz:=Lib.tabIs_of_head (g:=3) (t:=205) (e:=5) (n:=64) (k:= .u8) (zs:=bruijnT) (by kernel_rfl) (by kernel_rfl) (by kernel_rfl) (by kernel_rfl) (by kernel_rfl) (by kernel_rfl) h1
 have tp:=Lib.tabIs_of_head (g:=0) (t:=157) (e:=71) (n:=20) (k:= .u64) (zs:=Lib.pow10Tab) (by kernel_rfl) (by kernel_rfl) (by kernel_rfl) (by kernel_rfl) (by kernel_rfl) (by kernel_rfl) h2
 refine⟨?_,World.var?_cell (by kernel_rfl) tz 15⟩
 have h3:=tp
 unfold Lib.TabIs World.var? at h3
 rw[show Tryz.prog.globalNamed _=some 0 from by kernel_rfl,Option.bind_some]at h3
 split at h3
 ·rename_i cs t fr hh
  injection h3 with h3
  exact⟨t,fr,by rw[hh,h3]⟩
 ·cases h3
end Go.Proofs.YtihbdhjibplldaaGreatDoor
namespace Go.Proofs.YtihbdhjibplldaaGreatDoor.loadInclude
open Go Go.Proofs.YtihbdhjibplldaaGreatDoor Go.ChangeShapes Go.WideShapes Go.ChangeAt Go.RowKit
theorem own:ownKnob Tryz.prog.godebug=none:=by kernel_rfl
set_option maxRecDepth 100000 in
theorem lifted(os:Os)(started:os.Started)(H:Type)(enc:TypeId×Value→H):
  ReturnsInHanded {} Tryz.checked os 4 .any (fun w args=>(Rows.loadIncludeSpec.pre enc Tryz.prog Tryz.f4 Rows.loadIncludeRow.domain false w args∧laidMetH Tryz.prog Rows.loadIncludeRow.laid w)∧sizedMet enc Tryz.prog Tryz.f4 (OpenSpec.ofChange Rows.loadIncludeSpec) false w args)
   (Rows.loadIncludeSpec.post enc Tryz.prog Tryz.f4 false true false false):=by
 refine zj0 (C:=Tryz.checked) (X:=laidMetH Tryz.prog Rows.loadIncludeRow.laid) (fun _ _ hh h=>h.of_heap hh) own started (by kernel_rfl) Tryz.func4
  (ChangeSpec.witness_shaped (enc:=enc) (C:=Tryz.checked) (os:=os) (X:=fun w _=>laidMetH Tryz.prog Rows.loadIncludeRow.laid w) false (World.laidAll Tryz.prog os Rows.loadIncludeRow.laid) #[.slice Option.none 0 0,.int .u8 0,.slice Option.none 0 0] 8 (World.laidAll_os _ _ _)
   (World.shaped_of_ZipB (by kernel_rfl) (by kernel_rfl)) (by kernel_rfl) (by kernel_rfl) (by kernel_rfl)
   (by rw[MakeChecks.laidMetH_plain _ _ _ (by kernel_rfl)];exact laidMet_laidAll _ (by kernel_rfl) (by kernel_rfl))) rfl ?_ (tb:=4) rfl rfl (by kernel_rfl) (by kernel_rfl) ?_
 ·intro ds hds
  match ds,hds with
  | [d0,d1,d2],_=>rfl
 ·intro W base args ds p hXW hsh hval hA0 hw0
  rw[MakeChecks.laidMetH_plain _ _ _ (by kernel_rfl)]at hXW
  have hX:WX W:=WX_of (rest:=Rows.loadIncludeRow.laid.drop 5) hsh hXW
  have hY:WY W:=WY_of (rest:=Rows.loadIncludeRow.laid.drop 3) hXW
  have hA:DataW.TrodAll enc Tryz.prog W 0 (fun _=>true) true [22,5,24] args ds p:=hA0
  have hw:∀x∈DataW.weightsEach Tryz.prog [22,5,24] ds,x≤reachBytes:=hw0
  obtain⟨v0,vs0,d0,ds0,p0,q0,rfl,rfl,rfl,h0,r0⟩:=trodAll_cons hA
  obtain⟨v1,vs1,d1,ds1,p1,q1,rfl,rfl,rfl,h1,r1⟩:=trodAll_cons r0
  obtain⟨v2,vs2,d2,ds2,p2,q2,rfl,rfl,rfl,h2,r2⟩:=trodAll_cons r1
  obtain⟨rfl,rfl,rfl⟩:=trodAll_nil r2
  obtain⟨a0,n0,c0,rfl⟩:=okWide_slice (e:=36) rfl (hval 0 _ _ rfl rfl)
  obtain⟨x0,f0,g0⟩:=rd_recsN (ze6 h0 rfl hw (j:=0) rfl rfl)
  obtain⟨x1,rfl,_,_,f1⟩:=open_int (k:= .u8) rfl (hval 1 _ _ rfl rfl) h1
  obtain⟨b1,c1⟩:=bounds_u8 f1
  obtain⟨t1,rfl⟩:∃t:Nat,x1=(t:Int):=⟨x1.toNat,by omega⟩
  replace f1:t1≤255:=by omega
  obtain⟨a2,n2,c2,rfl⟩:=okWide_slice (e:=9) rfl (hval 2 _ _ rfl rfl)
  obtain⟨x2,f2,g2⟩:=zfw (P:=Tryz.prog) (ze6 h2 rfl hw (j:=2) rfl rfl) (e:=9) rfl rfl rfl rfl
  exact ze0 hX hY t1 f0 g0 f2 f1
theorem over:Rows.loadIncludeRow.holds Tryz.pinned (OpenSpec.ofChange Rows.loadIncludeSpec):=
 OpenClaim.holds_of_wide 4 Tryz.f4 rfl rfl rfl rfl rfl rfl rfl ⟨rfl,rfl,rfl,rfl,rfl⟩ rfl rfl rfl rfl rfl (by kernel_rfl) Tryz.func4 joined
  (of_decide_eq_true (by kernel_rfl)) (by unfold Func.isWrapper;first| (rw[if_pos (by decide+kernel)];kernel_rfl)| (rw[if_neg (by decide+kernel)];exact⟨rfl,rfl⟩))
  (fun os started H enc _=>lifted os started H enc)
theorem proved:Rows.LoadIncludeCardSaid:=
 Claim7.holds_tied_plain_at .later [] [.data,.data,.data,.data,.sentinel,.sentinel,.pinned,.pinned] true Rows.loadIncludeCard.stood.harness true over (fun _ h=>by cases h) (by kernel_rfl) (fun _ h=>by cases h) loadInclude_row_tie rfl ⟨rfl,rfl⟩ (by kernel_rfl) rfl
  (fun f fn hf hfn=>by
   obtain rfl:f=4:=Option.some.inj ((show Tryz.prog.funcNamed Rows.loadIncludeRow.func=some 4 by kernel_rfl).symm.trans hf)|>.symm
   obtain rfl:fn=Tryz.f4:=(Option.some.inj (Tryz.func4.symm.trans hfn)).symm
   exact⟨by kernel_rfl,fun j t ht=>by
    have hm:t∈ [22,5,24]:=by simpa using Array.mem_of_getElem? (show(#[22,5,24]:Array TypeId)[j]? =some t from ht)
    have hall:([22,5,24].all fun u=>!Tryz.prog.wantsStandIn u)=true:=by kernel_rfl
    exact(show Tryz.prog.wantsStandIn t=false by simpa using List.all_eq_true.1 hall t hm)⟩)
  (by kernel_rfl)
end Go.Proofs.YtihbdhjibplldaaGreatDoor.loadInclude
