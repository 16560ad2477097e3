/-
  Texts of a proof, joined: Y6, VB, VC, W3, W4, K29, W5, W6, W7, W8, K26, W9, X0.
  Conditions: none.
-/
import Derived.Test.YtahbdamijngmmaaGreatJRW09
import Derived.Test.YtahbdamijngmmaaGreatJRW10
import Derived.Test.YtahbdamijngmmaaGreatJRW01
import Derived.Test.YtahbdamijngmmaaGreatJRW08
set_option linter.unusedVariables false
set_option linter.unusedSimpArgs false
set_option linter.defProp false
set_option linter.unnecessarySimpa false
set_option maxHeartbeats 8000000
namespace Go.Proofs.YtahbdamijngmmaaGreat
open Go
theorem zlx(c:UInt8):zfV (zfV c)=zfV c:=by
 by_cases h:65≤c∧c≤90
 ·rw[zgU h]
  refine zeZ (fun h2=>?_)
  have a:=UInt8.le_iff_toNat_le.1 h.1
  have b:=UInt8.le_iff_toNat_le.1 h.2
  have d:=UInt8.le_iff_toNat_le.1 h2.2
  simp at a b d
  have:(c+32).toNat=c.toNat+32:=by rw[UInt8.toNat_add];simp;omega
  omega
 ·rw[zeZ h,zeZ h]
theorem zlw(l:List UInt8):zaS (zaS l)=zaS l:=by
 unfold zaS
 rw[List.map_map]
 exact List.map_congr_left fun c _=>zlx c
theorem zcf(n:Nm):zaj (zaj n)=zaj n:=by
 unfold zaj
 rw[List.map_map]
 exact List.map_congr_left fun c _=>zlw c
theorem zhT(l:List UInt8):(zaS l).length=l.length:=by simp[zaS]
def Alk(a b:ResL):Prop:=∃n,b={a with name:=n}∧zaj n=zaj a.name
theorem Alk.self(a:ResL):Alk a a:=⟨a.name,rfl,rfl⟩
theorem Alk.kind{a b:ResL}(h:Alk a b):b.kind=a.kind:=by
 obtain⟨n,rfl,h⟩:=h;rfl
section
variable {R : List RecL} {o q n : Nm} {t : Int}
theorem zjd(n:Nm)(t:Int):isL (zaj n) t=isL n t:=by
 funext r
 unfold isL
 rw[zcf]
theorem ofC_fold:ofC R (zaj n) t=ofC R n t:=by unfold ofC;rw[zjd]
theorem zeb:datC R (zaj n) t=datC R n t:=by unfold datC;rw[ofC_fold]
theorem zlp:hasL R (zaj n) t=hasL R n t:=by unfold hasL;rw[zjd]
theorem zlM:cutP o R (zaj n)=cutP o R n:=by unfold cutP;rw[zlp,zaG]
theorem zbt:zaQ (zaj q) o=zaQ q o:=by
 unfold zaQ
 rw[zaG,zdl,zdl,zcf]
theorem zhh:zaQ q (zaj o)=zaQ q o:=by
 unfold zaQ
 rw[zaG,zcf]
theorem zeG:zaX o R (zaj n)=zaX o R n:=by
 unfold zaX
 rw[zbt,zaG,show(fun r:RecL=>zaQ r.owner (zaj n))=fun r=>zaQ r.owner n from funext fun r=>zhh]
theorem zgj(n:Nm):∀k,zbP (zaj n) k=(zbP n k).map zaj
 |0=>by simp only[zbP,List.map_cons,List.map_nil];rw[zdl]
 |k+1=>by simp only[zbP,List.map_cons];rw[zgj n k,zdl]
theorem zgh:zbe o (zaj q)=(zbe o q).map zaj:=by
 unfold zbe
 rw[zaG]
 split
 ·exact zgj q _
 ·rfl
theorem zdx{p:Nm→Bool}(hp:∀n,p (zaj n)=p n):∀l:List Nm,(l.map zaj).takeWhile p=(l.takeWhile p).map zaj
 | []=>rfl
 |a::l=>by
  simp only[List.map_cons,List.takeWhile_cons,hp]
  split
  ·rw[zdx hp l];rfl
  ·rfl
theorem zlF:zb1 o R (zaj q)=zaj (zb1 o R q):=by
 unfold zb1
 rw[zbt]
 split
 ·rw[zgh,zdx (fun n=>zeG),List.getLast?_map]
  cases ((zbe o q).takeWhile (zaX o R)).getLast? with
  |none=>rfl
  |some x=>rfl
 ·rfl
theorem zhn:zb0 o R (zaj q)=zaj (zb0 o R q):=by
 unfold zb0
 rw[zlF];rfl
theorem zkR:zkS R (zaj n)=zkS R n:=by
 unfold zkS
 rw[zcf]
theorem zir:zbj o R (zaj q)=(zbj o R q).map zaj:=by
 unfold zbj
 rw[zhn,zkR]
 split<;>rfl
theorem zlY{b:Bool}:atL R (zaj n) t b=atL R n t b:=by
 unfold atL
 rw[zeb,zeb]
theorem zjJ:Alk (zdB R n) (zdB R (zaj n)):=by
 refine⟨zaj n,?_,zcf n⟩
 unfold zdB
 rw[zeb]
def LenN(a b:Nm):Prop:=a.map List.length=b.map List.length
theorem zg1{a b:Nm}(h:LenN a b):zaD a=zaD b:=by
 have hs:lenN a=lenN b:=by
  unfold lenN
  unfold LenN at h
  have e:∀n:Nm,n.map (fun l=>1+l.length)=(n.map List.length).map (fun k=>1+k):=fun n=>by rw[List.map_map];rfl
  rw[e a,e b,h]
 have he:∀l m:Lab,l.length=m.length→errL l=errL m:=fun l m h=>by
  unfold errL
  rw[h]
  cases l with
  |nil=>
   cases m with
   |nil=>rfl
   |cons _ _=>cases h
  |cons _ _=>
   cases m with
   |nil=>cases h
   |cons _ _=>simp
 unfold zaD
 rw[hs]
 unfold LenN at h
 have:∀{a b:Nm},a.map List.length=b.map List.length→(match a.find? (fun l=>decide (errL l≠0)) with
  |some l=>errL l
  |Option.none=>if 255<lenN b then(3:Int) else 0)=(match b.find? (fun l=>decide (errL l≠0)) with
  |some l=>errL l
  |Option.none=>if 255<lenN b then(3:Int) else 0):=by
  intro a b
  generalize (if 255<lenN b then(3:Int) else 0)=z
  clear h hs
  intro h
  induction a generalizing b with
  |nil=>
   cases b with
   |nil=>rfl
   |cons _ _=>cases h
  |cons x a ih=>
   cases b with
   |nil=>cases h
   |cons y b=>
    simp only[List.map_cons,List.cons.injEq]at h
    have hxy:=he x y h.1
    have h2:=ih h.2
    simp only[List.find?_cons,hxy]
    by_cases hy:errL y=0
    ·simp only[hy,ne_eq,not_true_eq_false,decide_false]
     exact h2
    ·simp only[ne_eq,hy,not_false_eq_true,decide_true]
     exact hxy
 exact this h
theorem zhm{t:Nm}:zbK (zaj q) (zaj n) t=zaj (q.take (q.length - n.length))++t:=by
 unfold zbK
 rw[zaG,zaG]
 congr 1
 unfold zaj
 rw[List.map_take]
theorem zgu{t:Nm}:zaj (zbK (zaj q) (zaj n) t)=zaj (zbK q n t):=by
 rw[zhm]
 unfold zbK
 unfold zaj
 rw[List.map_append,List.map_append]
 congr 1
 exact zcf _
theorem zfa{t:Nm}:zaD (zbK (zaj q) (zaj n) t)=zaD (zbK q n t):=by
 refine zg1 ?_
 rw[zhm]
 unfold zbK LenN
 rw[List.map_append,List.map_append]
 congr 1
 unfold zaj
 rw[List.map_map]
 exact List.map_congr_left fun l _=>zhT l
theorem zhr:(zaK R q n=Option.none∧zaK R (zaj q) (zaj n)=Option.none)∨∃a b,zaK R q n=some a∧zaK R (zaj q) (zaj n)=some b∧Alk a b:=by
 unfold zaK
 rw[zeb,zfa]
 by_cases h:datC R n 39=[]
 ·rw[if_pos h,if_pos h]
  exact .inl ⟨rfl,rfl⟩
 rw[if_neg h,if_neg h]
 right
 by_cases hc:zaD (zbK q n (toN 39 ((datC R n 39).take 1)))=0
 ·rw[if_pos hc,if_pos hc]
  exact⟨_,_,rfl,rfl,_,rfl,zgu⟩
 ·rw[if_neg hc,if_neg hc]
  exact⟨_,_,rfl,rfl,Alk.self _⟩
theorem zlt:∀l:List Nm,(goL o R q l=Option.none∧goL o R (zaj q) (l.map zaj)=Option.none)∨∃a b,goL o R q l=some a∧goL o R (zaj q) (l.map zaj)=some b∧Alk a b
 | []=> .inl ⟨rfl,rfl⟩
 |n::l=>by
  simp only[List.map_cons,goL]
  rw[zlM,zaG,zaG]
  by_cases hc:cutP o R n=true
  ·rw[if_pos hc,if_pos hc]
   exact .inr ⟨_,_,rfl,rfl,zjJ⟩
  rw[if_neg hc,if_neg hc]
  by_cases hl:n.length=q.length
  ·rw[if_pos hl,if_pos hl]
   exact .inl ⟨rfl,rfl⟩
  rw[if_neg hl,if_neg hl]
  rcases zhr (R:=R) (q:=q) (n:=n) with ⟨h1,h2⟩| ⟨a,b,h1,h2,h3⟩
  ·rw[h1,h2]
   exact zlt l
  ·rw[h1,h2]
   exact .inr ⟨_,_,rfl,rfl,h3⟩
theorem zk9:Alk (zbl o R q t) (zbl o R (zaj q) t):=by
 unfold zbl
 rw[zbt]
 by_cases hu:zaQ q o=false
 ·rw[if_pos hu,if_pos hu]
  exact Alk.self _
 rw[if_neg hu,if_neg hu,zgh]
 rcases zlt (o:=o) (R:=R) (q:=q) (zbe o q) with ⟨h1,h2⟩| ⟨a,b,h1,h2,h3⟩
 ·rw[h1,h2]
  show Alk (if zaX o R q=true then _ else _) (if zaX o R (zaj q)=true then _ else _)
  rw[zeG]
  by_cases he:zaX o R q=true
  ·rw[if_pos he,if_pos he,zlY]
   exact Alk.self _
  ·rw[if_neg he,if_neg he,zir]
   cases zbj o R q with
   |none=>exact Alk.self _
   |some s=>
    show Alk (atL R s t true) (atL R (zaj s) t true)
    rw[zlY]
    exact Alk.self _
 ·rw[h1,h2]
  exact h3
end
/-! types -/
section
variable {R : List RecL} {o q n : Nm} {t u : Int}
theorem zeB{r:ResL}(h:zaK R q n=some r):(r.kind=5∨r.kind=6)∧(r.kind=5→∀d∈r.data,d.ty=39):=by
 unfold zaK at h
 split at h
 ·cases h
 ·split at h
  ·cases h
   exact⟨.inl rfl,fun _ d hd=>zg0 (List.mem_of_mem_take hd)⟩
  ·cases h
   exact⟨.inr rfl,fun h=>by cases h⟩
theorem at_kind{b:Bool}:((atL R n t b).kind=1∨(atL R n t b).kind=2∨(atL R n t b).kind=5)∧((atL R n t b).kind=1→∀d∈(atL R n t b).data,d.ty=t)∧((atL R n t b).kind=5→∀d∈(atL R n t b).data,d.ty=5):=by
 unfold atL
 split
 ·exact⟨.inl rfl,(fun _ d hd=>zg0 hd),fun h=>by cases h⟩
 ·split
  ·exact⟨.inr (.inr rfl),(fun h=>by cases h),fun _ d hd=>zg0 (List.mem_of_mem_take hd)⟩
  ·exact⟨.inr (.inl rfl),(fun h=>by cases h),fun h=>by cases h⟩
end
/-! cuts -/
section
variable {R : List RecL} {o q : Nm} {t u : Int}
theorem zfz{n:Nm}{i:Nat}:∀{K:Nat},i≤K→∃suf,zbP n K=zbP (n.drop i) (K - i)++suf
 |0,h=>by
  have:i=0:=by omega
  subst this
  exact⟨[],by simp[zbP]⟩
 |K+1,h=>by
  by_cases hi:i=K+1
  ·subst hi
   refine⟨zbP n K,?_⟩
   rw[show K+1 - (K+1)=0 from by omega]
   simp[zbP]
  ·obtain⟨suf,hs⟩:=zfz (n:=n) (i:=i) (K:=K) (by omega)
   refine⟨suf,?_⟩
   rw[show K+1 - i=(K - i)+1 from by omega]
   simp only[zbP,List.cons_append]
   rw[hs,List.drop_drop,show i+(K - i+1)=K+1 from by omega]
theorem zgi{n:Nm}:∀{K:Nat},∃pre,zbP n K=pre++ [n]∧∀x∈pre,∃i,0<i∧i≤K∧x=n.drop i
 |0=>⟨[],by simp[zbP],fun x h=>by cases h⟩
 |K+1=>by
  obtain⟨pre,h1,h2⟩:=zgi (n:=n) (K:=K)
  refine⟨n.drop (K+1)::pre,by simp only[zbP,h1,List.cons_append],fun x hx=>?_⟩
  rcases List.mem_cons.1 hx with rfl|hx
  ·exact⟨K+1,by omega,Nat.le_refl _,rfl⟩
  ·obtain⟨i,a,b,c⟩:=h2 x hx
   exact⟨i,a,by omega,c⟩
theorem zgT{x:Nm}:∀{pre:List Nm} {suf:List Nm},(∀n∈pre,cutP o R n=false∧n.length≠x.length)→(∀n∈pre,n.length≠q.length)→
  ((∀n∈pre,datC R n 39=[])∧goL o R q (pre++suf)=goL o R q suf)∨((∃n∈pre,datC R n 39≠ [])∧∃r,goL o R q (pre++suf)=some r∧(r.kind=5∨r.kind=6))
 | [],suf,_,_=> .inl ⟨fun n h=>(by cases h),rfl⟩
 |n::pre,suf,h1,h2=>by
  obtain⟨a,b⟩:=h1 n (List.mem_cons_self ..)
  have c:=h2 n (List.mem_cons_self ..)
  simp only[List.cons_append,goL]
  rw[a,if_neg Bool.false_ne_true,if_neg c]
  by_cases hd:datC R n 39=[]
  ·have:zaK R q n=Option.none:=by unfold zaK;rw[if_pos hd]
   rw[this]
   rcases zgT (suf:=suf) (fun m hm=>h1 m (List.mem_cons_of_mem _ hm)) (fun m hm=>h2 m (List.mem_cons_of_mem _ hm)) with ⟨g1,g2⟩| ⟨⟨m,hm,hm2⟩,g2⟩
   ·refine .inl ⟨fun m hm=>?_,g2⟩
    rcases List.mem_cons.1 hm with rfl|hm
    ·exact hd
    ·exact g1 m hm
   ·exact .inr ⟨⟨m,List.mem_cons_of_mem _ hm,hm2⟩,g2⟩
  ·right
   refine⟨⟨n,List.mem_cons_self ..,hd⟩,?_⟩
   cases hr:zaK R q n with
   |none=>
    unfold zaK at hr
    rw[if_neg hd]at hr
    split at hr<;>cases hr
   |some r=>exact⟨r,rfl,(zeB hr).1⟩
theorem zge{α:Type}{p:α→Bool}{x:α}:∀{l:List α},l.find? p=some x→∃pre suf,l=pre++x::suf∧p x=true∧∀y∈pre,p y=false
 | [],h=>by cases h
 |a::l,h=>by
  rw[List.find?_cons]at h
  split at h
  ·rename_i ha
   cases h
   exact⟨[],l,rfl,ha,fun y h=>by cases h⟩
  ·rename_i ha
   obtain⟨pre,suf,h1,h2,h3⟩:=zge h
   refine⟨a::pre,suf,by rw[h1];rfl,h2,fun y hy=>?_⟩
   rcases List.mem_cons.1 hy with rfl|hy
   ·simpa using ha
   ·exact h3 y hy
theorem zjT(hu:zaQ q o=true)(hc:cutL o R q=Option.none):(zbl o R q t).kind≠4∧(zbl o R q t).kind≠7:=by
 unfold cutL at hc
 rw[if_pos hu]at hc
 have hno:∀x∈zbe o q,cutP o R x=false:=fun x hx=>by simpa using (List.find?_eq_none.1 hc) x hx
 have h4:∀{l:List Nm} {r:ResL},(∀x∈l,cutP o R x=false)→goL o R q l=some r→r.kind=5∨r.kind=6:=by
  intro l
  induction l with
  |nil=>intro r _ h;cases h
  |cons n l ih=>
   intro r hl h
   simp only[goL]at h
   rw[hl n (List.mem_cons_self ..),if_neg Bool.false_ne_true]at h
   split at h
   ·cases h
   ·split at h
    ·rename_i r' hr
     cases h
     exact(zeB hr).1
    ·exact ih (fun x hx=>hl x (List.mem_cons_of_mem _ hx)) h
 unfold zbl
 rw[if_neg (by rw[hu];simp)]
 cases hg:goL o R q (zbe o q) with
 |some r=>
  have:=h4 hno hg
  show r.kind≠4∧r.kind≠7
  omega
 |none=>
  have key:∀{n:Nm} {b:Bool},(atL R n t b).kind≠4∧(atL R n t b).kind≠7:=fun {n b}=>by
   have:=(at_kind (R:=R) (n:=n) (t:=t) (b:=b)).1
   omega
  by_cases he:zaX o R q=true
  ·simp only[if_pos he]
   exact key
  ·simp only[if_neg he]
   cases zbj o R q with
   |none=>exact⟨(by decide:(3:Int)≠4),(by decide:(3:Int)≠7)⟩
   |some s=>exact key
theorem look_cut(hs:zkh R){c:Nm}(hu:zaQ q o=true)(hc:cutL o R q=some c):
    (∃k,k≤q.length∧c=q.drop k)∧
    ((∀t,zbl o R c t=zdB R c)∧(∀t,zbl o R q t=zdB R c)∧datC R c 2≠ []∨
     (∀t,(zbl o R c t).kind=5∨(zbl o R c t).kind=6)∧∀t,(zbl o R q t).kind=5∨(zbl o R q t).kind=6):=by
  unfold cutL at hc
  rw[if_pos hu]at hc
  have hol:=zhg hu
  have hdn:zbe o q=zbP q (q.length - o.length):=if_pos hol
  rw[hdn]at hc
  obtain⟨pre,suf,hsp,hcp,hpre⟩:=zge hc
  obtain⟨k,hk,hck⟩:=zbA.1 (show c∈zbP q (q.length - o.length) from by rw[hsp];simp)
  have hkl:k≤q.length:=by omega
  refine⟨⟨k,hkl,hck⟩,?_⟩
  have hcl:c.length=q.length - k:=by rw[hck,List.length_drop]
  have hol2:o.length<c.length:=by
    unfold cutP at hcp
    simp only[Bool.and_eq_true,decide_eq_true_eq]at hcp
    exact hcp.1
  have huc:zaQ c o=true:=by rw[hck,zjE hkl,hu,Bool.and_true];exact decide_eq_true hk
  -- what is ahead of the cut is the same from the cut and from the name
  obtain⟨suf2,hsf⟩:=zfz (n:=q) hk
  obtain⟨pre2,hp2,hp3⟩:=zgi (n:=q.drop k) (K:=q.length - o.length - k)
  have hdc:zbe o c=pre2++ [c]:=by
    unfold zbe
    rw[if_pos (by omega),hck,List.length_drop,show q.length - k - o.length=q.length - o.length - k from by omega]
    exact hp2
  have hlen:∀x∈pre2,x.length<c.length:=fun x hx=>by
    obtain⟨i,a,b,rfl⟩:=hp3 x hx
    rw[List.length_drop,List.length_drop]
    omega
  have hall:zbP q (q.length - o.length)=pre2++c::suf2:=by
    rw[hsf,hp2,List.append_assoc,hck];rfl
  have hpp:pre=pre2:=by
    have h1:pre++c::suf=pre2++c::suf2:=by rw[←hsp,hall]
    -- the first that is a cut
    have hx:∀x∈pre2,cutP o R x=false:=by
      intro x hx
      -- lengths rise along the row
      have hrise:∀(K:Nat),(zbP q K).Pairwise (fun a b=>a.length≤b.length):=fun K=>by
        induction K with
        |zero=>simp[zbP]
        |succ K ih=>
          simp only[zbP]
          refine List.pairwise_cons.2 ⟨fun y hy=>?_,ih⟩
          obtain⟨i,hi,rfl⟩:=zbA.1 hy
          rw[List.length_drop,List.length_drop];omega
      have hr:=hrise (q.length - o.length)
      have hx1:x∈pre++c::suf:=by rw[h1];exact List.mem_append_left _ hx
      rw[hsp]at hr
      rcases List.mem_append.1 hx1 with h|h
      · exact hpre x h
      · exfalso
        have hlx:=hlen x hx
        rcases List.mem_cons.1 h with rfl|h
        · omega
        · have:=(List.pairwise_append.1 hr).2.1
          have:=(List.pairwise_cons.1 this).1 x h
          omega
    have key:∀{a b s1 s2:List Nm},a++c::s1=b++c::s2→(∀x∈a,cutP o R x=false)→(∀x∈b,cutP o R x=false)→a=b:=by
      intro a
      induction a with
      |nil=>
        intro b s1 s2 h _ hb
        cases b with
        |nil=>rfl
        |cons y b=>
          simp only[List.nil_append,List.cons_append,List.cons.injEq]at h
          have:=hb y (List.mem_cons_self ..)
          rw[←h.1,hcp]at this
          cases this
      |cons x a ih=>
        intro b s1 s2 h ha hb
        cases b with
        |nil=>
          simp only[List.nil_append,List.cons_append,List.cons.injEq]at h
          have:=ha x (List.mem_cons_self ..)
          rw[h.1,hcp]at this
          cases this
        |cons y b=>
          simp only[List.cons_append,List.cons.injEq]at h
          rw[h.1,ih h.2 (fun z hz=>ha z (List.mem_cons_of_mem _ hz)) (fun z hz=>hb z (List.mem_cons_of_mem _ hz))]
    exact key h1 hpre hx
  subst hpp
  have g1:=zgT (q:=c) (x:=c) (suf:=[c]) (fun n hn=>⟨hpre n hn,by have:=hlen n hn;omega⟩) (fun n hn=>by have:=hlen n hn;omega)
  have g2:=zgT (q:=q) (x:=c) (suf:=c::suf2) (fun n hn=>⟨hpre n hn,by have:=hlen n hn;omega⟩) (fun n hn=>by have:=hlen n hn;omega)
  have hdq:zbe o q=pre++c::suf2:=by rw[hdn,hall]
  have lk:∀{y:Nm} {r:ResL} (t:Int),zaQ y o=true→goL o R y (zbe o y)=some r→zbl o R y t=r:=fun {y r} t hy hr=>by
    unfold zbl
    rw[if_neg (by rw[hy];simp),hr]
  have hcc:∀y l,goL o R y (c::l)=some (zdB R c):=fun y l=>by
    simp only[goL]
    rw[if_pos hcp]
  rcases g1 with ⟨a1,a2⟩| ⟨⟨m,hm,hm2⟩,r,hr,hk1⟩
  · rcases g2 with ⟨_,b2⟩| ⟨⟨m,hm,hm2⟩,_⟩
    · left
      refine⟨fun t=>lk t huc (by rw[hdc,a2,hcc]),fun t=>lk t hu (by rw[hdq,b2,hcc]),?_⟩
      unfold cutP hasL at hcp
      simp only[Bool.and_eq_true]at hcp
      obtain⟨r,hr,hr2⟩:=List.any_eq_true.1 hcp.2
      have:r∈ofC R c 2:=by rw[zjO hs];exact List.mem_filter.2 ⟨hr,hr2⟩
      intro e
      unfold datC at e
      rw[List.map_eq_nil_iff]at e
      rw[e]at this
      cases this
    · exact absurd (a1 m hm) hm2
  · right
    rcases g2 with ⟨b1,_⟩| ⟨_,r2,hr2,hk2⟩
    · exact absurd (b1 m hm) hm2
    · refine⟨fun t=>?_,fun t=>?_⟩
      · rw[lk t huc (by rw[hdc];exact hr)];exact hk1
      · rw[lk t hu (by rw[hdq];exact hr2)];exact hk2
end
section
variable {R : List RecL} {o q n : Nm} {t u : Int}
theorem zcT{ds:List DatL}{x:Nm}(h:x∈zaw u ds):∃d∈ds,x∈d.names:=by
 unfold zaw at h
 split at h
 ·obtain⟨d,hd,h2⟩:=List.mem_filterMap.1 h
  exact⟨d,hd,List.mem_of_head? h2⟩
 ·cases h
theorem zj6:zaD []=0:=by decide
theorem zkp(hck:∀r∈R,∀n∈r.dat.names,zaD n=0):zaD (toN u ((datC R n t).take 1))=0:=by
 unfold toN
 cases hq:(zbJ u ((datC R n t).take 1)).getLast? with
 |none=>exact zj6
 |some x=>
  have h1:=List.mem_of_getLast? hq
  obtain⟨d,hd,h2⟩:=zcT (zb6 _ _ x h1)
  obtain⟨r,hr,rfl⟩:=ze0 (List.mem_of_mem_take hd)
  exact hck r hr x h2
theorem zgy{r:ResL}(h:zaK R q n=some r)(h5:r.kind=5):zaD r.name=0:=by
 unfold zaK at h
 split at h
 ·cases h
 ·split at h
  ·rename_i hc
   cases h;exact hc
  ·cases h;cases h5
theorem zjf:∀{l:List Nm} {r:ResL},goL o R q l=some r→r.kind=5→zaD r.name=0
 | [],_,h,_=>by cases h
 |n::l,r,h,h5=>by
  simp only[goL]at h
  split at h
  ·cases h;cases h5
  ·split at h
   ·cases h
   ·split at h
    ·rename_i r' hr
     cases h
     exact zgy hr h5
    ·exact zjf h h5
theorem zju(hck:∀r∈R,∀n∈r.dat.names,zaD n=0){b:Bool}(h5:(atL R n t b).kind=5):zaD (atL R n t b).name=0:=by
 unfold atL at h5 ⊢
 split at h5
 ·cases h5
 ·rename_i h1
  rw[if_neg h1]
  split at h5
  ·rename_i h2
   rw[if_pos h2]
   exact zkp hck
  ·cases h5
theorem zjU(hck:∀r∈R,∀n∈r.dat.names,zaD n=0)(h5:(zbl o R q t).kind=5):zaD (zbl o R q t).name=0:=by
 unfold zbl at h5 ⊢
 split at h5
 ·cases h5
 rename_i h1
 rw[if_neg h1]
 split at h5
 ·rename_i r hr
  exact zjf hr h5
 ·rename_i hr
  split at h5
  ·rename_i h2
   rw[if_pos h2]
   exact zju hck h5
  ·rename_i h2
   rw[if_neg h2]
   split at h5
   ·rename_i s hs
    exact zju hck h5
   ·cases h5
end
structure AskF(r:ResL):Prop where
 ok:zl7 r
 dl:r.data.length≤1000
 nm:r.kind=5→zaD r.name=0
 tg:∀n∈zaw 2 r.data,NmM n
 tc:∀d∈r.data,∀n∈d.names,zaD n=0
 ld:r.kind=4→zaw 2 r.data≠ []
theorem ask_F{N:NetL}(hG:NetZ N){s:Int}{q:Nm}{t:Int}(mq:NmM q):AskF (askN N s q t):=by
 have hno:AskF ⟨7,[],[],false,[]⟩:=⟨⟨zjQ,fun d h=>(by cases h),Nat.zero_le _,Nat.zero_le _,fun x h=>(by cases h)⟩,Nat.zero_le _,fun h=>(by cases h),fun n hn=>(by
  obtain⟨d,hd,_⟩:=zcT hn
  cases hd),fun d h=>(by cases h),fun h=>(by cases h)⟩
 unfold askN
 split
 ·cases hz:(N.zones s)[(zcx N s q).1.toNat]? with
  |none=>exact hno
  |some z=>
   have gz:=(zeh hG).1 z (List.mem_of_getElem? hz)
   have gc:=gz.c
   have hf:=look_F (o:=z.o) (P:=fun d=>∀n∈d.names,zaD n=0) gz.gd.names gc.gd (t:=t) mq
   have hk:=look_ok (o:=z.o) gc (t:=t) mq
   refine⟨hk,?_,zjU gz.gd.names,fun n hn=>?_,hf.dat,?_⟩
   ·have:=hf.dl
    have:=gc.len
    show(zbl z.o z.recs q t).data.length≤1000
    omega
   ·obtain⟨d,hd,h2⟩:=zcT hn
    exact(ze1 (hf.dat d hd n h2)).m
   ·intro h4
    dsimp only at h4 ⊢
    have hu:zaQ q z.o=true:=by
     cases hu:zaQ q z.o with
     |true=>rfl
     |false=>
      unfold zbl at h4
      rw[if_pos hu]at h4
      cases h4
    cases hcut:cutL z.o z.recs q with
    |none=>exact absurd h4 (zjT (t:=t) hu hcut).1
    |some c=>
     obtain⟨_,hcase⟩:=look_cut gc.srt hu hcut
     rcases hcase with ⟨_,c2,hne⟩| ⟨_,c2⟩
     ·rw[c2 t]
      show zaw 2 (datC z.recs c 2)≠ []
      obtain⟨d,hd⟩:=List.exists_mem_of_ne_nil _ hne
      obtain⟨r,hr,rfl⟩:=ze0 hd
      have hl:=gz.gd.lead r hr (by rw[zg0 hd];exact .inl rfl)
      obtain⟨x,hx⟩:∃x,r.dat.names.head? =some x:=by
       cases hn:r.dat.names with
       |nil=>rw[hn]at hl;cases hl
       |cons x l=>exact⟨x,rfl⟩
      intro he
      have:x∈zaw 2 (datC z.recs c 2):=by
       unfold zaw
       rw[if_pos (by decide)]
       exact List.mem_filterMap.2 ⟨_,hd,hx⟩
      rw[he]at this;cases this
     ·have:=c2 t;omega
 ·exact hno
set_option maxRecDepth 10000
def zbk(N:NetL)(s:zak)(t:Int):List zak:=
 if s.fin=0 then
  (if (askN N s.sv s.name t).kind=1 then endS s 1 else if (askN N s.sv s.name t).kind=2 then endS s 2 else if (askN N s.sv s.name t).kind=3 then endS s 3 else if (askN N s.sv s.name t).kind=6 then endS s 4 else if (askN N s.sv s.name t).kind=5 then zdC N s (askN N s.sv s.name t).name
  else if (askN N s.sv s.name t).kind=4 then zdA N s (askN N s.sv s.name t) else if s.ref=true then endS s 6 else endS s 5)
 else []
structure StB(s:zak):Prop where
 nm:NmM s.name
 rw0:0≤s.rw
 rw1:s.rw≤1000000
 rf0:0≤s.rf
 rf1:s.rf≤1000000
theorem zhb{w0 w:World}(hE0:Ext w0 w){cs:List Value}{N:NetL}{s:zak}{t:Int}{nv:Value}(hN:NetAt w0 cs N)(hG:NetZ N)(hr:Row w nv (s.name.map vs))(bs:StB s):
  Fn Tryz.prog 45 #[.agg cs.toArray,.agg (stV nv s).toArray,vi t] w (fun v w'=>Ext w w'∧StF w.heap.size (fun u=>u=nv∨BlkB w.heap.size w' u∨∃l,Row w0 u l) w' v (zbk N s t)):=by
 have hN0:=hN
 obtain⟨hv,rv,rfl,hh,hro⟩:=hN.ex
 obtain⟨ah,ch,hhv,_⟩:=hh.open
 obtain⟨ar,cr,hrv,_⟩:=id hro
 obtain⟨an,cn,hnv,_⟩:=id hr
 unfold stV
 refine enter Tryz.func45 Tryz.ntmps45 rfl rfl ?_
 repeat refine c_r ?_
 rw[hhv,hrv,hnv]
 refine rg0 ?_
 rw[←hhv,←hrv,←hnv]
 repeat refine c_r ?_
 rw[zai]
 refine zaO ?_
 intro w1 hE1 hs1 hA hB
 have p5:zae w1 (some ⟨w.heap.size+1,5,Option.none⟩)=some (vi s.fin):=zab hB rfl
 have p0:zae w1 (some ⟨w.heap.size+1,0,Option.none⟩)=some (vi s.sv):=zab hB rfl
 have p1:zae w1 (some ⟨w.heap.size+1,1,Option.none⟩)=some nv:=zab hB rfl
 have p4:zae w1 (some ⟨w.heap.size+1,4,Option.none⟩)=some (.bool s.ref):=zab hB rfl
 have dN:zas w1 (some ⟨w.heap.size,0,Option.none⟩) 4=some [hv,rv,vi N.rw,vi N.rf]:=zah hA rfl
 have dS:zas w1 (some ⟨w.heap.size+1,0,Option.none⟩) 6=some (stV nv s):=zah hB rfl
 repeat refine c_r ?_
 unfold zbk
 by_cases hf:s.fin=0
 rotate_left
 ·rw[if_neg hf]
  refine rg3 p5 Nat.zero_add (decide_eq_false hf) ?_
  repeat refine c_r ?_
  refine wt Bool.not_false ?_
  repeat (first|refine c_r ?_|refine rg0 ?_)
  refine rt0 Tryz.ntmps45 ?_
  exact⟨hE1,BlkB.nil,nv,.inl rfl,Rows.nil _ _ _,fun x hx=>by cases hx⟩
 rw[if_pos hf]
 refine rg3 p5 Nat.zero_add (decide_eq_true hf) ?_
 repeat refine c_r ?_
 refine wf Bool.not_true ?_
 repeat refine c_r ?_
 refine rq ?_;intro gd K hgd hK
 try simp (disch:=first|omega|assumption|rfl) only[go_sem,dN,p0,p1,Nat.add_zero,Nat.zero_add]
 refine Fn.mono (Ask_ok (s:=s.sv) (t:=t) (hE0.trans hE1) hN0 hG (hr.ext hE1) bs.nm) ?_
 rintro _ w2 ⟨hE2,cs,rfl,hres⟩
 have hra:=hres.at ((hE0.trans hE1).trans hE2)
 have hmvB:∀u,cs[2]? =some u→BlkB w.heap.size w2 u∨∃l,Row w0 u l:=fun u hu=>by
  obtain⟨dv,mv,gv,e,_,_,h3,_⟩:=hres.ex
  rw[e]at hu
  obtain rfl:mv=u:=by simpa using hu
  exact h3.imp (fun h=>h.2.mono hE1.size) fun h=>⟨_,h⟩
 have hF:=ask_F (s:=s.sv) (t:=t) hG bs.nm
 try simp only[go_sem]
 refine za2 (P:=Tryz.prog) (l:=cs) (by rw[hres.cells.1];rfl) hres.cells.2 (by rw[hres.cells.1];rfl) rfl ?_
 intro w3 hE3 hs3 hB3
 try simp only[go_sem]
 refine hK _ _ ?_;clear hK hgd;clear K;try clear gd
 obtain⟨r,hre⟩:∃r,askN N s.sv s.name t=r:=⟨_,rfl⟩
 rw[hre]at hra hF hres ⊢
 have hra3:=hra.ext hE3
 have d3:=zah (n:=5) hB3 hres.cells.1.symm
 obtain⟨b,hb⟩:∃b,w2.heap.size=b:=⟨_,rfl⟩
 rw[hb]at hB3 d3 ⊢
 have hE23:=hE2.trans hE3
 have hE13:=hE1.trans hE23
 have hE03:=hE0.trans hE13
 have dN3:=zad hE23 dN
 have dS3:=zad hE23 dS
 have p43:=zaa hE23 p4
 clear hres hra p5 p0 p1 p4 dN dS
 have k0:zae w3 (some ⟨b,0,Option.none⟩)=some (vi r.kind):=by
  obtain⟨dv,mv,gv,e,_⟩:=hra3.ex
  rw[e]at hB3
  exact zab hB3 rfl
 have hrn:=hr.ext hE13
 repeat refine c_r ?_
 refine rg2 k0 Nat.add_zero ?_
 repeat refine c_r ?_
 by_cases k1:r.kind=1
 ·rw[if_pos k1]
  refine rg1 (decide_eq_true k1) ?_
  repeat refine c_r ?_
  refine wt trivial ?_
  repeat refine c_r ?_
  refine rc dS3 (zcJ w3 hrn s 1) ?_
  rintro v w4 ⟨hE4,hv⟩
  refine re trivial ?_
  repeat refine c_r ?_
  refine rt0 Tryz.ntmps45 ?_
  exact⟨hE13.trans hE4,(zcj hv (hrn.ext hE4)).mono hE13.size fun u h=> .inl h⟩
 rw[if_neg k1]
 refine rg1 (decide_eq_false k1) ?_
 repeat refine c_r ?_
 refine wf trivial ?_
 repeat refine c_r ?_
 by_cases k2:r.kind=2
 ·rw[if_pos k2]
  refine rg1 (decide_eq_true k2) ?_
  repeat refine c_r ?_
  refine wt trivial ?_
  repeat refine c_r ?_
  refine rc dS3 (zcJ w3 hrn s 2) ?_
  rintro v w4 ⟨hE4,hv⟩
  refine re trivial ?_
  repeat refine c_r ?_
  refine rt0 Tryz.ntmps45 ?_
  exact⟨hE13.trans hE4,(zcj hv (hrn.ext hE4)).mono hE13.size fun u h=> .inl h⟩
 rw[if_neg k2]
 refine rg1 (decide_eq_false k2) ?_
 repeat refine c_r ?_
 refine wf trivial ?_
 repeat refine c_r ?_
 by_cases k3:r.kind=3
 ·rw[if_pos k3]
  refine rg1 (decide_eq_true k3) ?_
  repeat refine c_r ?_
  refine wt trivial ?_
  repeat refine c_r ?_
  refine rc dS3 (zcJ w3 hrn s 3) ?_
  rintro v w4 ⟨hE4,hv⟩
  refine re trivial ?_
  repeat refine c_r ?_
  refine rt0 Tryz.ntmps45 ?_
  exact⟨hE13.trans hE4,(zcj hv (hrn.ext hE4)).mono hE13.size fun u h=> .inl h⟩
 rw[if_neg k3]
 refine rg1 (decide_eq_false k3) ?_
 repeat refine c_r ?_
 refine wf trivial ?_
 repeat refine c_r ?_
 by_cases k6:r.kind=6
 ·rw[if_pos k6]
  refine rg1 (decide_eq_true k6) ?_
  repeat refine c_r ?_
  refine wt trivial ?_
  repeat refine c_r ?_
  refine rc dS3 (zcJ w3 hrn s 4) ?_
  rintro v w4 ⟨hE4,hv⟩
  refine re trivial ?_
  repeat refine c_r ?_
  refine rt0 Tryz.ntmps45 ?_
  exact⟨hE13.trans hE4,(zcj hv (hrn.ext hE4)).mono hE13.size fun u h=> .inl h⟩
 rw[if_neg k6]
 refine rg1 (decide_eq_false k6) ?_
 repeat refine c_r ?_
 refine wf trivial ?_
 repeat refine c_r ?_
 by_cases k5:r.kind=5
 ·rw[if_pos k5]
  refine rg1 (decide_eq_true k5) ?_
  repeat refine c_r ?_
  refine wt trivial ?_
  obtain⟨dv,mv,gv,e,_,hnm,_⟩:=hra3.ex
  rw[e]at hB3
  have k2:zae w3 (some ⟨b,2,Option.none⟩)=some mv:=zab hB3 rfl
  repeat refine c_r ?_
  refine rc (an4 dS3 dN3 k2 Nat.zero_add) (alias_ok hE03 hN0 hG hrn hnm (ze1 (hF.nm k5)).m bs.rw0 bs.rw1) ?_
  rintro v w4 ⟨hE4,hv⟩
  refine re trivial ?_
  repeat refine c_r ?_
  refine rt0 Tryz.ntmps45 ?_
  exact⟨hE13.trans hE4,hv.mono hE13.size fun u h=>by
   rcases h with h|h
   ·exact .inl h
   ·rw[h]
    exact .inr ((hmvB mv (by rw[e];rfl)).imp (fun h=>h.ext (by have:=hE3.size;have:=hE4.size;omega)) id)⟩
 rw[if_neg k5]
 refine rg1 (decide_eq_false k5) ?_
 repeat refine c_r ?_
 refine wf trivial ?_
 repeat refine c_r ?_
 by_cases k4:r.kind=4
 ·rw[if_pos k4]
  refine rg1 (decide_eq_true k4) ?_
  repeat refine c_r ?_
  refine wt trivial ?_
  repeat refine c_r ?_
  refine rc (an3 dS3 dN3 d3) (refer_ok hE03 hN0 hG hrn hra3 hF.ok hF.dl hF.tg bs.rf0 bs.rf1) ?_
  rintro v w4 ⟨hE4,hv⟩
  refine re trivial ?_
  repeat refine c_r ?_
  refine rt0 Tryz.ntmps45 ?_
  exact⟨hE13.trans hE4,hv.mono hE13.size fun u h=> .inl h⟩
 rw[if_neg k4]
 refine rg1 (decide_eq_false k4) ?_
 repeat refine c_r ?_
 refine wf trivial ?_
 repeat refine c_r ?_
 refine rg2 p43 Nat.add_zero ?_
 repeat refine c_r ?_
 cases hrf:s.ref with
 |true=>
  rw[if_pos rfl]
  refine wt hrf ?_
  repeat refine c_r ?_
  refine rc dS3 (zcJ w3 hrn s 6) ?_
  rintro v w4 ⟨hE4,hv⟩
  refine re trivial ?_
  repeat refine c_r ?_
  refine rt0 Tryz.ntmps45 ?_
  exact⟨hE13.trans hE4,(zcj hv (hrn.ext hE4)).mono hE13.size fun u h=> .inl h⟩
 |false=>
  rw[if_neg Bool.false_ne_true]
  refine wf hrf ?_
  repeat refine c_r ?_
  refine rc dS3 (zcJ w3 hrn s 5) ?_
  rintro v w4 ⟨hE4,hv⟩
  refine re trivial ?_
  repeat refine c_r ?_
  refine rt0 Tryz.ntmps45 ?_
  exact⟨hE13.trans hE4,(zcj hv (hrn.ext hE4)).mono hE13.size fun u h=> .inl h⟩
theorem Next_ok{w0 w:World}(hE0:Ext w0 w){cs sc:List Value}{N:NetL}{s:zak}{t:Int}(hN:NetAt w0 cs N)(hG:NetZ N)(hs:StC w sc s)(bs:StB s):
  Fn Tryz.prog 45 #[.agg cs.toArray,.agg sc.toArray,vi t] w (fun v w'=>Ext w w'∧Rows 6 (StC w') w' v (zbk N s t)):=by
 obtain⟨nv,rfl,hr⟩:=hs.ex
 exact Fn.mono (zhb hE0 hN hG hr bs) fun _ _ h=>⟨h.1,h.2.c⟩
structure zfS where
 o:Nm
 path:Lab
structure SrvL where
 host:Nm
 addr:List UInt8
 places:List zfS
structure zhd where
 servers:List SrvL
 roots:List Int
 rw:Int
 rf:Int
structure PlaceC(w:World)(cs:List Value)(p:zfS):Prop where
 ex:∃ov,cs=[ov,vs p.path]∧Row w ov (p.o.map vs)
structure SrvC(w:World)(cs:List Value)(s:SrvL):Prop where
 ex:∃nv a b c d pv,cs=[nv,zaf a,zaf b,zaf c,zaf d,pv]∧s.addr=[a,b,c,d]∧Row w nv (s.host.map vs)∧Rows 2 (PlaceC w) w pv s.places
structure ConfAt(w:World)(cs:List Value)(c:zhd):Prop where
 ex:∃sv rv,cs=[sv,rv,vi c.rw,vi c.rf]∧Rows 6 (SrvC w) w sv c.servers∧Row w rv (c.roots.map vi)
theorem PlaceC.ext{w x:World}{cs:List Value}{p:zfS}(h:PlaceC w cs p)(hE:Ext w x):PlaceC x cs p:=by
 obtain⟨ov,e,h1⟩:=h.ex
 exact⟨ov,e,h1.ext hE⟩
theorem SrvC.ext{w x:World}{cs:List Value}{z:SrvL}(h:SrvC w cs z)(hE:Ext w x):SrvC x cs z:=by
 obtain⟨nv,a,b,c,d,zv,e,ha,h1,h2⟩:=h.ex
 exact⟨nv,a,b,c,d,zv,e,ha,h1.ext hE,Rows.extC (fun _ _ h=>PlaceC.ext h hE) h2 hE⟩
theorem ConfAt.ext{w x:World}{cs:List Value}{z:zhd}(h:ConfAt w cs z)(hE:Ext w x):ConfAt x cs z:=by
 obtain⟨hv,rv,e,h1,h2⟩:=h.ex
 exact⟨hv,rv,e,Rows.extC (fun _ _ h=>SrvC.ext h hE) h1 hE,h2.ext hE⟩
structure Sh(n:Nm):Prop where
 len:n.length≤130
 lb:∀l∈n,l.length≤100
theorem Sh.m{n:Nm}(h:Sh n):NmM n:=⟨fun l hl=>by have:=h.lb l hl;omega,by have:=h.len;omega⟩
structure FewC(c:zhd):Prop where
 sl:c.servers.length≤20
 rl:c.roots.length≤20
 s:∀s∈c.servers,Sh s.host∧s.places.length≤20∧∀p∈s.places,Sh p.o∧p.path.length≤50
theorem zjx(w:World){a:Value}{n:Nm}(ha:Row w a (n.map vs)):
  Fn Tryz.prog 118 #[a] w (fun v w'=>Ext w w'∧∃t,v= .bool t∧(t=true→Sh n)):=by
 obtain⟨a1,c1,rfl,_,h1⟩:=ha
 simp only[List.length_map,List.getElem_map]at h1 ⊢
 refine enter Tryz.func118 Tryz.ntmps118 rfl rfl ?_
 repeat refine c_r ?_
 refine rg0 ?_
 repeat refine c_r ?_
 by_cases hn:(n.length:Int)>130
 ·refine rg1 (decide_eq_true hn) ?_
  repeat refine c_r ?_
  refine wt trivial ?_
  repeat (first|refine c_r ?_|refine rg0 ?_)
  refine rt0 Tryz.ntmps118 ?_
  exact⟨Keep.refl _ _,_,rfl,fun h=>by cases h⟩
 refine rg1 (decide_eq_false hn) ?_
 repeat refine c_r ?_
 refine wf trivial ?_
 repeat refine c_r ?_
 refine rg0 ?_
 repeat refine c_r ?_
 refine zam (fun m σ ds A=>ds=[]∧∃(i:Nat),i+m=n.length∧σ 3=vi i∧σ 0= .slice a1 n.length c1∧Ext w A∧∀j (h:j<n.length),j<i→n[j].length≤100) n.length ?_ ?_
 ·exact⟨rfl,0,by omega,vr0,vq0,Keep.refl _ _,fun j h h2=>absurd h2 (by omega)⟩
 rintro m σ ds A ⟨rfl,i,him,s3,s0,hEA,ht⟩
 repeat refine c_r ?_
 refine rg2 s3 s0 ?_
 repeat refine c_r ?_
 refine wc0 ?_ ?_
 ·intro hlt
  simp only[decide_eq_true_eq]at hlt
  have hi:i<n.length:=by omega
  have hi0:(0:Int)≤(i:Int):=by omega
  have hi1':(i:Int)+1=((i+1:Nat):Int):=by push_cast;rfl
  have g1:=zaa hEA (h1 i hi)
  obtain⟨x1,rfl⟩:=Option.isSome_iff_exists.1 (zag (h1 i hi))
  repeat refine c_r ?_
  refine rq ?_;intro gd K hgd hK;simp (disch:=first|omega|assumption|rfl) only[go_sem,s3,s0,hi0,hlt,g1,Nat.mul_one];refine hK _ _ ?_;clear hK hgd;clear K gd
  repeat refine c_r ?_
  by_cases hl:(n[i].length:Int)>100
  ·refine wt (decide_eq_true hl) ?_
   repeat (first|refine c_r ?_|refine rg0 ?_)
   refine rt0 Tryz.ntmps118 ?_
   exact⟨hEA,_,rfl,fun h=>by cases h⟩
  ·refine wf (decide_eq_false hl) ?_
   repeat refine c_r ?_
   refine rg2 s3 hi1' ?_
   repeat refine c_r ?_
   refine⟨m - 1,by omega,rfl,i+1,by omega,vq0,(vq1 s0),hEA,fun j hj hji=>?_⟩
   by_cases hj2:j=i
   ·subst hj2;omega
   ·exact ht j hj (by omega)
 ·intro hge
  simp only[decide_eq_false_iff_not]at hge
  repeat (first|refine c_r ?_|refine rg0 ?_)
  refine rt0 Tryz.ntmps118 ?_
  refine⟨hEA,_,rfl,fun _=>⟨by omega,fun l hl=>?_⟩⟩
  obtain⟨j,hj,rfl⟩:=List.mem_iff_getElem.1 hl
  exact ht j hj (by omega)
theorem RPath_ok(w:World){l:Lab}(hl:l.length≤1000000):
  Fn Tryz.prog 167 #[vs l] w (fun v w'=>Ext w w'∧∃t,v= .bool t):=by
 refine enter Tryz.func167 Tryz.ntmps167 rfl rfl ?_
 repeat refine c_r ?_
 refine rg0 ?_
 repeat refine c_r ?_
 refine rg0 ?_
 repeat refine c_r ?_
 refine zam (fun m σ ds A=>ds=[]∧∃(i:Nat),i+m=l.length∧σ 3=vi i∧σ 0=vs l∧Ext w A) l.length ?_ ?_
 ·exact⟨rfl,0,by omega,vr0,vq0,Keep.refl _ _⟩
 rintro m σ ds A ⟨rfl,i,him,s3,s0,hEA⟩
 repeat refine c_r ?_
 refine rg2 s3 s0 ?_
 repeat refine c_r ?_
 refine wc0 ?_ ?_
 ·intro hlt
  simp only[decide_eq_true_eq]at hlt
  have hi:i<l.length:=by omega
  have hi0:(0:Int)≤(i:Int):=by omega
  have hi2:((i:Int)).toNat<l.length:=by omega
  have hi1':(i:Int)+1=((i+1:Nat):Int):=by push_cast;rfl
  repeat refine c_r ?_
  refine rg2 s3 s0 ?_
  repeat refine c_r ?_
  refine wc0 ?_ ?_
  ·intro _
   repeat (first|refine c_r ?_|refine rg0 ?_)
   refine rt0 Tryz.ntmps167 ?_
   exact⟨hEA,_,rfl⟩
  ·intro _
   repeat refine c_r ?_
   refine rg2 s3 hi1' ?_
   repeat refine c_r ?_
   exact⟨m - 1,by omega,rfl,i+1,by omega,vq0,(vq1 s0),hEA⟩
 ·intro hge
  repeat refine c_r ?_
  refine rg1 s0 ?_
  repeat refine c_r ?_
  refine rt0 Tryz.ntmps167 ?_
  exact⟨hEA,_,rfl⟩
theorem zi0{w:World}{sv:Value}{l:List SrvL}(hs:Rows 6 (SrvC w) w sv l):∃a c,sv= .slice a l.length c∧∀i (h:i<l.length),∃xa xi x5 nv ap cp,a=some xa∧adr (some xa) (i*6)=some xi∧adr (some xi) 5=some x5∧zae w (some xi)=some nv∧Row w nv (l[i].host.map vs)∧
  zae w (some x5)=some (.slice ap l[i].places.length cp)∧(∃b1 b2 b3 b4,l[i].addr=[b1,b2,b3,b4]∧zas w (some xi) 6=some [nv,zaf b1,zaf b2,zaf b3,zaf b4,.slice ap l[i].places.length cp])∧Rows 2 (PlaceC w) w (.slice ap l[i].places.length cp) l[i].places∧
  ∀k (h:k<l[i].places.length),∃xp xk xk1 ov,ap=some xp∧adr (some xp) (k*2)=some xk∧adr (some xk) 1=some xk1∧zae w (some xk)=some ov∧Row w ov (l[i].places[k].o.map vs)∧zae w (some xk1)=some (vs l[i].places[k].path):=by
 obtain⟨a,c,rfl,_,hg⟩:=hs.open
 refine⟨a,c,rfl,fun i hi=>?_⟩
 obtain⟨cs,hcs,hS⟩:=hg i hi
 obtain⟨nv,b1,b2,b3,b4,pv,rfl,ha,hn,hp⟩:=hS.ex
 have hp0:=hp
 obtain⟨ap,cp,rfl,_,hgp⟩:=hp.open
 obtain⟨xa,rfl⟩:=Option.isSome_iff_exists.1 (zaq hcs)
 obtain⟨xi,hxi⟩:∃xi,adr (some xa) (i*6)=some xi:=⟨_,rfl⟩
 obtain⟨x5,hx5⟩:∃x,adr (some xi) 5=some x:=⟨_,rfl⟩
 rw[hxi]at hcs
 have h0:=zax (j:=0) hcs rfl
 rw[zaA]at h0
 have h5:=zax (j:=5) hcs rfl
 rw[hx5]at h5
 refine⟨xa,xi,x5,nv,ap,cp,rfl,hxi,hx5,h0,hn,h5,⟨b1,b2,b3,b4,ha,hcs⟩,hp0,fun k hk=>?_⟩
 obtain⟨c2,hc2,hP⟩:=hgp k hk
 obtain⟨ov,rfl,ho⟩:=hP.ex
 obtain⟨xp,rfl⟩:=Option.isSome_iff_exists.1 (zaq hc2)
 obtain⟨xk,hxk⟩:∃xi,adr (some xp) (k*2)=some xi:=⟨_,rfl⟩
 obtain⟨xk1,hxk1⟩:∃x,adr (some xk) 1=some x:=⟨_,rfl⟩
 rw[hxk]at hc2
 have g0:=zax (j:=0) hc2 rfl
 rw[zaA]at g0
 have g1:=zax (j:=1) hc2 rfl
 rw[hxk1]at g1
 exact⟨xp,xk,xk1,ov,rfl,hxk,hxk1,g0,ho,g1⟩
theorem Few15_ok(w:World){cs:List Value}{c:zhd}(hc:ConfAt w cs c):
  Fn Tryz.prog 66 #[.agg cs.toArray] w (fun v w'=>Ext w w'∧∃t,v= .bool t∧(t=true→FewC c)):=by
 obtain⟨sv,rv,rfl,hs,hr⟩:=hc.ex
 obtain⟨aS,cS,rfl,hat⟩:=zi0 hs
 obtain⟨ar,cr,rfl,_⟩:=hr
 simp only[List.length_map]
 refine enter Tryz.func66 Tryz.ntmps66 rfl rfl ?_
 repeat refine c_r ?_
 refine rg0 ?_
 repeat refine c_r ?_
 refine zaB ?_
 intro w1 hE1 hs1 hA
 have p0:zae w1 (some ⟨w.heap.size,0,Option.none⟩)=some (.slice aS c.servers.length cS):=zab hA rfl
 have p1:zae w1 (some ⟨w.heap.size,1,Option.none⟩)=some (.slice ar c.roots.length cr):=zab hA rfl
 repeat refine c_r ?_
 by_cases h1:(c.servers.length:Int)>20
 ·refine rgg [(4,9)] (an3 p0 Nat.add_zero (decide_eq_true h1)) ?_
  repeat refine c_r ?_
  refine wt trivial ?_
  repeat (first|refine c_r ?_|refine rg0 ?_)
  refine rt0 Tryz.ntmps66 ?_
  exact⟨hE1,_,rfl,fun h=>by cases h⟩
 by_cases h2:(c.roots.length:Int)>20
 ·refine rgg [(4,9)] (an6 p0 Nat.add_zero (decide_eq_false h1) p1 Nat.zero_add (decide_eq_true h2)) ?_
  repeat refine c_r ?_
  refine wt trivial ?_
  repeat (first|refine c_r ?_|refine rg0 ?_)
  refine rt0 Tryz.ntmps66 ?_
  exact⟨hE1,_,rfl,fun h=>by cases h⟩
 refine rgg [(4,9)] (an6 p0 Nat.add_zero (decide_eq_false h1) p1 Nat.zero_add (decide_eq_false h2)) ?_
 repeat refine c_r ?_
 refine wf trivial ?_
 repeat refine c_r ?_
 refine rg0 ?_
 repeat refine c_r ?_
 refine zam (fun m σ ds A=>ds=[]∧∃(i:Nat),i+m=c.servers.length∧σ 3=vi i∧σ 1= .pointer (some ⟨w.heap.size,0,Option.none⟩)∧Ext w1 A∧∀j (h:j<c.servers.length),j<i→Sh c.servers[j].host∧c.servers[j].places.length≤20∧∀p∈c.servers[j].places,Sh p.o∧p.path.length≤50) c.servers.length ?_ ?_
 ·exact⟨rfl,0,by omega,vr0,vq0,Keep.refl _ _,fun j h h2=>absurd h2 (by omega)⟩
 rintro m σ ds A ⟨rfl,i,him,s3,s1,hEA,ht⟩
 have p0A:=zaa hEA p0
 repeat refine c_r ?_
 refine rg4 s3 s1 p0A Nat.add_zero ?_
 repeat refine c_r ?_
 refine wc0 ?_ ?_
 ·intro hlt
  simp only[decide_eq_true_eq]at hlt
  have hi:i<c.servers.length:=by omega
  have hi0:(0:Int)≤(i:Int):=by omega
  have hi1':(i:Int)+1=((i+1:Nat):Int):=by push_cast;rfl
  obtain⟨xa,xi,x5,nv,ap,cp,rfl,hxi,hx5,g0,hn,g5,_,_,hpl⟩:=hat i hi
  obtain⟨s,hse⟩:∃s,c.servers[i]=s:=⟨_,rfl⟩
  rw[hse]at hn g5
  simp only[hse]at hpl
  have hz0:adr (some xi) 0=some xi:=zaA _
  have g0A:=zaa (hE1.trans hEA) g0
  repeat refine c_r ?_
  refine rcg [(8,30)] (an9 s3 s1 p0A Nat.add_zero hi0 hlt hxi hz0 g0A) (zjx A (hn.ext (hE1.trans hEA))) ?_
  rintro _ A1 ⟨hE2,t,rfl,hsh⟩
  have hEA1:=hEA.trans hE2
  have p0B:=zaa hEA1 p0
  have g5B:=zaa (hE1.trans hEA1) g5
  cases t with
  |false=>
   refine reg [(8,30)] Bool.not_false ?_
   repeat refine c_r ?_
   refine wt trivial ?_
   repeat (first|refine c_r ?_|refine rg0 ?_)
   refine rt0 Tryz.ntmps66 ?_
   exact⟨hE1.trans hEA1,_,rfl,fun h=>by cases h⟩
  |true=>
  by_cases h3:(s.places.length:Int)>20
  ·refine reg [(8,30)] (an2 (an9 s3 s1 p0B Nat.add_zero hi0 hlt hxi hx5 g5B) (an2 Bool.not_true (decide_eq_true h3))) ?_
   repeat refine c_r ?_
   refine wt trivial ?_
   repeat (first|refine c_r ?_|refine rg0 ?_)
   refine rt0 Tryz.ntmps66 ?_
   exact⟨hE1.trans hEA1,_,rfl,fun h=>by cases h⟩
  refine reg [(8,30)] (an2 (an9 s3 s1 p0B Nat.add_zero hi0 hlt hxi hx5 g5B) (an2 Bool.not_true (decide_eq_false h3))) ?_
  repeat refine c_r ?_
  refine wf trivial ?_
  repeat refine c_r ?_
  refine rg0 ?_
  repeat refine c_r ?_
  refine zam (fun m σ ds B=>ds=[]∧∃(k:Nat),k+m=s.places.length∧σ 4=vi k∧σ 3=vi i∧σ 1= .pointer (some ⟨w.heap.size,0,Option.none⟩)∧Ext w1 B∧∀j (h:j<s.places.length),j<k→Sh s.places[j].o∧s.places[j].path.length≤50) s.places.length ?_ ?_
  ·exact⟨rfl,0,by omega,vr0,(vq1 s3),(vq1 s1),hEA1,fun j h h2=>absurd h2 (by omega)⟩
  clear s3 s1
  rintro m2 σ2 ds2 B ⟨rfl,k,hkm,s4,s3,s1,hEB,ht2⟩
  have p0C:=zaa hEB p0
  have g5C:=zaa (hE1.trans hEB) g5
  repeat refine c_r ?_
  refine rg9 s4 s3 s1 (an3 p0C Nat.add_zero g5C) hi0 hlt hxi hx5 trivial ?_
  repeat refine c_r ?_
  refine wc0 ?_ ?_
  ·intro hlt2
   simp only[decide_eq_true_eq]at hlt2
   have hk:k<s.places.length:=by omega
   have hk0:(0:Int)≤(k:Int):=by omega
   have hk1':(k:Int)+1=((k+1:Nat):Int):=by push_cast;rfl
   obtain⟨xp,xk,xk1,ov,rfl,hxk,hxk1,f0,ho,f1⟩:=hpl k hk
   have hz1:adr (some xk) 0=some xk:=zaA _
   have f0C:=zaa (hE1.trans hEB) f0
   repeat refine c_r ?_
   refine rcg [(12,63)] (an2 (an9 s4 s3 s1 p0C Nat.add_zero g5C hi0 hlt hxi) (an7 hx5 hk0 hlt2 hxk hz1 f0C trivial)) (zjx B (ho.ext (hE1.trans hEB))) ?_
   rintro _ B1 ⟨hE3,t,rfl,hsh2⟩
   have hEB1:=hEB.trans hE3
   cases t with
   |false=>
    refine reg [(12,63)] Bool.not_false ?_
    repeat refine c_r ?_
    refine wt trivial ?_
    repeat (first|refine c_r ?_|refine rg0 ?_)
    refine rt0 Tryz.ntmps66 ?_
    exact⟨hE1.trans hEB1,_,rfl,fun h=>by cases h⟩
   |true=>
   have p0D:=zaa hEB1 p0
   have g5D:=zaa (hE1.trans hEB1) g5
   have f1D:=zaa (hE1.trans hEB1) f1
   by_cases h4:((s.places[k].path).length:Int)>50
   ·refine reg [(12,63)] (an3 (an9 s4 s3 s1 p0D Nat.add_zero g5D hi0 hlt hxi) (an6 hx5 hk0 hlt2 hxk hxk1 f1D) (an2 Bool.not_true (decide_eq_true h4))) ?_
    repeat refine c_r ?_
    refine wt trivial ?_
    repeat (first|refine c_r ?_|refine rg0 ?_)
    refine rt0 Tryz.ntmps66 ?_
    exact⟨hE1.trans hEB1,_,rfl,fun h=>by cases h⟩
   refine reg [(12,63)] (an3 (an9 s4 s3 s1 p0D Nat.add_zero g5D hi0 hlt hxi) (an6 hx5 hk0 hlt2 hxk hxk1 f1D) (an2 Bool.not_true (decide_eq_false h4))) ?_
   repeat refine c_r ?_
   refine wf trivial ?_
   repeat refine c_r ?_
   refine rg2 s4 hk1' ?_
   repeat refine c_r ?_
   refine⟨m2 - 1,by omega,rfl,k+1,by omega,vq0,(vq1 s3),(vq1 s1),hEB1,fun j hj hjk=>?_⟩
   by_cases hj2:j=k
   ·subst hj2;exact⟨hsh2 rfl,by omega⟩
   ·exact ht2 j hj (by omega)
  ·intro hge2
   simp only[decide_eq_false_iff_not]at hge2
   repeat refine c_r ?_
   refine rg2 s3 hi1' ?_
   repeat refine c_r ?_
   refine⟨m - 1,by omega,rfl,i+1,by omega,vq0,(vq1 s1),hEB,fun j hj hji=>?_⟩
   by_cases hj2:j=i
   ·subst hj2
    rw[hse]
    refine⟨hsh rfl,by omega,fun p hp=>?_⟩
    obtain⟨k2,hk2,rfl⟩:=List.mem_iff_getElem.1 hp
    exact ht2 k2 hk2 (by omega)
   ·exact ht j hj (by omega)
 ·intro hge
  simp only[decide_eq_false_iff_not]at hge
  repeat (first|refine c_r ?_|refine rg0 ?_)
  refine rt0 Tryz.ntmps66 ?_
  refine⟨hE1.trans hEA,_,rfl,fun _=>⟨by omega,by omega,fun s hs=>?_⟩⟩
  obtain⟨j,hj,rfl⟩:=List.mem_iff_getElem.1 hs
  exact ht j hj (by omega)
section
variable {P : Program} {d : Option Tmp} {ty : TypeId} {ps : String} {af : Array Edge} {g : Option (Nat × Bool)} {ρ : Operand → Value} {w : World} {K : Value → World → Prop}
theorem zeV{e:TypeId}{cs:Array Value}{i:Nat}{v:Value}(he:P.underlying e=some (.int .u8))(hv:cs[i]? =some v):(part e cs i).run P w= .ok v w:=by
 have hi:(isAgg e).run P w= .ok false w:=by simp[isAgg,underlying,program,Sem.run,he]
 unfold part
 simp only[Sem.run_bind,hi,Result.andThen_ok,Bool.false_eq_true,if_false,hv,Sem.run_pure]
theorem zc3{e:TypeId}(he:P.underlying e=some (.int .u8))(n:Nat)(a b:UInt8):(Op.equalIn (n+1) e (zaf a) (zaf b)).run P w= .ok (decide (a=b)) w:=by
 have:((a.toNat:Int)==(b.toNat:Int))=decide (a=b):=by
  by_cases h:a=b
  ·subst h;simp
  ·rw[decide_eq_false h]
   have:a.toNat≠b.toNat:=fun h2=>h (UInt8.toNat_inj.1 h2)
   simp;omega
 simp[Op.equalIn,underlying,program,Sem.run,he,zaf,this]
theorem eqIn_arr{t e:TypeId}{inf:TypeInfo}(ht:P.underlying t=some (.array 4 e))(he:P.underlying e=some (.int .u8))(hi:P.info? e=some inf)(hs:inf.size=1)(n:Nat)(a b c d a' b' c' d':UInt8):
  (Op.equalIn (n+2) t (.agg #[zaf a,zaf b,zaf c,zaf d]) (.agg #[zaf a',zaf b',zaf c',zaf d'])).run P w= .ok (decide ([a,b,c,d]=[a',b',c',d'])) w:=by
 rw[Op.equalIn]
 have hsz:(sizeOf e).run P w= .ok 1 w:=by simp[sizeOf,typeInfo,program,Sem.run,hi,hs]
 have hu:(underlying t).run P w= .ok (.array 4 e) w:=by simp[underlying,program,Sem.run,ht]
 simp only[Sem.run_bind,hu,Result.andThen_ok,hsz,Std.Legacy.Range.forIn_eq_forIn_range',Std.Legacy.Range.size,List.range']
 have p0:∀x0 x1 x2 x3:Value,(part e #[x0,x1,x2,x3] 0).run P w= .ok x0 w:=fun _ _ _ _=>zeV he rfl
 have p1:∀x0 x1 x2 x3:Value,(part e #[x0,x1,x2,x3] 1).run P w= .ok x1 w:=fun _ _ _ _=>zeV he rfl
 have p2:∀x0 x1 x2 x3:Value,(part e #[x0,x1,x2,x3] 2).run P w= .ok x2 w:=fun _ _ _ _=>zeV he rfl
 have p3:∀x0 x1 x2 x3:Value,(part e #[x0,x1,x2,x3] 3).run P w= .ok x3 w:=fun _ _ _ _=>zeV he rfl
 by_cases h1:a=a'
 ·by_cases h2:b=b'
  ·by_cases h3:c=c'
   ·by_cases h4:d=d'
    ·simp[List.forIn_cons,Sem.run_bind,p0,p1,p2,p3,zc3 he,h1,h2,h3,h4]
    ·simp[List.forIn_cons,Sem.run_bind,p0,p1,p2,p3,zc3 he,h1,h2,h3,h4]
   ·simp[List.forIn_cons,Sem.run_bind,p0,p1,p2,p3,zc3 he,h1,h2,h3]
  ·simp[List.forIn_cons,Sem.run_bind,p0,p1,p2,p3,zc3 he,h1,h2]
 ·simp[List.forIn_cons,Sem.run_bind,p0,p1,p2,p3,zc3 he,h1]
theorem op_eqA{t e yt:TypeId}{x y:Operand}{inf:TypeInfo}{a b c d1 a' b' c' d':UInt8}(ht:P.underlying t=some (.array 4 e))(he:P.underlying e=some (.int .u8))(hi:P.info? e=some inf)(hs:inf.size=1)(hg:P.eqGuardType P.depth t=false)
  (hx:ρ x= .agg #[zaf a,zaf b,zaf c,zaf d1]) (hy:ρ y= .agg #[zaf a',zaf b',zaf c',zaf d']) (h:K (.bool (decide ([a,b,c,d1]=[a',b',c',d']))) w):
  opW P ⟨d,.binOp .eql t x y yt,ty,ps,af,g⟩ ρ w K:=by
 have h2:(Op.equal t (.agg #[zaf a,zaf b,zaf c,zaf d1]) (.agg #[zaf a',zaf b',zaf c',zaf d'])).run P w= .ok (decide ([a,b,c,d1]=[a',b',c',d'])) w:=eqIn_arr ht he hi hs 9998 a b c d1 a' b' c' d'
 have hr:(do eqGuard .eql t x y (.agg #[zaf a,zaf b,zaf c,zaf d1]) (.agg #[zaf a',zaf b',zaf c',zaf d']);binOp .eql t (.agg #[zaf a,zaf b,zaf c,zaf d1]) (.agg #[zaf a',zaf b',zaf c',zaf d']):Sem Value).run P w= .ok (.bool (decide ([a,b,c,d1]=[a',b',c',d']))) w:=by
  simp[eqGuard,binOp,h2,program,Sem.run,hg]
 have:=zaI (P:=P) (K:=K) hr h
 rw[←hx,←hy]at this
 exact this
end
theorem Sh.lb9{n:Nm}(h:Sh n):(∀l∈n,l.length≤1000000000)∧n.length≤1000000000:=⟨fun l hl=>by have:=h.lb l hl;omega,by have:=h.len;omega⟩
theorem zl4(w:World){cs:List Value}{c:zhd}(hc:ConfAt w cs c)(hf:FewC c){i:Nat}(hi:i<c.servers.length):
  Fn Tryz.prog 119 #[.agg cs.toArray,vi i] w (fun v w'=>Ext w w'∧∃e,v=vi e):=by
 obtain⟨sv,rv,rfl,hs,hr⟩:=hc.ex
 obtain⟨aS,cS,rfl,hat⟩:=zi0 hs
 obtain⟨ar,cr,rfl,_⟩:=hr
 simp only[List.length_map]
 have hsl:=hf.sl
 refine enter Tryz.func119 Tryz.ntmps119 rfl rfl ?_
 repeat refine c_r ?_
 refine rg0 ?_
 repeat refine c_r ?_
 refine zaB ?_
 intro w1 hE1 hs1 hA
 have p0:zae w1 (some ⟨w.heap.size,0,Option.none⟩)=some (.slice aS c.servers.length cS):=zab hA rfl
 obtain⟨xa,xi,x5,nv,ap,cp,rfl,hxi,hx5,g0,hn,g5,⟨b1,b2,b3,b4,hadr,hcs⟩,hpr,hpl⟩:=hat i hi
 obtain⟨s,hse⟩:∃s,c.servers[i]=s:=⟨_,rfl⟩
 obtain⟨fs1,fs2,fs3⟩:=hf.s s (hse▸List.getElem_mem hi)
 rw[hse]at hn g5 hadr hcs hpr
 simp only[hse]at hpl
 have n1:=hn.isOne
 have i0:(0:Int)≤(i:Int):=by omega
 have i1:(i:Int)<(c.servers.length:Int):=by omega
 have d:=zad hE1 hcs
 repeat refine c_r ?_
 refine rq ?_;intro gd K hgd hK
 try simp (disch:=first|omega|assumption|rfl) only[go_sem,p0,Nat.add_zero,i0,i1,hxi,d]
 refine za2 (P:=Tryz.prog) (l:=[nv,zaf b1,zaf b2,zaf b3,zaf b4,.slice ap s.places.length cp]) rfl (fun v hv=>by simp at hv;rcases hv with rfl|rfl|rfl|rfl|rfl|rfl<;>first|exact n1|rfl) rfl rfl ?_
 intro w2 hE2 hs2 hB
 try simp only[go_sem]
 refine hK _ _ ?_;clear hK hgd;clear K;try clear gd
 obtain⟨b5,hb5⟩:∃b,w1.heap.size=b:=⟨_,rfl⟩
 rw[hb5]at hB ⊢
 have hE12:=hE1.trans hE2
 have p02:=zaa hE2 p0
 have q0:zae w2 (some ⟨b5,0,Option.none⟩)=some nv:=zab hB rfl
 have q1:zas w2 (some ⟨b5,1,Option.none⟩) 4=some [zaf b1,zaf b2,zaf b3,zaf b4]:=by
  have h6:=zah (n:=6) (l:=[nv,zaf b1,zaf b2,zaf b3,zaf b4,.slice ap s.places.length cp]) hB rfl
  have h5:=za8 (m:=1) (k:=5) h6
  rw[zaU]at h5
  exact zcw (m:=4) (k:=1) h5
 have q5:zae w2 (some ⟨b5,5,Option.none⟩)=some (.slice ap s.places.length cp):=zab hB rfl
 repeat refine c_r ?_
 refine rc (an2 q0 Nat.add_zero) (zbH w2 nv s.host (hn.ext hE12) fs1.lb9.1 fs1.lb9.2) ?_
 rintro _ w3 ⟨rfl,hE3⟩
 refine re trivial ?_
 have hE23:=hE12.trans hE3
 repeat refine c_r ?_
 by_cases hck:zaD s.host=0
 rotate_left
 ·refine rg1 (decide_eq_false hck) ?_
  repeat refine c_r ?_
  refine wt Bool.not_false ?_
  repeat (first|refine c_r ?_|refine rg0 ?_)
  refine rt0 Tryz.ntmps119 ?_
  exact⟨hE23,_,rfl⟩
 refine rg1 (decide_eq_true hck) ?_
 repeat refine c_r ?_
 refine wf Bool.not_true ?_
 have p03:=zaa hE3 p02
 have q03:=zaa hE3 q0
 have q13:=zad hE3 q1
 have q53:=zaa hE3 q5
 repeat refine c_r ?_
 refine rg0 ?_
 repeat refine c_r ?_
 refine zam (fun m σ ds A=>ds=[]∧∃(k:Nat),k+m=i∧σ 7=vi k∧σ 1=vi i∧σ 2= .pointer (some ⟨w.heap.size,0,Option.none⟩)∧σ 5= .pointer (some ⟨b5,0,Option.none⟩)∧Ext w3 A) i ?_ ?_
 ·exact⟨rfl,0,by omega,vr0,vq0,vq0,vq0,Keep.refl _ _⟩
 rintro m σ ds A ⟨rfl,k,hkm,s7,s1,s2,s5,hEA⟩
 have hEwA:=hE23.trans hEA
 repeat refine c_r ?_
 refine rg2 s7 s1 ?_
 repeat refine c_r ?_
 refine wc0 ?_ ?_
 ·intro hlt
  simp only[decide_eq_true_eq]at hlt
  have hk:k<c.servers.length:=by omega
  have hk0:(0:Int)≤(k:Int):=by omega
  have hk1:(k:Int)<(c.servers.length:Int):=by omega
  have hk1':(k:Int)+1=((k+1:Nat):Int):=by push_cast;rfl
  obtain⟨xa',xk,_,nv',_,_,hae,hxk,_,f0,hn',_,⟨d1,d2,d3,d4,_,fcs⟩,_,_⟩:=hat k hk
  injection hae with hae
  subst hae
  obtain⟨fsk,_,_⟩:=hf.s _ (List.getElem_mem hk)
  obtain⟨y1,hy1⟩:∃y,adr (some xk) 1=some y:=⟨_,rfl⟩
  have hz0:adr (some xk) 0=some xk:=zaA _
  have fby:zas w (some y1) 4=some [zaf d1,zaf d2,zaf d3,zaf d4]:=by
   have h5:=za8 (m:=1) (k:=5) fcs
   rw[hy1]at h5
   exact zcw (m:=4) (k:=1) h5
  repeat refine c_r ?_
  refine zaJ (fun _=>false) [(0,true),(1,true),(2,true),(3,true),(4,true),(5,true),(6,true),(7,true),(8,false),(9,true),(10,true),(11,true),(12,true),(13,true),(14,true),(15,true),(16,true),(17,true),(18,false),(19,true)] NoS mixed (by kernel_rfl) ?_;intro gd K x hgd hx hxe hK;clear hxe
  have hg9:∀n σ b,zav gd n σ (some (9,b))=zal (ev n σ (.tmp 35)) b:=(fun n σ b=>by rw[zac,show gd 9=some 35 from(by rw[hgd];rfl)];rfl)
  have hW:=hEwA.trans hx
  have p0x:=zaa (hEA.trans hx) p03
  have q0x:=zaa (hEA.trans hx) q03
  have q1x:=zad (hEA.trans hx) q13
  have f0x:=zaa hW f0
  have fbx:=zad hW fby
  simp (disch:=first|omega|assumption|rfl) only[go_sem,s7,s2,s5,p0x,q0x,Nat.add_zero,hk0,hk1,hxk,hz0,f0x]
  refine Fn.mono (zg9 x nv' nv _ s.host (hn'.ext hW) (hn.ext hW) fsk.m.LB fs1.m.LB (by have:=fsk.len;omega) (by have:=fs1.len;omega)) ?_
  rintro _ y ⟨rfl,hy⟩
  refine⟨.inr hy,?_⟩
  obtain⟨sm,hsm⟩:∃b,decide (zaj c.servers[k].host=zaj s.host)=b:=⟨_,rfl⟩
  rw[hsm]
  cases sm with
  |true=>
   simp (disch:=first|omega|assumption|rfl) only[go_sem,↓hg9]
   refine hK _ _ ?_;clear hK hgd;clear K;try clear gd
   repeat refine c_r ?_
   refine wt trivial ?_
   repeat (first|refine c_r ?_|refine rg0 ?_)
   refine rt0 Tryz.ntmps119 ?_
   exact⟨hW.trans hy,_,rfl⟩
  |false=>
  have p0y:=zaa hy p0x
  have q1y:=zad hy q1x
  have fby':=zad hy fbx
  simp (disch:=first|omega|assumption|rfl) only[go_sem,s7,s2,s5,p0y,Nat.add_zero,hk0,hk1,hxk,hy1,fby',q1y,↓hg9]
  refine op_eqA (a:=d1) (b:=d2) (c:=d3) (d1:=d4) (a':=b1) (b':=b2) (c':=b3) (d':=b4) rfl rfl rfl rfl (by kernel_rfl) (vr0) (vr0) ?_
  refine⟨.inr (Keep.refl _ _),?_⟩
  simp (disch:=first|omega|assumption|rfl) only[go_sem,↓hg9]
  refine hK _ _ ?_;clear hK hgd;clear K;try clear gd
  have hWy:=hW.trans hy
  have hAy:=(hEA.trans hx).trans hy
  repeat refine c_r ?_
  refine wc0 ?_ ?_
  ·intro _
   repeat (first|refine c_r ?_|refine rg0 ?_)
   refine rt0 Tryz.ntmps119 ?_
   exact⟨hWy,_,rfl⟩
  ·intro _
   repeat refine c_r ?_
   refine rg2 s7 hk1' ?_
   repeat refine c_r ?_
   exact⟨m - 1,by omega,rfl,k+1,by omega,vq0,(vq1 s1),(vq1 s2),(vq1 s5),hAy⟩
 intro hge
 clear hkm hge s7
 have q5A:=zaa hEA q53
 repeat refine c_r ?_
 by_cases h16:(s.places.length:Int)>16
 ·refine rg4 s5 q5A Nat.zero_add (decide_eq_true h16) ?_
  repeat refine c_r ?_
  refine wt trivial ?_
  repeat (first|refine c_r ?_|refine rg0 ?_)
  refine rt0 Tryz.ntmps119 ?_
  exact⟨hEwA,_,rfl⟩
 refine rg4 s5 q5A Nat.zero_add (decide_eq_false h16) ?_
 repeat refine c_r ?_
 refine wf trivial ?_
 repeat refine c_r ?_
 refine rg0 ?_
 repeat refine c_r ?_
 refine zam (fun m σ ds B=>ds=[]∧∃(k:Nat),k+m=s.places.length∧σ 8=vi k∧σ 5= .pointer (some ⟨b5,0,Option.none⟩)∧Ext w3 B) s.places.length ?_ ?_
 ·exact⟨rfl,0,by omega,vr0,(vq1 s5),hEA⟩
 clear s1 s2 s5 q5A hEwA hEA
 rintro m2 σ2 ds2 B ⟨rfl,k,hkm,s8,s5,hEB⟩
 have hEwB:=hE23.trans hEB
 have q5B:=zaa hEB q53
 repeat refine c_r ?_
 refine rg4 s8 s5 q5B Nat.zero_add ?_
 repeat refine c_r ?_
 refine wc0 ?_ ?_
 rotate_left
 ·intro _
  repeat (first|refine c_r ?_|refine rg0 ?_)
  refine rt0 Tryz.ntmps119 ?_
  exact⟨hEwB,_,rfl⟩
 intro hlt
 simp only[decide_eq_true_eq]at hlt
 have hk:k<s.places.length:=by omega
 have hk0:(0:Int)≤(k:Int):=by omega
 have hk1':(k:Int)+1=((k+1:Nat):Int):=by push_cast;rfl
 obtain⟨xp,xk,xk1,ov,rfl,hxk,hxk1,f0,ho,f1⟩:=hpl k hk
 obtain⟨fo,fp⟩:=fs3 _ (List.getElem_mem hk)
 have hz1:adr (some xk) 0=some xk:=zaA _
 have f0B:=zaa hEwB f0
 repeat refine c_r ?_
 refine rc (an9 s8 s5 q5B Nat.zero_add hk0 hlt hxk hz1 f0B) (zbH B ov _ (ho.ext hEwB) fo.lb9.1 fo.lb9.2) ?_
 rintro _ B1 ⟨rfl,hE4⟩
 refine re trivial ?_
 have hEB1:=hEB.trans hE4
 have hEwB1:=hE23.trans hEB1
 have q5B1:=zaa hEB1 q53
 have f1B1:=zaa hEwB1 f1
 repeat refine c_r ?_
 by_cases hck2:zaD s.places[k].o=0
 rotate_left
 ·refine rg1 (decide_eq_false hck2) ?_
  repeat refine c_r ?_
  refine wt Bool.not_false ?_
  repeat (first|refine c_r ?_|refine rg0 ?_)
  refine rt0 Tryz.ntmps119 ?_
  exact⟨hEwB1,_,rfl⟩
 refine rg1 (decide_eq_true hck2) ?_
 repeat refine c_r ?_
 refine wf Bool.not_true ?_
 repeat refine c_r ?_
 refine rc (an9 s8 s5 q5B1 Nat.zero_add hk0 hlt hxk hxk1 f1B1) (RPath_ok B1 (l:=s.places[k].path) (by omega)) ?_
 rintro _ B2 ⟨hE5,t,rfl⟩
 refine re trivial ?_
 have hEB2:=hEB1.trans hE5
 repeat refine c_r ?_
 cases t with
 |false=>
  refine wt Bool.not_false ?_
  repeat (first|refine c_r ?_|refine rg0 ?_)
  refine rt0 Tryz.ntmps119 ?_
  exact⟨hE23.trans hEB2,_,rfl⟩
 |true=>
 refine wf Bool.not_true ?_
 repeat refine c_r ?_
 refine rg0 ?_
 repeat refine c_r ?_
 refine zam (fun m σ ds C=>ds=[]∧∃(j:Nat),j+m=k∧σ 9=vi j∧σ 8=vi k∧σ 5= .pointer (some ⟨b5,0,Option.none⟩)∧Ext w3 C) k ?_ ?_
 ·exact⟨rfl,0,by omega,vr0,(vq1 s8),(vq1 s5),hEB2⟩
 clear s8 s5
 rintro m3 σ3 ds3 C ⟨rfl,j,hjm,s9,s8,s5,hEC⟩
 have hEwC:=hE23.trans hEC
 repeat refine c_r ?_
 refine rg2 s9 s8 ?_
 repeat refine c_r ?_
 refine wc0 ?_ ?_
 rotate_left
 ·intro _
  repeat refine c_r ?_
  refine rg2 s8 hk1' ?_
  repeat refine c_r ?_
  exact⟨m2 - 1,by omega,rfl,k+1,by omega,vq0,(vq1 s5),hEC⟩
 intro hlt2
 simp only[decide_eq_true_eq]at hlt2
 have hj:j<s.places.length:=by omega
 have hj0:(0:Int)≤(j:Int):=by omega
 have hj1:(j:Int)<(s.places.length:Int):=by omega
 have hj1':(j:Int)+1=((j+1:Nat):Int):=by push_cast;rfl
 obtain⟨xp',xj,_,ov',hpe,hxj,_,e0,ho',_⟩:=hpl j hj
 injection hpe with hpe
 subst hpe
 obtain⟨fo',_⟩:=fs3 _ (List.getElem_mem hj)
 have hz2:adr (some xj) 0=some xj:=zaA _
 repeat refine c_r ?_
 refine zaJ (fun _=>false) [(0,true),(1,true),(2,true),(3,true),(4,true),(5,true),(6,true),(7,true),(8,true),(9,true),(10,true),(11,true),(12,false)] NoS mixed (by kernel_rfl) ?_;intro gd K x hgd hx hxe hK;clear hxe
 have hW:=hEwC.trans hx
 have q5x:=zaa (hEC.trans hx) q53
 have f0x:=zaa hW f0
 have e0x:=zaa hW e0
 simp (disch:=first|omega|assumption|rfl) only[go_sem,s9,s8,s5,q5x,Nat.zero_add,hk0,hlt,hj0,hj1,hxk,hxj,hz1,hz2,f0x,e0x]
 refine Fn.mono (zg9 x ov' ov _ _ (ho'.ext hW) (ho.ext hW) fo'.m.LB fo.m.LB (by have:=fo'.len;omega) (by have:=fo.len;omega)) ?_
 rintro _ y ⟨rfl,hy⟩
 refine⟨.inr hy,?_⟩
 simp (disch:=first|omega|assumption|rfl) only[go_sem]
 refine hK _ _ ?_;clear hK hgd;clear K;try clear gd
 repeat refine c_r ?_
 refine wc0 ?_ ?_
 ·intro _
  repeat (first|refine c_r ?_|refine rg0 ?_)
  refine rt0 Tryz.ntmps119 ?_
  exact⟨hW.trans hy,_,rfl⟩
 ·intro _
  repeat refine c_r ?_
  refine rg2 s9 hj1' ?_
  repeat refine c_r ?_
  exact⟨m3 - 1,by omega,rfl,j+1,by omega,vq0,(vq1 s8),(vq1 s5),(hEC.trans hx).trans hy⟩
structure zl6(c:zhd):Prop where
 ne:c.roots≠ []
 inn:∀r∈c.roots,0≤r∧r<(c.servers.length:Int)
theorem zim(w:World){cs:List Value}{c:zhd}(hc:ConfAt w cs c)(hf:FewC c):
  Fn Tryz.prog 67 #[.agg cs.toArray] w (fun v w'=>Ext w w'∧∃a e,v= .tuple #[vi a,vi e]∧(e=0→zl6 c)):=by
 have hc0:=hc
 obtain⟨sv,rv,rfl,hs,hr⟩:=hc.ex
 obtain⟨aS,cS,rfl,hat⟩:=zi0 hs
 obtain⟨ar,cr,rfl,_,hgr⟩:=hr
 simp only[List.length_map,List.getElem_map]at hgr hc0 ⊢
 have hsl:=hf.sl
 have hrl:=hf.rl
 refine enter Tryz.func67 Tryz.ntmps67 rfl rfl ?_
 repeat refine c_r ?_
 refine rg0 ?_
 repeat refine c_r ?_
 refine zaB ?_
 intro w1 hE1 hs1 hA
 have p0:zae w1 (some ⟨w.heap.size,0,Option.none⟩)=some (.slice aS c.servers.length cS):=zab hA rfl
 have p1:zae w1 (some ⟨w.heap.size,1,Option.none⟩)=some (.slice ar c.roots.length cr):=zab hA rfl
 have p2:zae w1 (some ⟨w.heap.size,2,Option.none⟩)=some (vi c.rw):=zab hA rfl
 have p3:zae w1 (some ⟨w.heap.size,3,Option.none⟩)=some (vi c.rf):=zab hA rfl
 have dC:zas w1 (some ⟨w.heap.size,0,Option.none⟩) 4=some [.slice aS c.servers.length cS,.slice ar c.roots.length cr,vi c.rw,vi c.rf]:=zah hA rfl
 repeat refine c_r ?_
 by_cases h1:(c.servers.length:Int)=0
 ·refine rgg [(4,14)] (an3 p0 Nat.add_zero (decide_eq_true h1)) ?_
  repeat refine c_r ?_
  refine wt trivial ?_
  repeat (first|refine c_r ?_|refine rg0 ?_)
  refine zaE (by simp) Tryz.ntmps67 rfl (zat (vr0) (zat (vr0) zaz)) ?_
  exact⟨hE1,_,_,rfl,fun h=>by cases h⟩
 by_cases h2:(c.roots.length:Int)=0
 ·refine rgg [(4,14)] (an6 p0 Nat.add_zero (decide_eq_false h1) p1 Nat.zero_add (decide_eq_true h2)) ?_
  repeat refine c_r ?_
  refine wt trivial ?_
  repeat (first|refine c_r ?_|refine rg0 ?_)
  refine zaE (by simp) Tryz.ntmps67 rfl (zat (vr0) (zat (vr0) zaz)) ?_
  exact⟨hE1,_,_,rfl,fun h=>by cases h⟩
 refine rgg [(4,14)] (an6 p0 Nat.add_zero (decide_eq_false h1) p1 Nat.zero_add (decide_eq_false h2)) ?_
 repeat refine c_r ?_
 refine wf trivial ?_
 repeat refine c_r ?_
 refine rg2 p0 Nat.add_zero ?_
 repeat refine c_r ?_
 refine wc0 ?_ ?_
 ·intro _
  repeat (first|refine c_r ?_|refine rg0 ?_)
  refine zaE (by simp) Tryz.ntmps67 rfl (zat (vr0) (zat (vr0) zaz)) ?_
  exact⟨hE1,_,_,rfl,fun h=>by cases h⟩
 intro _
 repeat refine c_r ?_
 refine zay (Q:=fun e σ' ds' v'=>e= .normal∧ds'=[]∧v'=w1∧σ' 1= .pointer (some ⟨w.heap.size,0,Option.none⟩)∧∃t,σ' 25= .bool t) ?_ ?_
 ·by_cases e0:c.rw<0
  ·refine rgg [(3,29),(8,34),(13,39)] (an3 p2 Nat.zero_add (decide_eq_true e0)) ?_
   exact⟨rfl,rfl,rfl,vq0,_,vr0⟩
  by_cases e1:c.rw>8
  ·refine rgg [(3,29),(8,34),(13,39)] (an4 p2 Nat.zero_add (decide_eq_false e0) (decide_eq_true e1)) ?_
   exact⟨rfl,rfl,rfl,vq0,_,vr0⟩
  by_cases e2:c.rf<0
  ·refine rgg [(3,29),(8,34),(13,39)] (an6 p2 Nat.zero_add (decide_eq_false e0) (decide_eq_false e1) p3 (decide_eq_true e2)) ?_
   exact⟨rfl,rfl,rfl,vq0,_,vr0⟩
  refine rgg [(3,29),(8,34),(13,39)] (an6 p2 Nat.zero_add (decide_eq_false e0) (decide_eq_false e1) p3 (decide_eq_false e2)) ?_
  exact⟨rfl,rfl,rfl,vq0,_,vr0⟩
 rintro _ σ1 _ w2 ⟨rfl,rfl,rfl,s1,t,s25⟩
 repeat refine c_r ?_
 cases t with
 |true=>
  refine wt s25 ?_
  repeat (first|refine c_r ?_|refine rg0 ?_)
  refine zaE (by simp) Tryz.ntmps67 rfl (zat (vr0) (zat (vr0) zaz)) ?_
  exact⟨hE1,_,_,rfl,fun h=>by cases h⟩
 |false=>
 refine wf s25 ?_
 clear s25
 repeat refine c_r ?_
 refine rg0 ?_
 repeat refine c_r ?_
 refine zam (fun m σ ds A=>ds=[]∧∃(i:Nat),i+m=c.roots.length∧σ 4=vi i∧σ 1= .pointer (some ⟨w.heap.size,0,Option.none⟩)∧Ext w2 A∧∀j (h:j<c.roots.length),j<i→0≤c.roots[j]∧c.roots[j]<(c.servers.length:Int)) c.roots.length ?_ ?_
 ·exact⟨rfl,0,by omega,vr0,(vq1 s1),Keep.refl _ _,fun j h h2=>absurd h2 (by omega)⟩
 clear s1
 rintro m σ ds A ⟨rfl,i,him,s4,s1,hEA,ht⟩
 have p1A:=zaa hEA p1
 repeat refine c_r ?_
 refine rg4 s4 s1 p1A Nat.zero_add ?_
 repeat refine c_r ?_
 refine wc0 ?_ ?_
 ·intro hlt
  simp only[decide_eq_true_eq]at hlt
  have hi:i<c.roots.length:=by omega
  have hi0:(0:Int)≤(i:Int):=by omega
  have hi1':(i:Int)+1=((i+1:Nat):Int):=by push_cast;rfl
  have g:=hgr i hi
  obtain⟨x1,rfl⟩:=Option.isSome_iff_exists.1 (zag g)
  repeat refine c_r ?_
  refine zaJ (fun _=>false) [(0,true),(1,true),(2,true),(3,true),(4,true),(5,true),(6,true),(7,true),(8,true),(9,true),(10,true),(11,true),(12,true),(13,true),(14,true),(15,true),(16,true)] NoS mixed (by kernel_rfl) ?_;intro gd K x hgd hx hxe hK;clear hxe
  have hg6:∀n σ b,zav gd n σ (some (6,b))=zal (ev n σ (.tmp 57)) b:=(fun n σ b=>by rw[zac,show gd 6=some 57 from(by rw[hgd];rfl)];rfl)
  have p1x:=zaa hx p1A
  have p0x:=zaa (hEA.trans hx) p0
  have gx:=zaa (hE1.trans (hEA.trans hx)) g
  by_cases hneg:c.roots[i]<0
  ·simp (disch:=first|omega|assumption|rfl) only[go_sem,s4,s1,p1x,Nat.zero_add,Nat.mul_one,hi0,hlt,gx,decide_eq_true hneg,zcp,↓hg6]
   refine hK _ _ ?_;clear hK hgd;clear K;try clear gd
   repeat refine c_r ?_
   refine wt trivial ?_
   repeat (first|refine c_r ?_|refine rg0 ?_)
   refine zaE (by simp) Tryz.ntmps67 rfl (zat (vr0) (zat (vr0) zaz)) ?_
   exact⟨hE1.trans (hEA.trans hx),_,_,rfl,fun h=>by cases h⟩
  by_cases hbig:c.roots[i]≥(c.servers.length:Int)
  ·simp (disch:=first|omega|assumption|rfl) only[go_sem,s4,s1,p1x,p0x,Nat.zero_add,Nat.add_zero,Nat.mul_one,hi0,hlt,gx,decide_eq_false hneg,decide_eq_true hbig,zcp,↓hg6]
   refine hK _ _ ?_;clear hK hgd;clear K;try clear gd
   repeat refine c_r ?_
   refine wt trivial ?_
   repeat (first|refine c_r ?_|refine rg0 ?_)
   refine zaE (by simp) Tryz.ntmps67 rfl (zat (vr0) (zat (vr0) zaz)) ?_
   exact⟨hE1.trans (hEA.trans hx),_,_,rfl,fun h=>by cases h⟩
  simp (disch:=first|omega|assumption|rfl) only[go_sem,s4,s1,p1x,p0x,Nat.zero_add,Nat.add_zero,Nat.mul_one,hi0,hlt,gx,decide_eq_false hneg,decide_eq_false hbig,zcp,↓hg6]
  refine hK _ _ ?_;clear hK hgd;clear K;try clear gd
  repeat refine c_r ?_
  refine wf trivial ?_
  repeat refine c_r ?_
  refine rg2 s4 hi1' ?_
  repeat refine c_r ?_
  refine⟨m - 1,by omega,rfl,i+1,by omega,vq0,(vq1 s1),hEA.trans hx,fun j hj hji=>?_⟩
  by_cases hj2:j=i
  ·subst hj2;omega
  ·exact ht j hj (by omega)
 intro hge
 simp only[decide_eq_false_iff_not]at hge
 have hro:zl6 c:=⟨fun h=>by rw[h]at h2;exact h2 rfl,fun r hr=>by
  obtain⟨j,hj,rfl⟩:=List.mem_iff_getElem.1 hr
  exact ht j hj (by omega)⟩
 clear him hge s4 ht p1A
 repeat refine c_r ?_
 refine rg0 ?_
 repeat refine c_r ?_
 refine zam (fun m σ ds B=>ds=[]∧∃(i:Nat),i+m=c.roots.length∧σ 5=vi i∧σ 1= .pointer (some ⟨w.heap.size,0,Option.none⟩)∧Ext w2 B) c.roots.length ?_ ?_
 ·exact⟨rfl,0,by omega,vr0,(vq1 s1),hEA⟩
 clear s1 hEA
 rintro m2 σ2 ds2 B ⟨rfl,i,him,s5,s1,hEB⟩
 have p1B:=zaa hEB p1
 repeat refine c_r ?_
 refine rg4 s5 s1 p1B Nat.zero_add ?_
 repeat refine c_r ?_
 refine wc0 ?_ ?_
 ·intro hlt
  simp only[decide_eq_true_eq]at hlt
  have hi:i<c.roots.length:=by omega
  have hi0:(0:Int)≤(i:Int):=by omega
  have hi1':(i:Int)+1=((i+1:Nat):Int):=by push_cast;rfl
  have g:=hgr i hi
  obtain⟨x1,rfl⟩:=Option.isSome_iff_exists.1 (zag g)
  repeat refine c_r ?_
  refine rg0 ?_
  repeat refine c_r ?_
  refine zam (fun m σ ds C=>ds=[]∧∃(j:Nat),j+m=i∧σ 6=vi j∧σ 5=vi i∧σ 1= .pointer (some ⟨w.heap.size,0,Option.none⟩)∧Ext w2 C) i ?_ ?_
  ·exact⟨rfl,0,by omega,vr0,(vq1 s5),(vq1 s1),hEB⟩
  clear s5 s1
  rintro m3 σ3 ds3 C ⟨rfl,j,hjm,s6,s5,s1,hEC⟩
  have p1C:=zaa hEC p1
  repeat refine c_r ?_
  refine rg2 s6 s5 ?_
  repeat refine c_r ?_
  refine wc0 ?_ ?_
  ·intro hlt2
   simp only[decide_eq_true_eq]at hlt2
   have hj:j<c.roots.length:=by omega
   have hj0:(0:Int)≤(j:Int):=by omega
   have hj1:(j:Int)<(c.roots.length:Int):=by omega
   have hj1':(j:Int)+1=((j+1:Nat):Int):=by push_cast;rfl
   have gj:=hgr j hj
   repeat refine c_r ?_
   refine zaJ (fun _=>false) [(0,true),(1,true),(2,true),(3,true),(4,true),(5,true),(6,true),(7,true),(8,true),(9,true),(10,true)] NoS mixed (by kernel_rfl) ?_;intro gd K x hgd hx hxe hK;clear hxe
   have p1x:=zaa hx p1C
   have gx:=zaa (hE1.trans (hEC.trans hx)) g
   have gjx:=zaa (hE1.trans (hEC.trans hx)) gj
   simp (disch:=first|omega|assumption|rfl) only[go_sem,s6,s5,s1,p1x,Nat.zero_add,Nat.mul_one,hi0,hlt,hj0,hj1,gx,gjx]
   refine hK _ _ ?_;clear hK hgd;clear K;try clear gd
   repeat refine c_r ?_
   refine wc0 ?_ ?_
   ·intro _
    repeat (first|refine c_r ?_|refine rg0 ?_)
    refine zaE (by simp) Tryz.ntmps67 rfl (zat (vr0) (zat (vr0) zaz)) ?_
    exact⟨hE1.trans (hEC.trans hx),_,_,rfl,fun h=>by cases h⟩
   ·intro _
    repeat refine c_r ?_
    refine rg2 s6 hj1' ?_
    repeat refine c_r ?_
    exact⟨m3 - 1,by omega,rfl,j+1,by omega,vq0,(vq1 s5),(vq1 s1),hEC.trans hx⟩
  ·intro _
   repeat refine c_r ?_
   refine rg2 s5 hi1' ?_
   repeat refine c_r ?_
   exact⟨m2 - 1,by omega,rfl,i+1,by omega,vq0,(vq1 s1),hEC⟩
 intro hge
 clear him hge s5 p1B
 repeat refine c_r ?_
 refine rg0 ?_
 repeat refine c_r ?_
 refine zam (fun m σ ds B=>ds=[]∧∃(i:Nat),i+m=c.servers.length∧σ 7=vi i∧σ 1= .pointer (some ⟨w.heap.size,0,Option.none⟩)∧Ext w2 B) c.servers.length ?_ ?_
 ·exact⟨rfl,0,by omega,vr0,(vq1 s1),hEB⟩
 clear s1 hEB
 rintro m3 σ3 ds3 C ⟨rfl,i,him,s7,s1,hEC⟩
 have p0C:=zaa hEC p0
 have dCC:=zad hEC dC
 repeat refine c_r ?_
 refine rg4 s7 s1 p0C Nat.add_zero ?_
 repeat refine c_r ?_
 refine wc0 ?_ ?_
 ·intro hlt
  simp only[decide_eq_true_eq]at hlt
  have hi:i<c.servers.length:=by omega
  have hi1':(i:Int)+1=((i+1:Nat):Int):=by push_cast;rfl
  repeat refine c_r ?_
  refine rc (an3 s7 s1 dCC) (zl4 C (hc0.ext (hE1.trans hEC)) hf hi) ?_
  rintro _ C1 ⟨hE2,e,rfl⟩
  refine re trivial ?_
  repeat refine c_r ?_
  by_cases he:e=0
  ·refine rg1 (decide_eq_true he) ?_
   repeat refine c_r ?_
   refine wf Bool.not_true ?_
   repeat refine c_r ?_
   refine rg2 s7 hi1' ?_
   repeat refine c_r ?_
   exact⟨m3 - 1,by omega,rfl,i+1,by omega,vq0,(vq1 s1),hEC.trans hE2⟩
  ·refine rg1 (decide_eq_false he) ?_
   repeat refine c_r ?_
   refine wt Bool.not_false ?_
   repeat refine c_r ?_
   refine rg1 s7 ?_
   repeat refine c_r ?_
   refine zaE (by simp) Tryz.ntmps67 rfl (zat (vr0) (zat (vr0) zaz)) ?_
   exact⟨hE1.trans (hEC.trans hE2),_,_,rfl,fun h=>absurd h he⟩
 ·intro _
  repeat (first|refine c_r ?_|refine rg0 ?_)
  refine zaE (by simp) Tryz.ntmps67 rfl (zat (vr0) (zat (vr0) zaz)) ?_
  exact⟨hE1.trans hEC,_,_,rfl,fun _=>hro⟩
theorem zcE(w:World):zeQ 2 (PlaceC w):=by
 refine⟨fun h=>?_,fun h=>?_⟩
 ·obtain⟨ov,rfl,_⟩:=h.ex;rfl
 ·obtain⟨ov,rfl,h1⟩:=h.ex
  intro q hq
  simp at hq
  rcases hq with rfl|rfl
  ·exact h1.isOne
  ·rfl
def gxC(cs:List Value)(x:SrvL×(Value×List Value)):Prop:=cs=x.2.2∧cs.length=6∧∀q∈cs,one q=true
theorem zeX:zeQ 6 gxC:=⟨fun h=>h.2.1,fun h=>h.2.2⟩
structure SrvX(w0 A:World)(pv:Value)(cs:List Value)(s:SrvL):Prop where
 ex:∃nv a b c d,cs=[nv,zaf a,zaf b,zaf c,zaf d,pv]∧s.addr=[a,b,c,d]∧Row w0 nv (s.host.map vs)∧Rows 2 (PlaceC w0) A pv s.places
theorem SrvX.keep{w0 A A':World}{pv:Value}{cs:List Value}{s:SrvL}(h:SrvX w0 A pv cs s){S:Nat→Prop}(hk:Keep S A A')(hS:∀a n c,pv= .slice (some a) n c→a.block<A.heap.size∧¬S a.block):SrvX w0 A' pv cs s:=by
 obtain⟨nv,a,b,c,d,e,ha,h1,h2⟩:=h.ex
 exact⟨nv,a,b,c,d,e,ha,h1,h2.blocks fun a n c hv=>hk.block _ (hS a n c hv).1 (hS a n c hv).2⟩
structure GS(w0:World)(e:TypeId)(B:Nat)(A:World)(ov:Value)(G:List (SrvL×(Value×List Value))):Prop where
 own:Owns 6 gxC B A e ov G
 row:∀x∈G,SrvX w0 A x.2.1 x.2.2 x.1∧BlkB B A x.2.1∧∀a n c,x.2.1= .slice (some a) n c→some a.block≠ov.ownBlock
theorem GS.keep{w0 A A':World}{e:TypeId}{B:Nat}{ov:Value}{G:List (SrvL×(Value×List Value))}(h:GS w0 e B A ov G){S:Nat→Prop}(hk:Keep S A A')(hS:∀b,B≤b→b<A.heap.size→¬S b):GS w0 e B A' ov G:=
 ⟨h.own.keep hk (fun b hb=>hS b (h.own.ge hb).1 (h.own.ge hb).2),fun x hx=>by
  obtain⟨h1,h2,h3⟩:=h.row x hx
  exact⟨h1.keep hk (fun a n c hv=>⟨(h2 a n c hv).2,hS _ (h2 a n c hv).1 (h2 a n c hv).2⟩),h2.ext hk.size,h3⟩⟩
theorem GS.ext{w0 A A':World}{e:TypeId}{B:Nat}{ov:Value}{G:List (SrvL×(Value×List Value))}(h:GS w0 e B A ov G)(hE:Ext A A'):GS w0 e B A' ov G:=h.keep hE (fun _ _ _ h=>h)
theorem GS.app{w0 A A1 A2:World}{e:TypeId}{B:Nat}{ov ov':Value}{G:List (SrvL×(Value×List Value))}{x:SrvL×(Value×List Value)}(h:GS w0 e B A ov G)(hE:Ext A A1)(hB:B≤A.heap.size)
  (hx:SrvX w0 A1 x.2.1 x.2.2 x.1) (hxb:BlkB A.heap.size A1 x.2.1) (ho:Owns 6 gxC B A2 e ov' (G++ [x])) (hk:Keep (fun b=>some b=ov.ownBlock) A1 A2) (hb:∀b,some b=ov'.ownBlock→some b=ov.ownBlock∨A1.heap.size≤b):GS w0 e B A2 ov' (G++ [x]):=by
 refine⟨ho,fun y hy=>?_⟩
 have h1:=h.ext hE
 have hge:∀b,some b=ov.ownBlock→b<A.heap.size:=fun b hb=>(h.own.ge hb).2
 have hy2:SrvX w0 A1 y.2.1 y.2.2 y.1∧BlkB B A1 y.2.1∧∀a n c,y.2.1= .slice (some a) n c→some a.block≠ov.ownBlock:=by
  rcases List.mem_append.1 hy with hy|hy
  ·exact h1.row y hy
  ·rw[List.mem_singleton.1 hy]
   exact⟨hx,hxb.mono hB,fun a n c hv hbb=>by have:=hge _ hbb;have:=(hxb a n c hv).1;omega⟩
 obtain⟨g1,g2,g3⟩:=hy2
 refine⟨g1.keep hk (fun a n c hv=>⟨(g2 a n c hv).2,g3 a n c hv⟩),g2.ext hk.size,fun a n c hv hbb=>?_⟩
 rcases hb _ hbb with e|e
 ·exact g3 a n c hv e
 ·have:=(g2 a n c hv).2;omega
theorem GS.rows{w0 A:World}{e:TypeId}{B:Nat}{ov:Value}{G:List (SrvL×(Value×List Value))}(h:GS w0 e B A ov G)(hE:Ext w0 A):Rows 6 (SrvC A) A ov (G.map Prod.fst):=by
 obtain⟨L,h1,h2,h3⟩:=h.own.rows
 refine⟨L,h1,by rw[h2,List.length_map],fun i hi hi'=>?_⟩
 have hi2:i<G.length:=by omega
 obtain⟨e1,_⟩:=h3 i hi hi2
 obtain⟨g1,_⟩:=h.row _ (List.getElem_mem hi2)
 obtain⟨nv,a,b,c,d,e2,ha,g2,g3⟩:=g1.ex
 rw[e1,e2,List.getElem_map]
 exact⟨nv,a,b,c,d,_,rfl,ha,g2.ext hE,g3.to fun _ _ h=>h.ext hE⟩
structure IP(w0:World)(es ep:TypeId)(b5:Nat)(nv:Value)(a b c d:UInt8)(A0 v:World)(pv:Value)(ps:List zfS):Prop where
 h:v.heap[b5]? =some (.cells #[nv,zaf a,zaf b,zaf c,zaf d,pv] es (0,0))
 own:Owns 2 (PlaceC w0) (b5+1) v ep pv ps
 e:Ext A0 v
 lo:A0.heap.size≤b5
theorem IP.app{w0 A0 v v1 v2 v3:World}{es ep:TypeId}{b5:Nat}{nv pv pv':Value}{a b c d:UInt8}{ps:List zfS}{p:zfS}(h:IP w0 es ep b5 nv a b c d A0 v pv ps)(hE:Ext v v1)
  (ho:Owns 2 (PlaceC w0) (b5+1) v2 ep pv' (ps++ [p])) (hk:Keep (fun b=>some b=pv.ownBlock) v1 v2) (h3:v3.heap[b5]? =some (.cells #[nv,zaf a,zaf b,zaf c,zaf d,pv'] es (0,0))) (hk3:Keep (fun b=>b=b5) v2 v3):IP w0 es ep b5 nv a b c d A0 v3 pv' (ps++ [p]):=by
 have lo:=h.lo
 have e2:Ext A0 v2:=Keep.to_ext (h.e.trans hE) rfl (fun b hb=>by have:=(h.own.ge hb).1;omega) hk
 exact⟨h3,ho.keep hk3 (fun b hb hb2=>by have:=(ho.ge hb).1;omega),Keep.to_ext e2 rfl (fun b hb=>by omega) hk3,lo⟩
theorem Of15_ok(w:World){cs:List Value}{c:zhd}(hc:ConfAt w cs c)(hf:FewC c):
  Fn Tryz.prog 68 #[.agg cs.toArray] w (fun v w'=>Ext w w'∧∃cs',v= .agg cs'.toArray∧ConfAt w' cs' c):=by
 obtain⟨sv,rv,rfl,hs,hr⟩:=hc.ex
 obtain⟨aS,cS,rfl,hat⟩:=zi0 hs
 have hr0:=hr
 have r1:=hr.isOne
 obtain⟨ar,cr,hrv,_,hgr⟩:=hr
 have hsl:=hf.sl
 refine enter Tryz.func68 Tryz.ntmps68 rfl rfl ?_
 repeat refine c_r ?_
 rw[hrv]
 refine rg0 ?_
 rw[←hrv]
 repeat refine c_r ?_
 rw[zai]
 refine zaO ?_
 intro w1 hE1 hs1 hA hC
 have p0:zae w1 (some ⟨w.heap.size,0,Option.none⟩)=some (.slice aS c.servers.length cS):=zab hA rfl
 have p1:zae w1 (some ⟨w.heap.size,1,Option.none⟩)=some rv:=zab hA rfl
 have p2:zae w1 (some ⟨w.heap.size,2,Option.none⟩)=some (vi c.rw):=zab hA rfl
 have p3:zae w1 (some ⟨w.heap.size,3,Option.none⟩)=some (vi c.rf):=zab hA rfl
 repeat refine c_r ?_
 refine rq ?_;intro gd K hgd hK
 try simp (disch:=first|omega|assumption|rfl) only[go_sem,p1,p2,p3,Nat.zero_add]
 refine⟨by kernel_rfl,?_⟩
 rw[hrv,show bdV Tryz.prog 137 [(1,.slice ar (c.roots.map vi).length cr),(2,vi c.rw),(3,vi c.rf)]=some (.agg #[.slice Option.none 0 0,.slice ar (c.roots.map vi).length cr,vi c.rw,vi c.rf]) from by kernel_rfl,←hrv]
 try simp only[go_sem]
 refine za2 (P:=Tryz.prog) (l:=[.slice Option.none 0 0,rv,vi c.rw,vi c.rf]) rfl (fun v hv=>by simp at hv;rcases hv with rfl|rfl|rfl|rfl<;>first|exact r1|rfl) rfl rfl ?_
 intro w2 hE2 hs2 hD
 try simp only[go_sem]
 refine hK _ _ ?_;clear hK hgd;clear K;try clear gd
 obtain⟨c3,hc3⟩:∃b,w1.heap.size=b:=⟨_,rfl⟩
 rw[hc3]at hD hs2 ⊢
 have hE12:=hE1.trans hE2
 have p0w:=zaa hE2 p0
 repeat refine c_r ?_
 refine rg0 ?_
 repeat refine c_r ?_
 refine zam (fun m σ ds A=>ds=[]∧∃(i:Nat) (ov:Value) (G:List (SrvL×(Value×List Value))),i+m=c.servers.length∧σ 4=vi i∧σ 1= .pointer (some ⟨w.heap.size,0,Option.none⟩)∧σ 2= .pointer (some ⟨w.heap.size+1,0,Option.none⟩)∧σ 3= .pointer (some ⟨c3,0,Option.none⟩)∧Ext w1 A∧c3+1≤A.heap.size∧
  A.heap[c3]? =some (.cells #[ov,rv,vi c.rw,vi c.rf] 137 (0,0))∧GS w 217 (c3+1) A ov G∧G.map Prod.fst=c.servers.take i) c.servers.length ?_ ?_
 ·exact⟨rfl,0,.slice Option.none 0 0,[],by omega,vr0,vq0,vq0,vq0,hE2,by omega,hD,⟨Owns.nil _ _ _ _ _,fun x h=>by cases h⟩,rfl⟩
 rintro m σ ds A ⟨rfl,i,ov,G,him,s4,s1,s2,s3,hEA,hAs,hB3,hGS,hGf⟩
 have p0A:=zaa hEA p0
 repeat refine c_r ?_
 refine rg4 s4 s1 p0A Nat.add_zero ?_
 repeat refine c_r ?_
 refine wc0 ?_ ?_
 ·intro hlt
  simp only[decide_eq_true_eq]at hlt
  have hi:i<c.servers.length:=by omega
  have hi0:(0:Int)≤(i:Int):=by omega
  have hi1':(i:Int)+1=((i+1:Nat):Int):=by push_cast;rfl
  obtain⟨xa,xi,x5,nv,ap,cp,rfl,hxi,hx5,g0,hn,g5,⟨b1,b2,b3,b4,hadr,hcs⟩,hpr,hpl⟩:=hat i hi
  obtain⟨s,hse⟩:∃s,c.servers[i]=s:=⟨_,rfl⟩
  obtain⟨fs1,fs2,fs3⟩:=hf.s s (hse▸List.getElem_mem hi)
  rw[hse]at hn g5 hadr hcs hpr
  simp only[hse]at hpl
  have n1:=hn.isOne
  have hz0:adr (some xi) 0=some xi:=zaA _
  obtain⟨y1,hy1⟩:∃y,adr (some xi) 1=some y:=⟨_,rfl⟩
  have gby:zas w (some y1) 4=some [zaf b1,zaf b2,zaf b3,zaf b4]:=by
   have h5:=za8 (m:=1) (k:=5) hcs
   rw[hy1]at h5
   exact zcw (m:=4) (k:=1) h5
  obtain⟨an,cn,hnv,_⟩:=id hn
  repeat refine c_r ?_
  refine zaJ (fun i=>i==14) [(0,true),(1,true),(2,true),(3,true),(4,true),(5,true),(6,true),(7,true),(8,true),(9,true),(10,true),(11,true),(12,true),(13,false),(14,false)] NoS mixed (by kernel_rfl) ?_;intro gd K x hgd hx hxe hK;clear hxe
  have hwx:=hE1.trans (hEA.trans hx)
  have p0x:=zaa hx p0A
  have g0x:=zaa hwx g0
  have gbx:=zad hwx gby
  simp (disch:=first|omega|assumption|rfl) only[go_sem,s4,s1,p0x,Nat.add_zero,hi0,hlt,hxi,hz0,hy1,g0x,gbx]
  refine⟨by kernel_rfl,?_⟩
  rw[hnv,show bdV Tryz.prog 217 [(0,.slice an (s.host.map vs).length cn),(1,.agg #[zaf b1,zaf b2,zaf b3,zaf b4])]=some (.agg #[.slice an (s.host.map vs).length cn,zaf b1,zaf b2,zaf b3,zaf b4,.slice Option.none 0 0]) from by kernel_rfl,←hnv]
  simp (disch:=first|omega|assumption|rfl) only[go_sem]
  refine⟨.inr (Ext.alloc x _),?_⟩
  refine za2 (P:=Tryz.prog) (l:=[nv,zaf b1,zaf b2,zaf b3,zaf b4,.slice Option.none 0 0]) rfl (fun v hv=>by simp at hv;rcases hv with rfl|rfl|rfl|rfl|rfl|rfl<;>first|exact n1|rfl) rfl rfl ?_
  intro A1 hE3 hs3 hB5
  refine⟨.inl rfl,?_⟩
  simp (disch:=first|omega|assumption|rfl) only[go_sem]
  refine hK _ _ ?_;clear hK hgd;clear K;try clear gd
  have hx3:=hx.trans hE3
  obtain⟨b5,hb5⟩:∃b,x.heap.size=b:=⟨_,rfl⟩
  have hsx:=hx.size
  rw[hb5]at hB5 hs3 hsx ⊢
  have hIP:IP w 217 219 b5 nv b1 b2 b3 b4 A A1 (.slice Option.none 0 0) []:=⟨hB5,Owns.nil _ _ _ _ _,hx3,hsx⟩
  clear p0x g0x gbx hx hx3 hwx hE3 hB5
  repeat refine c_r ?_
  refine rg0 ?_
  repeat refine c_r ?_
  refine zam (fun m σ ds v=>ds=[]∧∃(k:Nat) (pv:Value),k+m=s.places.length∧σ 6=vi k∧σ 4=vi i∧σ 1= .pointer (some ⟨w.heap.size,0,Option.none⟩)∧σ 2= .pointer (some ⟨w.heap.size+1,0,Option.none⟩)∧σ 3= .pointer (some ⟨c3,0,Option.none⟩)∧σ 5= .pointer (some ⟨b5,0,Option.none⟩)∧
   IP w 217 219 b5 nv b1 b2 b3 b4 A v pv (s.places.take k)∧b5+1≤v.heap.size) s.places.length ?_ ?_
  ·exact⟨rfl,0,_,by omega,vr0,(vq1 s4),(vq1 s1),(vq1 s2),(vq1 s3),vq0,hIP,by omega⟩
  clear s4 s1 s2 s3 hIP
  rintro m2 σ2 ds2 v ⟨rfl,k,pv,hkm,s6,s4,s1,s2,s3,s5,hIP,hvs⟩
  have hEv:=hEA.trans hIP.e
  have hwv:=hE1.trans hEv
  have p0v:=zaa hEv p0
  have g5v:=zaa hwv g5
  repeat refine c_r ?_
  refine rg9 s6 s4 s1 (an3 p0v Nat.add_zero g5v) hi0 hlt hxi hx5 trivial ?_
  repeat refine c_r ?_
  refine wc0 ?_ ?_
  ·intro hlt2
   simp only[decide_eq_true_eq]at hlt2
   have hk:k<s.places.length:=by omega
   have hk0:(0:Int)≤(k:Int):=by omega
   have hk1':(k:Int)+1=((k+1:Nat):Int):=by push_cast;rfl
   obtain⟨xp,xk,xk1,ow,rfl,hxk,hxk1,f0,ho,f1⟩:=hpl k hk
   have hz1:adr (some xk) 0=some xk:=zaA _
   obtain⟨ao,co,how,_⟩:=id ho
   have q5:zae v (some ⟨b5,5,Option.none⟩)=some pv:=zab hIP.h rfl
   have lo:=hIP.lo
   repeat refine c_r ?_
   refine zaJ (fun i=>i==26) [(0,true),(1,true),(2,true),(3,true),(4,true),(5,true),(6,true),(7,true),(8,true),(9,true),(10,true),(11,true),(12,true),(13,true),(14,true),(15,true),(16,true),(17,true),(18,true),(19,true),(20,true),(21,true),(22,true),(23,false),(24,false),(25,true),(26,false)] (zev (b5+1)) mixed (by kernel_rfl) ?_;intro gd K x hgd hx hxe hK;have hx0:=zh2 hxe;clear hxe
   have hwx:=hwv.trans hx0
   have p0x:=zaa hx0 p0v
   have g5x:=zaa hwx g5
   have f0x:=zaa hwx f0
   have f1x:=zaa hwx f1
   have q5x:=zaa hx0 q5
   simp (disch:=first|omega|assumption|rfl) only[go_sem,s6,s4,s1,s5,p0x,Nat.add_zero,Nat.zero_add,hi0,hlt,hk0,hlt2,hxi,hx5,hxk,hz1,hxk1,g5x,f0x,f1x,q5x]
   have l5:x5.block<b5+1:=by have:=zdL (show w.cell? x5=some _ from g5);have:=hwv.size;have:=hE1.size;have:=hEA.size;omega
   have lk:xk.block<b5+1:=by have:=zdL (show w.cell? xk=some _ from f0);have:=hE1.size;have:=hEA.size;omega
   have lk1:xk1.block<b5+1:=by have:=zdL (show w.cell? xk1=some _ from f1);have:=hE1.size;have:=hEA.size;omega
   have lw:w.heap.size<b5+1:=by have:=hE1.size;have:=hEA.size;omega
   refine⟨zd2 (by omega),zd2 lw,zhH l5,zhH lk,zd2 lw,zhH l5,zhH lk1,by kernel_rfl,?_⟩
   rw[how,show bdV Tryz.prog 219 [(0,.slice ao (s.places[k].o.map vs).length co),(1,vs s.places[k].path)]=some (.agg #[.slice ao (s.places[k].o.map vs).length co,vs s.places[k].path]) from by kernel_rfl,←how]
   simp (disch:=first|omega|assumption|rfl) only[go_sem]
   refine zbg (zcE w) (l:=[ow,vs s.places[k].path]) (a:=s.places[k]) (by rfl) (by rfl) (by rfl) (by rfl) ⟨ow,rfl,ho⟩ (by decide) ?_
   intro v1 hE4 hs4' ho4
   refine⟨.inr hE4.keep,?_⟩
   simp (disch:=first|omega|assumption|rfl) only[go_sem]
   have hx04:=hx0.trans hE4
   have hsz4:=hx04.size
   refine zaV (zcE w) (hIP.own.ext hx04) ho4.rows (by rfl) (by rfl) (by rfl) (by rfl) (by rfl) (by rfl) (by decide) (vr0) (vr0) (by simp;omega) (by decide) (by omega) ?_
   intro pv' v2 ho5 hE5 hk5 hb5'
   refine⟨.inr (hk5.mono fun b _ hb=>(hIP.own.ge hb).1),?_⟩
   obtain⟨ap',cp',hpv',_⟩:=ho5.rows.open
   simp (disch:=first|omega|assumption|rfl) only[go_sem,s5,Nat.zero_add]
   refine zaY (P:=Tryz.prog) (t:=215) (j:=5) (u:=pv') (l:=[nv,zaf b1,zaf b2,zaf b3,zaf b4,pv]) ((hk5.block _ (by omega) (fun hb=>by have:=(hIP.own.ge hb).1;omega)).trans (Ext.at hx04 hIP.h)) (by simp) (by rw[hpv'];rfl) rfl rfl ?_
   intro v3 hs3' hB3' hk3'
   refine⟨.inl rfl,?_⟩
   simp (disch:=first|omega|assumption|rfl) only[go_sem]
   refine hK _ _ ?_;clear hK hgd;clear K;try clear gd
   have hIPn:=hIP.app hx04 ho5 hk5 hB3' hk3'
   have hs5:=hk5.size
   repeat refine c_r ?_
   refine rg2 s6 hk1' ?_
   repeat refine c_r ?_
   refine⟨m2 - 1,by omega,rfl,k+1,pv',by omega,vq0,(vq1 s4),(vq1 s1),(vq1 s2),(vq1 s3),(vq1 s5),?_,by omega⟩
   rw[zap hk];exact hIPn
  ·intro hge2
   simp only[decide_eq_false_iff_not]at hge2
   have hfull:s.places.take k=s.places:=List.take_of_length_le (by omega)
   rw[hfull]at hIP
   obtain⟨ap',cp',hpv',_⟩:=hIP.own.rows.open
   have lo:=hIP.lo
   have dB:zas v (some ⟨b5,0,Option.none⟩) 6=some [nv,zaf b1,zaf b2,zaf b3,zaf b4,pv]:=zah hIP.h rfl
   have q3:zae v (some ⟨c3,0,Option.none⟩)=some ov:=zab (Ext.at hIP.e hB3) rfl
   have ones6:∀q∈ [nv,zaf b1,zaf b2,zaf b3,zaf b4,pv],one q=true:=fun q hq=>by
    simp at hq
    rcases hq with rfl|rfl|rfl|rfl|rfl|rfl<;>first|exact n1|rfl| (rw[hpv'];rfl)
   have hGl:G.length=i:=by
    have:=congrArg List.length hGf
    simp at this;omega
   repeat refine c_r ?_
   refine rq ?_;intro gd K hgd hK
   try simp (disch:=first|omega|assumption|rfl) only[go_sem,s3,s5,q3,dB,Nat.add_zero]
   refine zbg (C:=gxC) zeX (l:=[nv,zaf b1,zaf b2,zaf b3,zaf b4,pv]) (a:=(s,(pv,[nv,zaf b1,zaf b2,zaf b3,zaf b4,pv]))) (by rfl) (by rfl) (by rfl) (by rfl) ⟨rfl,rfl,ones6⟩ (by decide) ?_
   intro v1 hE4 hs4' ho4
   try simp only[go_sem]
   have hAv1:=hIP.e.trans hE4
   have hsA1:=hAv1.size
   refine zaV zeX ((hGS.ext hAv1).own) ho4.rows (by rfl) (by rfl) (by rfl) (by rfl) (by rfl) (by rfl) (by decide) (vr0) (vr0) (by simp;omega) (by decide) (by omega) ?_
   intro ov' v2 ho5 hE5 hk5 hb5'
   obtain⟨ao',co',hov',_⟩:=ho5.rows.open
   try simp (disch:=first|omega|assumption|rfl) only[go_sem,s3,Nat.add_zero]
   refine zaY (P:=Tryz.prog) (t:=135) (j:=0) (u:=ov') (l:=[ov,rv,vi c.rw,vi c.rf]) ((hk5.block _ (by omega) (fun hb=>by have:=(hGS.own.ge hb).1;omega)).trans (Ext.at hAv1 hB3)) (by simp) (by rw[hov'];rfl) rfl rfl ?_
   intro v3 hs3' hB3' hk3'
   try simp only[go_sem]
   refine hK _ _ ?_;clear hK hgd;clear K;try clear gd
   have hGS2:=hGS.app hAv1 hAs (x:=(s,(pv,[nv,zaf b1,zaf b2,zaf b3,zaf b4,pv]))) ⟨nv,b1,b2,b3,b4,rfl,hadr,hn,hIP.own.rows.ext hE4⟩ ((hIP.own.blk.mono (by omega)).ext hE4.size) ho5 hk5 hb5'
   have hGS3:=hGS2.keep hk3' (fun b h1 _ h2=>by omega)
   have hs5:=hk5.size
   repeat refine c_r ?_
   refine rg2 s4 hi1' ?_
   repeat refine c_r ?_
   refine⟨m - 1,by omega,rfl,i+1,ov',_,by omega,vq0,(vq1 s1),(vq1 s2),(vq1 s3),Keep.to_ext (hE5 w1 (hEA.trans hAv1) (by omega)) rfl (fun b hb=>by omega) hk3',by omega,hB3',hGS3,?_⟩
   rw[zap hi,List.map_append,hGf,hse];rfl
 ·intro hge
  simp only[decide_eq_false_iff_not]at hge
  rw[List.take_of_length_le (by omega)]at hGf
  have hEw:=hE1.trans hEA
  have hrows:=hGS.rows hEw
  rw[hGf]at hrows
  have o1:=hrows.isOne
  have dx:=zah (n:=4) (l:=[ov,rv,vi c.rw,vi c.rf]) hB3 rfl
  repeat refine c_r ?_
  refine rq ?_;intro gd K hgd hK
  try simp (disch:=first|omega|assumption|rfl) only[go_sem,s3,s2,dx]
  refine zaM (P:=Tryz.prog) (t:=137) (l:=[ov,rv,vi c.rw,vi c.rf]) (Ext.at hEA hC) rfl (fun v hv=>by simp at hv;rcases hv with rfl|rfl|rfl|rfl<;>first|exact r1|exact o1|rfl) rfl rfl ?_
  intro z hsz hBz hkz
  try simp only[go_sem]
  refine hK _ _ ?_;clear hK hgd;clear K;try clear gd
  repeat refine c_r ?_
  refine zaE (.inr rfl) Tryz.ntmps68 rfl (zaZ (x:=⟨w.heap.size+1,0,Option.none⟩) (k:=4) ((vq1 s2)) rfl rfl (zah hBz rfl) zaz) ?_
  have hEz:Ext w z:=Keep.to_ext hEw rfl (fun b hb=>by omega) hkz
  have hGz:=(hGS.keep hkz (fun b h1 _ h2=>by omega)).rows hEz
  rw[hGf]at hGz
  exact⟨hEz,_,rfl,ov,rv,rfl,hGz,hr0.ext hEz⟩
section
variable {P : Program} {d : Option Tmp} {ty : TypeId} {ps : String} {af : Array Edge} {g : Option (Nat × Bool)} {ρ : Operand → Value} {w : World} {K : Value → World → Prop}
theorem op_field{s:TypeId}{x:Operand}{f:Nat}{fs:Array Field}{fd:Field}{cs:Array Value}{v:Value}(hs:P.underlying s=some (.struct fs))(hf:fs[f]? =some fd)(ha:tyA P fd.type=false)(hu:(P.underlying fd.type).isSome=true)
  (hx:ρ x= .agg cs) (hv:cs[fd.offset]? =some v) (h:K v w):opV P ⟨d,.field s x f,ty,ps,af,g⟩ ρ w K:=by
 show opW P _ ρ w K
 refine zaI (s:=Instr.field s (ρ x) f) (w':=w) (v:=v) ?_ h
 obtain⟨u,hu⟩:=Option.isSome_iff_exists.1 hu
 have hi:(isAgg fd.type).run P w= .ok false w:=by
  unfold tyA at ha
  rw[hu]at ha
  cases u<;>first| (cases ha;done)|simp[isAgg,underlying,program,Sem.run,hu]
 have hp:(part fd.type cs fd.offset).run P w= .ok v w:=by
  unfold part
  simp only[Sem.run_bind,hi,Result.andThen_ok,Bool.false_eq_true,if_false,hv,Sem.run_pure]
 unfold Instr.field
 simp[underlying,program,Sem.run,hs,hf,hx,asAgg]
 exact hp
end
theorem host_at{w:World}{hv:Value}{l:List zex}(hs:Rows 6 (HostC w) w hv l):∃a c,hv= .slice a l.length c∧∀i (h:i<l.length),∃xa xi x5 nv az cz,a=some xa∧adr (some xa) (i*6)=some xi∧adr (some xi) 5=some x5∧zae w (some xi)=some nv∧Row w nv (l[i].name.map vs)∧
  zae w (some x5)=some (.slice az l[i].zones.length cz)∧(∃b1 b2 b3 b4,l[i].addr=[b1,b2,b3,b4]∧zas w (some xi) 6=some [nv,zaf b1,zaf b2,zaf b3,zaf b4,.slice az l[i].zones.length cz])∧
  ∀k (h:k<l[i].zones.length),∃xz xk ov lv,az=some xz∧adr (some xz) (k*2)=some xk∧zas w (some xk) 2=some [ov,lv]∧Row w ov (l[i].zones[k].o.map vs)∧Rows 7 (RecAt w) w lv l[i].zones[k].recs:=by
 obtain⟨a,c,rfl,_,hg⟩:=hs.open
 refine⟨a,c,rfl,fun i hi=>?_⟩
 obtain⟨cs,hcs,hS⟩:=hg i hi
 obtain⟨nv,b1,b2,b3,b4,pv,rfl,ha,hn,hp⟩:=hS.ex
 obtain⟨ap,cp,rfl,_,hgp⟩:=hp.open
 obtain⟨xa,rfl⟩:=Option.isSome_iff_exists.1 (zaq hcs)
 obtain⟨xi,hxi⟩:∃xi,adr (some xa) (i*6)=some xi:=⟨_,rfl⟩
 obtain⟨x5,hx5⟩:∃x,adr (some xi) 5=some x:=⟨_,rfl⟩
 rw[hxi]at hcs
 have h0:=zax (j:=0) hcs rfl
 rw[zaA]at h0
 have h5:=zax (j:=5) hcs rfl
 rw[hx5]at h5
 refine⟨xa,xi,x5,nv,ap,cp,rfl,hxi,hx5,h0,hn,h5,⟨b1,b2,b3,b4,ha,hcs⟩,fun k hk=>?_⟩
 obtain⟨c2,hc2,hP⟩:=hgp k hk
 obtain⟨ov,lv,rfl,ho,hl⟩:=hP.ex
 obtain⟨xp,rfl⟩:=Option.isSome_iff_exists.1 (zaq hc2)
 obtain⟨xk,hxk⟩:∃xi,adr (some xp) (k*2)=some xi:=⟨_,rfl⟩
 rw[hxk]at hc2
 exact⟨xp,xk,ov,lv,rfl,hxk,hc2,ho,hl⟩
def zhy(z:zcq):zfS:=⟨z.o,[120]⟩
def srvH(h:zex):SrvL:=⟨h.name,h.addr,h.zones.map zhy⟩
def confN(N:NetL):zhd:=⟨N.hosts.map srvH,N.roots,N.rw,N.rf⟩
def NumN(N:NetL):Prop:=∀h∈N.hosts,∀z∈h.zones,NumR z.recs
structure za1(N:NetL):Prop where
 z:NetZ N
 h1:1≤N.hosts.length∧N.hosts.length≤6
 r1:1≤N.roots.length∧N.roots.length≤4
 rin:∀r∈N.roots,0≤r∧r<(N.hosts.length:Int)
 w:0≤N.rw∧N.rw≤4
 f:0≤N.rf∧N.rf≤6
 zl:∀h∈N.hosts,h.zones.length≤4
 sh:∀h∈N.hosts,Sh h.name
theorem RecAt.up{w x:World}{v:Value}{R:List RecL}(h:Rows 7 (RecAt w) x v R)(hE:Ext w x):Rows 7 (RecAt x) x v R:=h.to fun _ _ h=>h.ext hE
theorem zmj(w:World){cs:List Value}{N:NetL}(hN:NetAt w cs N)(hv:NumN N):
  Fn Tryz.prog 16 #[.agg cs.toArray] w (fun v w'=>Ext w w'∧∃t,v= .bool t∧(t=true→za1 N)):=by
 obtain⟨hsv,rv,rfl,hs,hr⟩:=hN.ex
 obtain⟨aS,cS,rfl,hat⟩:=host_at hs
 have hr0:=hr
 have r1:=hr.isOne
 obtain⟨ar,cr,hrv,_,hgr⟩:=hr
 rw[List.length_map]at hrv
 refine enter Tryz.func16 Tryz.ntmps16 rfl rfl ?_
 repeat refine c_r ?_
 rw[hrv]
 refine rg0 ?_
 rw[←hrv]
 repeat refine c_r ?_
 refine zaB ?_
 intro w1 hE1 hs1 hA
 have p0:zae w1 (some ⟨w.heap.size,0,Option.none⟩)=some (.slice aS N.hosts.length cS):=zab hA rfl
 have p1:zae w1 (some ⟨w.heap.size,1,Option.none⟩)=some rv:=zab hA rfl
 have p2:zae w1 (some ⟨w.heap.size,2,Option.none⟩)=some (vi N.rw):=zab hA rfl
 have p3:zae w1 (some ⟨w.heap.size,3,Option.none⟩)=some (vi N.rf):=zab hA rfl
 rw[hrv]at p1
 repeat refine c_r ?_
 refine zay (Q:=fun e σ' ds' v'=>e= .normal∧ds'=[]∧v'=w1∧σ' 1= .pointer (some ⟨w.heap.size,0,Option.none⟩)∧∃t,σ' 51= .bool t∧(t=false→(1≤N.hosts.length∧N.hosts.length≤6)∧(1≤N.roots.length∧N.roots.length≤4)∧(0≤N.rw∧N.rw≤4)∧0≤N.rf∧N.rf≤6)) ?_ ?_
 ·by_cases e0:(N.hosts.length:Int)<1
  ·refine rgg [(4,14),(10,20),(16,26),(22,32),(27,37),(32,42),(37,47)] (an3 p0 Nat.add_zero (decide_eq_true e0)) ?_
   exact⟨rfl,rfl,rfl,vq0,_,vr0,fun h=>by cases h⟩
  by_cases e1:(N.hosts.length:Int)>6
  ·refine rgg [(4,14),(10,20),(16,26),(22,32),(27,37),(32,42),(37,47)] (an4 p0 Nat.add_zero (decide_eq_false e0) (decide_eq_true e1)) ?_
   exact⟨rfl,rfl,rfl,vq0,_,vr0,fun h=>by cases h⟩
  by_cases e2:(N.roots.length:Int)<1
  ·refine rgg [(4,14),(10,20),(16,26),(22,32),(27,37),(32,42),(37,47)] (an7 p0 Nat.add_zero (decide_eq_false e0) (decide_eq_false e1) p1 Nat.zero_add (decide_eq_true e2)) ?_
   exact⟨rfl,rfl,rfl,vq0,_,vr0,fun h=>by cases h⟩
  by_cases e3:(N.roots.length:Int)>4
  ·refine rgg [(4,14),(10,20),(16,26),(22,32),(27,37),(32,42),(37,47)] (an8 p0 Nat.add_zero (decide_eq_false e0) (decide_eq_false e1) p1 Nat.zero_add (decide_eq_false e2) (decide_eq_true e3)) ?_
   exact⟨rfl,rfl,rfl,vq0,_,vr0,fun h=>by cases h⟩
  by_cases e4:N.rw<0
  ·refine rgg [(4,14),(10,20),(16,26),(22,32),(27,37),(32,42),(37,47)] (an3 (an8 p0 Nat.add_zero (decide_eq_false e0) (decide_eq_false e1) p1 Nat.zero_add (decide_eq_false e2) (decide_eq_false e3)) p2 (decide_eq_true e4)) ?_
   exact⟨rfl,rfl,rfl,vq0,_,vr0,fun h=>by cases h⟩
  by_cases e5:N.rw>4
  ·refine rgg [(4,14),(10,20),(16,26),(22,32),(27,37),(32,42),(37,47)] (an4 (an8 p0 Nat.add_zero (decide_eq_false e0) (decide_eq_false e1) p1 Nat.zero_add (decide_eq_false e2) (decide_eq_false e3)) p2 (decide_eq_false e4) (decide_eq_true e5)) ?_
   exact⟨rfl,rfl,rfl,vq0,_,vr0,fun h=>by cases h⟩
  by_cases e6:N.rf<0
  ·refine rgg [(4,14),(10,20),(16,26),(22,32),(27,37),(32,42),(37,47)] (an6 (an8 p0 Nat.add_zero (decide_eq_false e0) (decide_eq_false e1) p1 Nat.zero_add (decide_eq_false e2) (decide_eq_false e3)) p2 (decide_eq_false e4) (decide_eq_false e5) p3 (decide_eq_true e6)) ?_
   exact⟨rfl,rfl,rfl,vq0,_,vr0,fun h=>by cases h⟩
  refine rgg [(4,14),(10,20),(16,26),(22,32),(27,37),(32,42),(37,47)] (an6 (an8 p0 Nat.add_zero (decide_eq_false e0) (decide_eq_false e1) p1 Nat.zero_add (decide_eq_false e2) (decide_eq_false e3)) p2 (decide_eq_false e4) (decide_eq_false e5) p3 (decide_eq_false e6)) ?_
  refine⟨rfl,rfl,rfl,vq0,_,vr0,fun h=>?_⟩
  simp only[decide_eq_false_iff_not]at h
  omega
 rintro _ σ1 _ w2 ⟨rfl,rfl,rfl,s1,t,s51,ht⟩
 repeat refine c_r ?_
 cases t with
 |true=>
  refine wt s51 ?_
  repeat (first|refine c_r ?_|refine rg0 ?_)
  refine rt0 Tryz.ntmps16 ?_
  exact⟨hE1,_,rfl,fun h=>by cases h⟩
 |false=>
 refine wf s51 ?_
 obtain⟨k1,k2,k3,k4⟩:=ht rfl
 clear ht s51
 repeat refine c_r ?_
 refine rq ?_;intro gd K hgd hK
 try simp (disch:=first|omega|assumption|rfl) only[go_sem,s1,p1,p2,p3,Nat.zero_add]
 refine⟨by kernel_rfl,?_⟩
 rw[show bdV Tryz.prog 112 [(1,.slice ar N.roots.length cr),(2,vi N.rw),(3,vi N.rf)]=some (.agg #[.slice Option.none 0 0,.slice ar N.roots.length cr,vi N.rw,vi N.rf]) from by kernel_rfl,←hrv]
 try simp only[go_sem]
 refine za2 (P:=Tryz.prog) (l:=[.slice Option.none 0 0,rv,vi N.rw,vi N.rf]) rfl (fun v hv=>by simp at hv;rcases hv with rfl|rfl|rfl|rfl<;>first|exact r1|rfl) rfl rfl ?_
 intro w3 hE2 hs2 hD
 try simp only[go_sem]
 refine hK _ _ ?_;clear hK hgd;clear K;try clear gd
 obtain⟨c3,hc3⟩:∃b,w2.heap.size=b:=⟨_,rfl⟩
 rw[hc3]at hD hs2 ⊢
 repeat refine c_r ?_
 refine rg0 ?_
 repeat refine c_r ?_
 refine zam (fun m σ ds A=>ds=[]∧∃(i:Nat) (ov:Value) (G:List (SrvL×(Value×List Value))),i+m=N.hosts.length∧σ 4=vi i∧σ 1= .pointer (some ⟨w.heap.size,0,Option.none⟩)∧σ 3= .pointer (some ⟨c3,0,Option.none⟩)∧Ext w2 A∧c3+1≤A.heap.size∧
  A.heap[c3]? =some (.cells #[ov,rv,vi N.rw,vi N.rf] 112 (0,0))∧GS w 119 (c3+1) A ov G∧G.map Prod.fst=(N.hosts.take i).map srvH∧∀j (h:j<N.hosts.length),j<i→N.hosts[j].zones.length≤4∧∀z∈N.hosts[j].zones,GoodZ z) N.hosts.length ?_ ?_
 ·exact⟨rfl,0,.slice Option.none 0 0,[],by omega,vr0,(vq1 s1),vq0,hE2,by omega,hD,⟨Owns.nil _ _ _ _ _,fun x h=>by cases h⟩,rfl,fun j h h2=>absurd h2 (by omega)⟩
 clear s1
 rintro m σ ds A ⟨rfl,i,ov,G,him,s4,s1,s3,hEA,hAs,hB3,hGS,hGf,hgood⟩
 have p0A:=zaa hEA p0
 repeat refine c_r ?_
 refine rg4 s4 s1 p0A Nat.add_zero ?_
 repeat refine c_r ?_
 refine wc0 ?_ ?_
 ·intro hlt
  simp only[decide_eq_true_eq]at hlt
  have hi:i<N.hosts.length:=by omega
  have hi0:(0:Int)≤(i:Int):=by omega
  have hi1':(i:Int)+1=((i+1:Nat):Int):=by push_cast;rfl
  obtain⟨xa,xi,x5,nv,az,cz,rfl,hxi,hx5,g0,hn,g5,⟨b1,b2,b3,b4,hadr,hcs⟩,hpl⟩:=hat i hi
  have hvi:=hv _ (List.getElem_mem hi)
  obtain⟨s,hse⟩:∃s,N.hosts[i]=s:=⟨_,rfl⟩
  rw[hse]at hn g5 hadr hcs hvi
  simp only[hse]at hpl
  have n1:=hn.isOne
  have hz0:adr (some xi) 0=some xi:=zaA _
  obtain⟨y1,hy1⟩:∃y,adr (some xi) 1=some y:=⟨_,rfl⟩
  have gby:zas w (some y1) 4=some [zaf b1,zaf b2,zaf b3,zaf b4]:=by
   have h5:=za8 (m:=1) (k:=5) hcs
   rw[hy1]at h5
   exact zcw (m:=4) (k:=1) h5
  obtain⟨an,cn,hnv,_⟩:=id hn
  repeat refine c_r ?_
  refine zaJ (fun i=>i==14) [(0,true),(1,true),(2,true),(3,true),(4,true),(5,true),(6,true),(7,true),(8,true),(9,true),(10,true),(11,true),(12,true),(13,false),(14,false)] NoS mixed (by kernel_rfl) ?_;intro gd K x hgd hx hxe hK;clear hxe
  have hwx:=hE1.trans (hEA.trans hx)
  have p0x:=zaa hx p0A
  have g0x:=zaa hwx g0
  have gbx:=zad hwx gby
  simp (disch:=first|omega|assumption|rfl) only[go_sem,s4,s1,p0x,Nat.add_zero,hi0,hlt,hxi,hz0,hy1,g0x,gbx]
  refine⟨by kernel_rfl,?_⟩
  rw[hnv,show bdV Tryz.prog 119 [(0,.slice an (s.name.map vs).length cn),(1,.agg #[zaf b1,zaf b2,zaf b3,zaf b4])]=some (.agg #[.slice an (s.name.map vs).length cn,zaf b1,zaf b2,zaf b3,zaf b4,.slice Option.none 0 0]) from by kernel_rfl,←hnv]
  simp (disch:=first|omega|assumption|rfl) only[go_sem]
  refine⟨.inr (Ext.alloc x _),?_⟩
  refine za2 (P:=Tryz.prog) (l:=[nv,zaf b1,zaf b2,zaf b3,zaf b4,.slice Option.none 0 0]) rfl (fun v hv=>by simp at hv;rcases hv with rfl|rfl|rfl|rfl|rfl|rfl<;>first|exact n1|rfl) rfl rfl ?_
  intro A1 hE3 hs3 hB5
  refine⟨.inl rfl,?_⟩
  simp (disch:=first|omega|assumption|rfl) only[go_sem]
  refine hK _ _ ?_;clear hK hgd;clear K;try clear gd
  have hx3:=hx.trans hE3
  obtain⟨b5,hb5⟩:∃b,x.heap.size=b:=⟨_,rfl⟩
  have hsx:=hx.size
  rw[hb5]at hB5 hs3 hsx ⊢
  have hIP:IP w 119 131 b5 nv b1 b2 b3 b4 A A1 (.slice Option.none 0 0) []:=⟨hB5,Owns.nil _ _ _ _ _,hx3,hsx⟩
  have p01:=zaa hx3 p0A
  have g51:=zaa (hE1.trans (hEA.trans hx3)) g5
  clear p0x g0x gbx hx hwx hE3 hB5
  repeat refine c_r ?_
  by_cases h4:(s.zones.length:Int)>4
  ·refine rg9 s4 s1 p01 Nat.add_zero hi0 hlt hxi hx5 (an2 g51 (decide_eq_true h4)) ?_
   repeat refine c_r ?_
   refine wt trivial ?_
   repeat (first|refine c_r ?_|refine rg0 ?_)
   refine rt0 Tryz.ntmps16 ?_
   exact⟨hE1.trans (hEA.trans hx3),_,rfl,fun h=>by cases h⟩
  refine rg9 s4 s1 p01 Nat.add_zero hi0 hlt hxi hx5 (an2 g51 (decide_eq_false h4)) ?_
  repeat refine c_r ?_
  refine wf trivial ?_
  clear p01 g51 hx3
  repeat refine c_r ?_
  refine rg0 ?_
  repeat refine c_r ?_
  refine zam (fun m σ ds v=>ds=[]∧∃(k:Nat) (pv:Value),k+m=s.zones.length∧σ 6=vi k∧σ 4=vi i∧σ 1= .pointer (some ⟨w.heap.size,0,Option.none⟩)∧σ 3= .pointer (some ⟨c3,0,Option.none⟩)∧σ 5= .pointer (some ⟨b5,0,Option.none⟩)∧
   IP w 119 131 b5 nv b1 b2 b3 b4 A v pv ((s.zones.take k).map zhy)∧b5+1≤v.heap.size∧∀j (h:j<s.zones.length),j<k→GoodZ s.zones[j]) s.zones.length ?_ ?_
  ·exact⟨rfl,0,_,by omega,vr0,(vq1 s4),(vq1 s1),(vq1 s3),vq0,hIP,by omega,fun j h h2=>absurd h2 (by omega)⟩
  clear s4 s1 s3 hIP
  rintro m2 σ2 ds2 v ⟨rfl,k,pv,hkm,s6,s4,s1,s3,s5,hIP,hvs,hgz⟩
  have hEv:=hEA.trans hIP.e
  have hwv:=hE1.trans hEv
  have p0v:=zaa hEv p0
  have g5v:=zaa hwv g5
  repeat refine c_r ?_
  refine rg9 s6 s4 s1 (an3 p0v Nat.add_zero g5v) hi0 hlt hxi hx5 trivial ?_
  repeat refine c_r ?_
  refine wc0 ?_ ?_
  ·intro hlt2
   simp only[decide_eq_true_eq]at hlt2
   have hk:k<s.zones.length:=by omega
   have hk0:(0:Int)≤(k:Int):=by omega
   have hk1':(k:Int)+1=((k+1:Nat):Int):=by push_cast;rfl
   obtain⟨xp,xk,ow,lv,rfl,hxk,dz,ho,hl⟩:=hpl k hk
   obtain⟨z,hze⟩:∃z,s.zones[k]=z:=⟨_,rfl⟩
   have hnz:=hvi _ (List.getElem_mem hk)
   rw[hze]at ho hl hnz
   have o1:=ho.isOne
   have l1:=hl.isOne
   have dzv:=zad hwv dz
   repeat refine c_r ?_
   refine rq ?_;intro gd K hgd hK
   try simp (disch:=first|omega|assumption|rfl) only[go_sem,s6,s4,s1,p0v,Nat.add_zero,g5v,hi0,hlt,hxi,hx5,hk0,hlt2,hxk,dzv]
   refine za2 (P:=Tryz.prog) (l:=[ow,lv]) rfl (zei o1 l1) rfl rfl ?_
   intro v1 hE4 hs4' hB7
   try simp only[go_sem]
   refine hK _ _ ?_;clear hK hgd;clear K;try clear gd
   obtain⟨b7,hb7⟩:∃b,v.heap.size=b:=⟨_,rfl⟩
   rw[hb7]at hB7 hs4' ⊢
   have hwv1:=hwv.trans hE4
   have e0:zae v1 (some ⟨b7,0,Option.none⟩)=some ow:=zab hB7 rfl
   have e1:zae v1 (some ⟨b7,1,Option.none⟩)=some lv:=zab hB7 rfl
   obtain⟨al,cl,hlv,_⟩:=hl.open
   repeat refine c_r ?_
   refine zay (Q:=fun e σ' ds' v'=>e= .normal∧ds'=[]∧σ' 6=vi k∧σ' 4=vi i∧σ' 1= .pointer (some ⟨w.heap.size,0,Option.none⟩)∧σ' 3= .pointer (some ⟨c3,0,Option.none⟩)∧σ' 5= .pointer (some ⟨b5,0,Option.none⟩)∧σ' 7= .pointer (some ⟨b7,0,Option.none⟩)∧Ext v1 v'∧∃t,σ' 132= .bool t∧(t=false→GoodZ z)) ?_ ?_
   ·refine zaJ (fun _=>false) [(0,true),(1,true),(2,true),(3,true),(4,false),(5,true),(6,true),(7,true),(8,true),(9,true),(10,true),(11,true),(12,true),(13,true),(14,true),(16,true),(17,true),(18,true),(19,true),(15,false),(20,false),(21,false),(22,false),(23,false),(24,true),(25,true)] NoS mixed (by kernel_rfl) ?_;intro gd K x hgd hx hxe hK;clear hxe
    have hg6:∀n σ b,zav gd n σ (some (6,b))=zal (ev n σ (.tmp 113)) b:=(fun n σ b=>by rw[zac,show gd 6=some 113 from(by rw[hgd];rfl)];rfl);have hg12:∀n σ b,zav gd n σ (some (12,b))=zal (ev n σ (.tmp 119)) b:=(fun n σ b=>by rw[zac,show gd 12=some 119 from(by rw[hgd];rfl)];rfl)
    have e0x:=zaa hx e0
    have e1x:=zaa hx e1
    have hwx:=hwv1.trans hx
    simp (disch:=first|omega|assumption|rfl) only[go_sem,e0x,e1x,Nat.add_zero,Nat.zero_add]
    refine Fn.mono (ZGood_ok hwx (ho.ext hwx) (hl.ext hwx)) ?_
    rintro _ y1 ⟨hy1,b,rfl,hb⟩
    refine⟨.inr hy1,?_⟩
    cases b with
    |false=>
     simp (disch:=first|omega|assumption|rfl) only[go_sem,Bool.not_false,zcp,↓hg6,↓hg12]
     refine hK _ _ ?_;clear hK hgd;clear K;try clear gd
     exact⟨rfl,rfl,(vq1 s6),(vq1 s4),(vq1 s1),(vq1 s3),(vq1 s5),vq0,hx.trans hy1,_,vr0,fun h=>by cases h⟩
    |true=>
    obtain⟨go,gR⟩:=hb rfl
    have hrok:=zgR gR hnz
    have hRl:=gR.len
    have e1y:=zaa hy1 e1x
    rw[hlv]at e1y
    by_cases h20:(z.recs.length:Int)>20
    ·simp (disch:=first|omega|assumption|rfl) only[go_sem,Bool.not_true,zcp,e1y,Nat.zero_add,decide_eq_true h20,↓hg6,↓hg12]
     refine hK _ _ ?_;clear hK hgd;clear K;try clear gd
     exact⟨rfl,rfl,(vq1 s6),(vq1 s4),(vq1 s1),(vq1 s3),(vq1 s5),vq0,hx.trans hy1,_,vr0,fun h=>by cases h⟩
    have e0y1:=zaa hy1 e0x
    simp (disch:=first|omega|assumption|rfl) only[go_sem,Bool.not_true,zcp,e1y,e0y1,Nat.zero_add,Nat.add_zero,decide_eq_false h20,↓hg6,↓hg12]
    rw[←hlv]
    have hwy1:=hwx.trans hy1
    refine Fn.mono (zjz hwy1 (hl.ext hwy1) (fun r hr=>(gR.few r hr).2.nn) (by omega)) ?_
    rintro l1v y2 ⟨hy2,hl2⟩
    refine⟨.inr hy2,?_⟩
    have hwy2:=hwy1.trans hy2
    have e0y:=zaa (hy1.trans hy2) e0x
    have e1y2:=zaa (hy1.trans hy2) e1x
    simp (disch:=first|omega|assumption|rfl) only[go_sem,e0y,e1y2,Nat.add_zero,Nat.zero_add,zcp,↓hg6,↓hg12]
    refine Fn.mono (zjz hwy2 (hl.ext hwy2) (fun r hr=>(gR.few r hr).2.nn) (by omega)) ?_
    rintro l2v y3 ⟨hy3,hl3⟩
    refine⟨.inr hy3,?_⟩
    have hwy3:=hwy2.trans hy3
    simp (disch:=first|omega|assumption|rfl) only[go_sem,zcp,↓hg6,↓hg12]
    refine Fn.mono (RZNew_ok (Keep.refl _ y3) (ho.ext hwy3) hl3 hrok (by omega)) ?_
    rintro _ y4 ⟨hy4,cv,rfl,hcv⟩
    refine⟨.inr hy4,?_⟩
    have hl4:Rows 7 (RecAt y4) y4 l1v z.recs:=Rows.extC (fun _ _ h=>RecAt.ext h (hy3.trans hy4)) hl2 (hy3.trans hy4)
    have hcv4:=RecAt.up hcv hy4
    simp (disch:=first|omega|assumption|rfl) only[go_sem,zcp,↓hg6,↓hg12]
    refine op_field (P:=Tryz.prog) (v:=cv) rfl rfl rfl rfl (vr0) rfl ?_
    refine⟨.inr (Keep.refl _ _),?_⟩
    refine Fn.mono (Is5_ok y4 hl4 hcv4 (fun r hr=>⟨(hrok r hr).len,(hrok r hr).dat.n⟩) (by omega)) ?_
    rintro _ y5 ⟨hy5,t,rfl,ht⟩
    refine⟨.inr hy5,?_⟩
    simp (disch:=first|omega|assumption|rfl) only[go_sem,zcp,↓hg6,↓hg12]
    refine hK _ _ ?_;clear hK hgd;clear K;try clear gd
    refine⟨rfl,rfl,(vq1 s6),(vq1 s4),(vq1 s1),(vq1 s3),(vq1 s5),vq0,((((hx.trans hy1).trans hy2).trans hy3).trans hy4).trans hy5,_,vr0,fun h=>⟨go,gR,hnz,(ht ?_).symm⟩⟩
    simpa using h
   clear s6 s4 s1 s3 s5
   rintro _ σ3 _ v2 ⟨rfl,rfl,s6,s4,s1,s3,s5,s7,hE5,t,s132,hzt⟩
   repeat refine c_r ?_
   cases t with
   |true=>
    refine wt s132 ?_
    repeat (first|refine c_r ?_|refine rg0 ?_)
    refine rt0 Tryz.ntmps16 ?_
    exact⟨hwv1.trans hE5,_,rfl,fun h=>by cases h⟩
   |false=>
   refine wf s132 ?_
   have hgzk:=hzt rfl
   clear s132 hzt
   have hE45:=hE4.trans hE5
   have hIP2:=hIP.h
   have hB52:=Ext.at hE45 hIP.h
   have q5:zae v2 (some ⟨b5,5,Option.none⟩)=some pv:=zab hB52 rfl
   have e02:=zaa hE5 e0
   have lo:=hIP.lo
   have hsz2:=hE45.size
   obtain⟨ao,co,how,_⟩:=id ho
   repeat refine c_r ?_
   refine rq ?_;intro gd K hgd hK
   try simp (disch:=first|omega|assumption|rfl) only[go_sem,s5,s7,q5,e02,Nat.add_zero,Nat.zero_add]
   refine⟨by kernel_rfl,?_⟩
   rw[how,show bdV Tryz.prog 131 [(0,.slice ao (z.o.map vs).length co),(1,vs [120])]=some (.agg #[.slice ao (z.o.map vs).length co,vs [120]]) from by kernel_rfl,←how]
   try simp only[go_sem]
   refine zbg (zcE w) (l:=[ow,vs [120]]) (a:=zhy z) (by rfl) (by rfl) (by rfl) (by rfl) ⟨ow,rfl,ho⟩ (by decide) ?_
   intro v3 hE6 hs6' ho6
   try simp only[go_sem]
   have hx04:=hE45.trans hE6
   have hsz4:=hx04.size
   refine zaV (zcE w) (hIP.own.ext hx04) ho6.rows (by rfl) (by rfl) (by rfl) (by rfl) (by rfl) (by rfl) (by decide) (vr0) (vr0) (by simp;omega) (by decide) (by omega) ?_
   intro pv' v4 ho7 hE7 hk7 hb7'
   obtain⟨ap',cp',hpv',_⟩:=ho7.rows.open
   try simp (disch:=first|omega|assumption|rfl) only[go_sem,s5,Nat.zero_add]
   refine zaY (P:=Tryz.prog) (t:=117) (j:=5) (u:=pv') (l:=[nv,zaf b1,zaf b2,zaf b3,zaf b4,pv]) ((hk7.block _ (by omega) (fun hb=>by have:=(hIP.own.ge hb).1;omega)).trans (Ext.at hx04 hIP.h)) (by simp) (by rw[hpv'];rfl) rfl rfl ?_
   intro v5 hs5' hB5' hk5'
   try simp only[go_sem]
   refine hK _ _ ?_;clear hK hgd;clear K;try clear gd
   have hIPn:=hIP.app hx04 ho7 hk7 hB5' hk5'
   have hs7:=hk7.size
   repeat refine c_r ?_
   refine rg2 s6 hk1' ?_
   repeat refine c_r ?_
   refine⟨m2 - 1,by omega,rfl,k+1,pv',by omega,vq0,(vq1 s4),(vq1 s1),(vq1 s3),(vq1 s5),?_,by omega,fun j hj hjk=>?_⟩
   ·rw[zap hk,List.map_append,hze];exact hIPn
   ·by_cases hj2:j=k
    ·subst hj2;rw[hze];exact hgzk
    ·exact hgz j hj (by omega)
  ·intro hge2
   simp only[decide_eq_false_iff_not]at hge2
   have hfull:(s.zones.take k).map zhy=s.zones.map zhy:=by rw[List.take_of_length_le (by omega)]
   rw[hfull]at hIP
   obtain⟨ap',cp',hpv',_⟩:=hIP.own.rows.open
   have lo:=hIP.lo
   have dB:zas v (some ⟨b5,0,Option.none⟩) 6=some [nv,zaf b1,zaf b2,zaf b3,zaf b4,pv]:=zah hIP.h rfl
   have q3:zae v (some ⟨c3,0,Option.none⟩)=some ov:=zab (Ext.at hIP.e hB3) rfl
   have ones6:∀q∈ [nv,zaf b1,zaf b2,zaf b3,zaf b4,pv],one q=true:=fun q hq=>by
    simp at hq
    rcases hq with rfl|rfl|rfl|rfl|rfl|rfl<;>first|exact n1|rfl| (rw[hpv'];rfl)
   have hGl:G.length=i:=by
    have:=congrArg List.length hGf
    simp at this;omega
   repeat refine c_r ?_
   refine rq ?_;intro gd K hgd hK
   try simp (disch:=first|omega|assumption|rfl) only[go_sem,s3,s5,q3,dB,Nat.add_zero]
   refine zbg (C:=gxC) zeX (l:=[nv,zaf b1,zaf b2,zaf b3,zaf b4,pv]) (a:=(srvH s,(pv,[nv,zaf b1,zaf b2,zaf b3,zaf b4,pv]))) (by rfl) (by rfl) (by rfl) (by rfl) ⟨rfl,rfl,ones6⟩ (by decide) ?_
   intro v1 hE4 hs4' ho4
   try simp only[go_sem]
   have hAv1:=hIP.e.trans hE4
   have hsA1:=hAv1.size
   refine zaV zeX ((hGS.ext hAv1).own) ho4.rows (by rfl) (by rfl) (by rfl) (by rfl) (by rfl) (by rfl) (by decide) (vr0) (vr0) (by simp;omega) (by decide) (by omega) ?_
   intro ov' v2 ho5 hE5 hk5 hb5'
   obtain⟨ao',co',hov',_⟩:=ho5.rows.open
   try simp (disch:=first|omega|assumption|rfl) only[go_sem,s3,Nat.add_zero]
   refine zaY (P:=Tryz.prog) (t:=110) (j:=0) (u:=ov') (l:=[ov,rv,vi N.rw,vi N.rf]) ((hk5.block _ (by omega) (fun hb=>by have:=(hGS.own.ge hb).1;omega)).trans (Ext.at hAv1 hB3)) (by simp) (by rw[hov'];rfl) rfl rfl ?_
   intro v3 hs3' hB3' hk3'
   try simp only[go_sem]
   refine hK _ _ ?_;clear hK hgd;clear K;try clear gd
   have hGS2:=hGS.app hAv1 hAs (x:=(srvH s,(pv,[nv,zaf b1,zaf b2,zaf b3,zaf b4,pv]))) ⟨nv,b1,b2,b3,b4,rfl,hadr,hn,hIP.own.rows.ext hE4⟩ ((hIP.own.blk.mono (by omega)).ext hE4.size) ho5 hk5 hb5'
   have hGS3:=hGS2.keep hk3' (fun b h1 _ h2=>by omega)
   have hs5:=hk5.size
   repeat refine c_r ?_
   refine rg2 s4 hi1' ?_
   repeat refine c_r ?_
   refine⟨m - 1,by omega,rfl,i+1,ov',_,by omega,vq0,(vq1 s1),(vq1 s3),Keep.to_ext (hE5 w2 (hEA.trans hAv1) (by omega)) rfl (fun b hb=>by omega) hk3',by omega,hB3',hGS3,?_,fun j hj hji=>?_⟩
   ·rw[zap hi,List.map_append,List.map_append,hGf,hse];rfl
   ·by_cases hj2:j=i
    ·subst hj2
     rw[hse]
     refine⟨by omega,fun z hz=>?_⟩
     obtain⟨k2,hk2,rfl⟩:=List.mem_iff_getElem.1 hz
     exact hgz k2 hk2 (by omega)
    ·exact hgood j hj (by omega)
 ·intro hge
  simp only[decide_eq_false_iff_not]at hge
  rw[List.take_of_length_le (by omega)]at hGf
  have hEw:=hE1.trans hEA
  have hrows:=hGS.rows hEw
  rw[hGf]at hrows
  have o1:=hrows.isOne
  have dx:=zah (n:=4) (l:=[ov,rv,vi N.rw,vi N.rf]) hB3 rfl
  have hcf:ConfAt A [ov,rv,vi N.rw,vi N.rf] (confN N):=⟨ov,rv,rfl,hrows,hr0.ext hEw⟩
  repeat refine c_r ?_
  refine rc (an2 s3 dx) (Few15_ok A hcf) ?_
  rintro _ A1 ⟨hE3,t,rfl,hfew⟩
  refine re trivial ?_
  repeat refine c_r ?_
  cases t with
  |false=>
   refine wt Bool.not_false ?_
   repeat (first|refine c_r ?_|refine rg0 ?_)
   refine rt0 Tryz.ntmps16 ?_
   exact⟨hEw.trans hE3,_,rfl,fun h=>by cases h⟩
  |true=>
  refine wf Bool.not_true ?_
  have hf:=hfew rfl
  have dx1:=zad hE3 dx
  repeat refine c_r ?_
  refine rc (an2 s3 dx1) (Of15_ok A1 (hcf.ext hE3) hf) ?_
  rintro _ A2 ⟨hE4,cs',rfl,hcf2⟩
  refine rd trivial (zim A2 hcf2 hf) ?_
  rintro _ A3 ⟨hE5,a,e,rfl,he⟩
  refine re trivial ?_
  repeat refine c_r ?_
  refine rg0 ?_
  repeat refine c_r ?_
  refine rt0 Tryz.ntmps16 ?_
  refine⟨hEw.trans (hE3.trans (hE4.trans hE5)),_,rfl,fun h=>?_⟩
  have hro:=he (by simpa using h)
  have hgj:∀h∈N.hosts,h.zones.length≤4∧∀z∈h.zones,GoodZ z:=fun h hh=>by
   obtain⟨j,hj,rfl⟩:=List.mem_iff_getElem.1 hh
   exact hgood j hj (by omega)
  refine⟨⟨by omega,fun h hh=>(hf.s (srvH h) (List.mem_map_of_mem hh)).1.m,fun h hh=>by have:=(hgj h hh).1;omega,fun h hh=>(hgj h hh).2,by omega⟩,k1,k2,fun r hr=>?_,k3,k4,fun h hh=>(hgj h hh).1,fun h hh=>(hf.s (srvH h) (List.mem_map_of_mem hh)).1⟩
  have:=hro.inn r hr
  rw[show (confN N).servers.length=N.hosts.length from List.length_map _]at this
  exact this
structure GoodSt(N:NetL)(s:zak):Prop where
 s0:0≤s.sv
 s1:s.sv<(N.hosts.length:Int)
 nm:zbW s.name=true
 w0:0≤s.rw
 w1:s.rw≤N.rw
 f0:0≤s.rf
 f1:s.rf≤N.rf
 e0:0≤s.fin
 e1:s.fin≤9
end Go.Proofs.YtahbdamijngmmaaGreat
