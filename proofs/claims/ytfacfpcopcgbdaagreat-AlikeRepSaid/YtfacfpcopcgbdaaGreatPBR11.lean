/-
  Texts of a proof, joined.
  Conditions: none.
-/
import Derived.Test.YtfacfpcopcgbdaaGreatPBR10
set_option linter.all false
set_option maxRecDepth 20000
set_option maxHeartbeats 8000000
namespace Go.Proofs.YtfacfpcopcgbdaaGreat
open Go Tryz
variable {w w0 w1 W0 x A:World}{v u lv nv:Value}{cs l:List Value}{B k b i j c m cap:Nat}{t e:TypeId}{a:Option Addr}{S C:Nat->Prop}{q n o:Nm}{N:NetL}
set_option maxRecDepth 100000
def kH:Nm:=[[98],[111]]
def kX:Nm:=[[120],[111]]
def kAd:DatL:=⟨1,[],[],[],[10,0,0,2]⟩
def kNd:DatL:=⟨2,[kH],[],[],[]⟩
def kR1:List RecL:=[⟨[[111]],0,kNd⟩,⟨kH,0,kAd⟩]
def kR2:List RecL:=[⟨kX,0,kAd⟩]
def smallN:NetL:=⟨[⟨[[97]],[10,0,0,1],[⟨[],kR1⟩]⟩,⟨kH,[10,0,0,2],[⟨[[111]],kR2⟩]⟩],[0],2,3⟩
theorem kC1:zbd kR1=kR1:=by kernel_rfl
theorem kC2:zbd kR2=kR2:=by kernel_rfl
theorem kG1:zfK kR1:=by
 refine⟨by decide,?_,?_,?_,?_⟩
 all_goals
  intro r hr;simp only[kR1,yay,ybn,or_false]at hr
 ·rcases hr with rfl|rfl
  all_goals
   refine⟨by kernel_rfl,⟨?_,by decide,by decide,by decide,?_,by decide,by decide⟩⟩
   ·intro n hn;simp only[kAd,kNd,yay,ybn,or_false]at hn;try subst hn
    try decide
   ·intro l hl;cases hl
 ·rcases hr with rfl|rfl<;>kernel_rfl
 ·rcases hr with rfl|rfl
  all_goals
   intro n hn;simp only[kAd,kNd,yay,ybn,or_false]at hn;try subst hn
   try kernel_rfl
 ·rcases hr with rfl|rfl
  all_goals
   intro ht
   first|rfl| (simp[zhU,kAd]at ht)
theorem kG2:zfK kR2:=by
 refine⟨by decide,?_,?_,?_,?_⟩
 all_goals
  intro r hr;simp only[kR2,yay,ybn,or_false]at hr;subst hr
 ·refine⟨by kernel_rfl,⟨?_,by decide,by decide,by decide,?_,by decide,by decide⟩⟩
  ·intro n hn;cases hn
  ·intro l hl;cases hl
 ·kernel_rfl
 ·intro n hn;cases hn
 ·intro ht;simp[zhU,kAd]at ht
theorem kN1:NumR kR1:=by
 intro r hr;simp only[kR1,yay,ybn,or_false]at hr;rcases hr with rfl|rfl<;>(intro n hn;cases hn)
theorem kN2:NumR kR2:=by
 intro r hr;simp only[kR2,yay,ybn,or_false]at hr;subst hr;intro n hn;cases hn
theorem small_z:NetZ smallN:=by
 have hz1:GoodZ ⟨[],kR1⟩:=⟨by kernel_rfl,kG1,kN1,kC1⟩;have hz2:GoodZ ⟨[[111]],kR2⟩:=⟨by kernel_rfl,kG2,kN2,kC2⟩;refine⟨by decide,?_,?_,?_,by decide⟩
 all_goals
  intro h hh;simp only[smallN,yay,ybn,or_false]at hh
 ·rcases hh with rfl|rfl
  ·exact(zb2 (show zbQ [[97]]=true by kernel_rfl)).m
  ·exact(zb2 (show zbQ kH=true by kernel_rfl)).m
 ·rcases hh with rfl|rfl<;>decide
 ·rcases hh with rfl|rfl
  all_goals
   intro z hz;simp only[yay,ybn,or_false]at hz;subst hz
   assumption
theorem Row.keepV(h:Row w v l)(hk:Keep S w x)(hS:∀a u,S a.block->w.cell? a=some u->u∉l):Row x v l:=by
 obtain⟨a,c,e,hc,hg⟩:=h;refine⟨a,c,e,hc,λ j hj=>?_⟩;have h1:=hg j hj;obtain⟨y,hy⟩:=yxs (zaf h1);subst hy;have h2:w.cell? (y.add j)=some l[j]:=h1;show x.cell? (y.add j)=some l[j];by_cases hs:S (y.add j).block
 ·exact absurd (yac hj) (hS _ _ hs h2)
 ·exact zdW hk hs h2
def Zero(S:Nat->Prop)(w:World):Prop:=∀a u,S a.block->w.cell? a=some u->u= .slice .none 0 0\/∃n,u=vi n
theorem DatAt.keepV{d:DatL}(h:DatAt w cs d)(hk:Keep S w x)(hS:Zero S w)(hn:∀n∈d.names,n≠ []):DatAt x cs d:=by
 obtain⟨nm,nu,tx,rw',e,⟨vals,n1,n2,n3⟩,h2,h3,h4⟩:=h.ex;refine⟨nm,nu,tx,rw',e,⟨vals,n1.keepV hk ?_,n2,λ i hi hi'=>(n3 i hi hi').keepV hk ?_⟩,h2.keepV hk ?_,h3.keepV hk ?_,h4.keepV hk ?_⟩
 ·intro a u hs hu hm;obtain⟨i,hi,rfl⟩:=ybh.1 hm;have hr:=n3 i hi oM;obtain⟨b,c,e2,_⟩:=hr;have h0:=hn _ (yac (show i<d.names.length by omega));rcases hS a _ hs hu with h| ⟨n,h⟩
  ·rw[h]at e2;injection e2 with _ e3 _
   simp only[ylm]at e3;exact h0 (yan.1 e3.symm)
  ·rw[h]at e2;cases e2
 all_goals
  intro a u hs hu hm;obtain⟨y,_,rfl⟩:=yaq.1 hm;rcases hS a _ hs hu with h| ⟨n,h⟩<;>simp[vs,zae]at h
theorem RecAt.keepV{r:RecL}(h:RecAt w cs r)(hk:Keep S w x)(hS:Zero S w)(hn:∀n∈r.dat.names,n≠ []):RecAt x cs r:=by
 obtain⟨ow,ds,e,h1,h2⟩:=h.ex;refine⟨ow,ds,e,h1.keepV hk ?_,h2.keepV hk hS hn⟩;intro a u hs hu hm;obtain⟨y,_,rfl⟩:=yaq.1 hm;rcases hS a _ hs hu with h| ⟨n,h⟩<;>simp[vs]at h
theorem Recs.keepV{r:RecL}{R:List RecL}(h:Rows 7 (RecAt w) w v (r::R))(hk:Keep S w x)(hS:Zero S w)(hn:∀q∈r::R,∀n∈q.dat.names,n≠ []):Rows 7 (RecAt x) x v (r::R):=by
 obtain⟨a,c,rfl,hc,hg⟩:=h.open;obtain⟨cs,hcs,hr⟩:=hg 0 sM;obtain⟨ow,ds,rfl,_⟩:=hr.ex;have h1:zad w (adr (adr a (0*7)) 1)=some (v32 r.ttl):=zaq hcs rfl;rw[ybj,zar]at h1;obtain⟨b,rfl⟩:∃b,a=some b:=by
  cases a with
  |none=>simp[zad,adr]at h1
  |some b=>exact⟨b,rfl⟩
 have hb:¬S b.block:=λ hs=>by
  rcases hS (b.add 1) _ (by rw[zbA];exact hs) (show w.cell? (b.add 1)=some _ from h1) with h| ⟨n,h⟩<;>simp at h
 have hbl:b.block<w.heap.size:=by
  have:=zc9 (show w.cell? (b.add 1)=some _ from h1)
  rwa [zbA]at this
 have hrow:=h.blocks (x:=x) λ a' n c' hv=>by
  injection hv with e1 _ _
  injection e1 with e1
  rw[←e1];exact hk.block _ hbl hb
 obtain⟨L,g1,g2,g3⟩:=hrow;exact⟨L,g1,g2,λ i hi hi'=>(g3 i hi hi').keepV hk hS (hn _ (yac hi'))⟩
theorem Small_ok(x0:World):Fn prog 16 #[] x0 (λ v w'=>Ext x0 w'/\∃cs,v= .agg cs.toArray/\NetAt w' cs smallN):=by
 refine enx func16 ntmps16 ?_;refine gz0 ?_;refine zav ?_;intro x1 e1 s1 hR0;refine rqz ?_;intro gd K hgd hK;refine sg0 ?_;refine zbK (z:= .int .u8 0) (l:=[.int .u8 10,.int .u8 0,.int .u8 0,.int .u8 2]) rfl rfl rfl rfl rfl rfl (λ v hv=>by simp at hv;rcases hv with rfl|rfl|rfl|rfl<;>rfl) sM ?_;intro x2 e2 s2 o2;obtain⟨c2,hc2⟩:∃c,x1.heap.size=c:=⟨_,rfl⟩;rw[hc2]at o2 ⊢;have r2:Row x2 (.slice (some ⟨c2,0,.none⟩) 4 4) (kAd.raw.map zae):=o2.row;refine sg0 ?_;refine⟨by kernel_rfl,?_⟩;rw[show bdV prog 97 [(0,vi 1),(4,.slice (some ⟨c2,0,.none⟩) 4 4)]=some (.agg #[vi 1,.slice .none 0 0,.slice .none 0 0,.slice .none 0 0,.slice (some ⟨c2,0,.none⟩) 4 4]) from by kernel_rfl];refine sg0 ?_;refine zaV (P:=prog) (l:=[vi 1,.slice .none 0 0,.slice .none 0 0,.slice .none 0 0,.slice (some ⟨c2,0,.none⟩) 4 4]) rfl (λ v h=>by simp at h;rcases h with rfl|rfl|rfl|rfl|rfl<;>first|rfl|assumption) rfl rfl ?_;intro x3 e3 s3 b3;obtain⟨c3,hc3⟩:∃c,x2.heap.size=c:=⟨_,rfl⟩;rw[hc3]at b3 ⊢;refine sg0 ?_;apply hK;refine rqz ?_;intro gd K hgd hK;refine sg0 ?_;refine zbK (z:=vs []) (l:=[vs [98],vs [111]]) rfl rfl rfl rfl rfl rfl (λ v hv=>by simp at hv;rcases hv with rfl|rfl<;>rfl) sM ?_;intro x4 e4 s4 o4;obtain⟨c4,hc4⟩:∃c,x3.heap.size=c:=⟨_,rfl⟩;rw[hc4]at o4 ⊢;have r4:Row x4 (.slice (some ⟨c4,0,.none⟩) 2 2) (kH.map vs):=o4.row;refine sg0 ?_;apply hK;refine rqz ?_;intro gd K hgd hK;refine sg0 ?_
 refine zbK (z:=vs []) (l:=[vs [111]]) rfl rfl rfl rfl rfl rfl (λ v hv=>by simp at hv;rcases hv with rfl<;>rfl) sM ?_;intro x5 e5 s5 o5;obtain⟨c5,hc5⟩:∃c,x4.heap.size=c:=⟨_,rfl⟩;rw[hc5]at o5 ⊢;have r5:Row x5 (.slice (some ⟨c5,0,.none⟩) 1 1) (([[111]]:Nm).map vs):=o5.row;refine sg0 ?_;refine zbK (z:= .slice .none 0 0) (l:=[.slice (some ⟨c4,0,.none⟩) 2 2]) rfl rfl rfl rfl rfl rfl (λ v hv=>by simp at hv;rcases hv with rfl<;>rfl) sM ?_;intro x6 e6 s6 o6;obtain⟨c6,hc6⟩:∃c,x5.heap.size=c:=⟨_,rfl⟩;rw[hc6]at o6 ⊢;have r6:=o6.row;refine sg0 ?_;refine⟨by kernel_rfl,?_⟩;rw[show bdV prog 97 [(0,vi 2),(1,.slice (some ⟨c6,0,.none⟩) 1 1)]=some (.agg #[vi 2,.slice (some ⟨c6,0,.none⟩) 1 1,.slice .none 0 0,.slice .none 0 0,.slice .none 0 0]) from by kernel_rfl];refine sg0 ?_;refine⟨by kernel_rfl,?_⟩;rw[show bdV prog 101 [(0,.slice (some ⟨c5,0,.none⟩) 1 1),(2,.agg #[vi 2,.slice (some ⟨c6,0,.none⟩) 1 1,.slice .none 0 0,.slice .none 0 0,.slice .none 0 0])]=some (.agg #[.slice (some ⟨c5,0,.none⟩) 1 1,v32 0,vi 2,.slice (some ⟨c6,0,.none⟩) 1 1,.slice .none 0 0,.slice .none 0 0,.slice .none 0 0]) from by kernel_rfl];have q3:=zac ((e4.trans e5).trans e6) (zah (n:=5) (l:=[vi 1,.slice .none 0 0,.slice .none 0 0,.slice .none 0 0,.slice (some ⟨c2,0,.none⟩) 4 4]) b3 rfl);refine sgz q3 ?_;refine⟨by kernel_rfl,?_⟩
 rw[show bdV prog 101 [(0,.slice (some ⟨c4,0,.none⟩) 2 2),(2,.agg #[vi 1,.slice .none 0 0,.slice .none 0 0,.slice .none 0 0,.slice (some ⟨c2,0,.none⟩) 4 4])]=some (.agg #[.slice (some ⟨c4,0,.none⟩) 2 2,v32 0,vi 1,.slice .none 0 0,.slice .none 0 0,.slice .none 0 0,.slice (some ⟨c2,0,.none⟩) 4 4]) from by kernel_rfl];refine sg0 ?_;refine zji (e:=101) (arr:=#[.slice (some ⟨c5,0,.none⟩) 1 1,v32 0,vi 2,.slice (some ⟨c6,0,.none⟩) 1 1,.slice .none 0 0,.slice .none 0 0,.slice .none 0 0,.slice (some ⟨c4,0,.none⟩) 2 2,v32 0,vi 1,.slice .none 0 0,.slice .none 0 0,.slice .none 0 0,.slice (some ⟨c2,0,.none⟩) 4 4]) kR ?_;intro x7 e7 s7 b7;obtain⟨c7,hc7⟩:∃c,x6.heap.size=c:=⟨_,rfl⟩;rw[hc7]at b7 ⊢;refine sg0 ?_;have hrows:Rows 7 (RecAt x7) x7 (.slice (some ⟨c7,0,.none⟩) kR1.length 2) kR1:=by
  refine Rows.close (by decide) (λ i hi=>?_);have hi5:i=0\/i=1:=by
   have h5:i<2:=hi;omega
  rcases hi5 with rfl|rfl
  ·exact⟨_,by rw[zaY];exact zaK b7 (ybv rfl),⟨_,_,rfl,r5.ext (e6.trans e7),⟨_,_,_,_,rfl,zm6 (r6.ext e7) (r4.ext ((e5.trans e6).trans e7)),zbb _,zbb _,zbb _⟩⟩⟩
  ·exact⟨_,by rw[zaY];exact zaK b7 (ybv rfl),⟨_,_,rfl,r4.ext ((e5.trans e6).trans e7),⟨_,_,_,_,rfl,ziK _,zbb _,zbb _,r2.ext ((((e3.trans e4).trans e5).trans e6).trans e7)⟩⟩⟩
 refine yfm (zn2 (o:=[]) (Keep.refl _ x7) (zbb _) hrows (zhZ kG1 kN1) (by decide)) ?_;rintro _ x8 ⟨e8,cv,rfl,hcv⟩;rw[kC1]at hcv;have hcv1:=hcv.isOne;refine sg0 ?_;refine zaV (P:=prog) (l:=[.slice .none 0 0,cv]) rfl (λ v h=>by simp at h;rcases h with rfl|rfl<;>first|rfl|assumption) rfl rfl ?_;intro x9 e9 s9 b9;obtain⟨c9,hc9⟩:∃c,x8.heap.size=c:=⟨_,rfl⟩;rw[hc9]at b9 ⊢;refine sg0 ?_;apply hK;refine rqz ?_;intro gd K hgd hK;refine sg0 ?_;refine zbK (z:=vs []) (l:=[vs [111]]) rfl rfl rfl rfl rfl rfl (λ v hv=>by simp at hv;rcases hv with rfl<;>rfl) sM ?_;intro x10 e10 s10 o10;obtain⟨c10,hc10⟩:∃c,x9.heap.size=c:=⟨_,rfl⟩;rw[hc10]at o10 ⊢;have r10:Row x10 (.slice (some ⟨c10,0,.none⟩) 1 1) (([[111]]:Nm).map vs):=o10.row;refine sg0 ?_;refine zbK (z:=vs []) (l:=[vs [120],vs [111]]) rfl rfl rfl rfl rfl rfl (λ v hv=>by simp at hv;rcases hv with rfl|rfl<;>rfl) sM ?_;intro x11 e11 s11 o11;obtain⟨c11,hc11⟩:∃c,x10.heap.size=c:=⟨_,rfl⟩;rw[hc11]at o11 ⊢;have r11:Row x11 (.slice (some ⟨c11,0,.none⟩) 2 2) (kX.map vs):=o11.row;have q11:=zac (((((((e4.trans e5).trans e6).trans e7).trans e8).trans e9).trans e10).trans e11) (zah (n:=5) (l:=[vi 1,.slice .none 0 0,.slice .none 0 0,.slice .none 0 0,.slice (some ⟨c2,0,.none⟩) 4 4]) b3 rfl);refine sgz q11 ?_;refine⟨by kernel_rfl,?_⟩
 rw[show bdV prog 101 [(0,.slice (some ⟨c11,0,.none⟩) 2 2),(2,.agg #[vi 1,.slice .none 0 0,.slice .none 0 0,.slice .none 0 0,.slice (some ⟨c2,0,.none⟩) 4 4])]=some (.agg #[.slice (some ⟨c11,0,.none⟩) 2 2,v32 0,vi 1,.slice .none 0 0,.slice .none 0 0,.slice .none 0 0,.slice (some ⟨c2,0,.none⟩) 4 4]) from by kernel_rfl];refine sg0 ?_;refine zji (e:=101) (arr:=#[.slice (some ⟨c11,0,.none⟩) 2 2,v32 0,vi 1,.slice .none 0 0,.slice .none 0 0,.slice .none 0 0,.slice (some ⟨c2,0,.none⟩) 4 4]) kR ?_;intro x12 e12 s12 b12;obtain⟨c12,hc12⟩:∃c,x11.heap.size=c:=⟨_,rfl⟩;rw[hc12]at b12 ⊢;refine sg0 ?_;have hrows2:Rows 7 (RecAt x12) x12 (.slice (some ⟨c12,0,.none⟩) kR2.length 1) kR2:=by
  refine Rows.close (by decide) (λ i hi=>?_);have hi5:i=0:=by
   have h5:i<1:=hi;omega
  subst hi5;exact⟨_,by rw[zaY];exact zaK b12 (ybv rfl),⟨_,_,rfl,r11.ext e12,⟨_,_,_,_,rfl,ziK _,zbb _,zbb _,r2.ext (((((((((e3.trans e4).trans e5).trans e6).trans e7).trans e8).trans e9).trans e10).trans e11).trans e12)⟩⟩⟩
 refine yfm (zn2 (o:=[[111]]) (Keep.refl _ x12) (r10.ext (e11.trans e12)) hrows2 (zhZ kG2 kN2) (by decide)) ?_;rintro _ x13 ⟨e13,cv2,rfl,hcv2⟩;rw[kC2]at hcv2;have hcv21:=hcv2.isOne;refine sg0 ?_;refine zaV (P:=prog) (l:=[.slice (some ⟨c10,0,.none⟩) 1 1,cv2]) rfl (λ v h=>by simp at h;rcases h with rfl|rfl<;>first|rfl|assumption) rfl rfl ?_;intro x14 e14 s14 b14;obtain⟨c14,hc14⟩:∃c,x13.heap.size=c:=⟨_,rfl⟩;rw[hc14]at b14 ⊢;refine sg0 ?_;apply hK;refine rqz ?_;intro gd K hgd hK;refine sg0 ?_;refine zbK (z:=vs []) (l:=[vs [97]]) rfl rfl rfl rfl rfl rfl (λ v hv=>by simp at hv;rcases hv with rfl<;>rfl) sM ?_;intro x15 e15 s15 o15;obtain⟨c15,hc15⟩:∃c,x14.heap.size=c:=⟨_,rfl⟩;rw[hc15]at o15 ⊢;have r15:Row x15 (.slice (some ⟨c15,0,.none⟩) 1 1) (([[97]]:Nm).map vs):=o15.row;have z9:=zac (((((e10.trans e11).trans e12).trans e13).trans e14).trans e15) (zah (n:=2) (l:=[.slice .none 0 0,cv]) b9 rfl);refine sg0 ?_;refine⟨by kernel_rfl,?_⟩;rw[show bdV prog 47 [(0,.int .u8 10),(1,.int .u8 0),(2,.int .u8 0),(3,.int .u8 1)]=some (.agg #[zae 10,zae 0,zae 0,zae 1]) from by kernel_rfl];refine sgz z9 ?_;refine zji (e:=60) (arr:=#[.slice .none 0 0,cv]) kR ?_;intro x16 e16 s16 b16;obtain⟨c16,hc16⟩:∃c,x15.heap.size=c:=⟨_,rfl⟩;rw[hc16]at b16 ⊢;refine sg0 ?_;refine⟨by kernel_rfl,?_⟩
 rw[show bdV prog 50 [(0,.slice (some ⟨c15,0,.none⟩) 1 1),(1,.agg #[zae 10,zae 0,zae 0,zae 1]),(2,.slice (some ⟨c16,0,.none⟩) 1 1)]=some (.agg #[.slice (some ⟨c15,0,.none⟩) 1 1,zae 10,zae 0,zae 0,zae 1,.slice (some ⟨c16,0,.none⟩) 1 1]) from by kernel_rfl];refine sg0 ?_;refine⟨by kernel_rfl,?_⟩;rw[show bdV prog 47 [(0,.int .u8 10),(1,.int .u8 0),(2,.int .u8 0),(3,.int .u8 2)]=some (.agg #[zae 10,zae 0,zae 0,zae 2]) from by kernel_rfl];have z14:=zac (e15.trans e16) (zah (n:=2) (l:=[.slice (some ⟨c10,0,.none⟩) 1 1,cv2]) b14 rfl);refine sgz z14 ?_;refine zji (e:=60) (arr:=#[.slice (some ⟨c10,0,.none⟩) 1 1,cv2]) kR ?_;intro x17 e17 s17 b17;obtain⟨c17,hc17⟩:∃c,x16.heap.size=c:=⟨_,rfl⟩;rw[hc17]at b17 ⊢;refine sg0 ?_;refine⟨by kernel_rfl,?_⟩;rw[show bdV prog 50 [(0,.slice (some ⟨c4,0,.none⟩) 2 2),(1,.agg #[zae 10,zae 0,zae 0,zae 2]),(2,.slice (some ⟨c17,0,.none⟩) 1 1)]=some (.agg #[.slice (some ⟨c4,0,.none⟩) 2 2,zae 10,zae 0,zae 0,zae 2,.slice (some ⟨c17,0,.none⟩) 1 1]) from by kernel_rfl];refine sg0 ?_;refine zji (e:=50) (arr:=#[.slice (some ⟨c15,0,.none⟩) 1 1,zae 10,zae 0,zae 0,zae 1,.slice (some ⟨c16,0,.none⟩) 1 1,.slice (some ⟨c4,0,.none⟩) 2 2,zae 10,zae 0,zae 0,zae 2,.slice (some ⟨c17,0,.none⟩) 1 1]) kR ?_;intro x18 e18 s18 b18;obtain⟨c18,hc18⟩:∃c,x17.heap.size=c:=⟨_,rfl⟩;rw[hc18]at b18 ⊢;refine sg0 ?_
 refine zbK (z:=vi 0) (l:=[vi 0]) rfl rfl rfl rfl rfl rfl (λ v hv=>by simp at hv;rcases hv with rfl<;>rfl) sM ?_;intro x19 e19 s19 o19;obtain⟨c19,hc19⟩:∃c,x18.heap.size=c:=⟨_,rfl⟩;rw[hc19]at o19 ⊢;refine sg0 ?_;refine⟨by kernel_rfl,?_⟩;rw[show bdV prog 25 [(0,.slice (some ⟨c18,0,.none⟩) 2 2),(1,.slice (some ⟨c19,0,.none⟩) 1 1),(2,vi 2),(3,vi 3)]=some (.agg #[.slice (some ⟨c18,0,.none⟩) 2 2,.slice (some ⟨c19,0,.none⟩) 1 1,vi 2,vi 3]) from by kernel_rfl];refine sg0 ?_;obtain⟨c0,hc0⟩:∃c,x0.heap.size=c:=⟨_,rfl⟩;have hR19:=Ext.at (((((((((((((((((e2.trans e3).trans e4).trans e5).trans e6).trans e7).trans e8).trans e9).trans e10).trans e11).trans e12).trans e13).trans e14).trans e15).trans e16).trans e17).trans e18).trans e19) hR0;rw[hc0]at hR19 s1 ⊢;refine zaL (P:=prog) (t:=25) (l:=[.slice (some ⟨c18,0,.none⟩) 2 2,.slice (some ⟨c19,0,.none⟩) 1 1,vi 2,vi 3]) hR19 rfl (λ v h=>by simp at h;rcases h with rfl|rfl|rfl|rfl<;>rfl) rfl rfl ?_;intro z sz bz kz;refine sg0 ?_;refine en hK ?_;refine zau (.inr rfl) ntmps16 rfl (za0 (x:=⟨c0,0,.none⟩) (k:=4) vq0 rfl rfl (zah bz rfl) zas) ?_;have hZ:Zero (λ b=>b=c0) x19:=λ a u hs hu=>by
  obtain⟨b,of,sp⟩:=a
  dsimp only at hs
  subst hs;have hsp:sp= .none:=by
   cases sp with
   |none=>rfl
   |some q=>simp[World.cell?,hR19]at hu
  subst hsp;have h2:=zaM hR19 of;rw[hu]at h2
  match of,h2 with
  |0,h2=>exact .inl (Option.some.inj h2)
  |1,h2=>exact .inl (Option.some.inj h2)
  |2,h2=>exact .inr ⟨0,Option.some.inj h2⟩
  |3,h2=>exact .inr ⟨0,Option.some.inj h2⟩
  |n+4,h2=>simp at h2
 have hEz:Ext x0 z:=ykt ((((((((((((((((((e1.trans e2).trans e3).trans e4).trans e5).trans e6).trans e7).trans e8).trans e9).trans e10).trans e11).trans e12).trans e13).trans e14).trans e15).trans e16).trans e17).trans e18).trans e19) rfl (λ b hb=>oM) kz;refine⟨hEz,_,rfl,?_⟩;have lz:∀{k:Nat} {O:Obj},x19.heap[k]? =some O->k≠c0->z.heap[k]? =some O:=λ h hk=>(kz.block _ (yaa.1 h).1 hk).trans h;have hsz:c0<c2/\c2<x19.heap.size/\c2<c4/\c4<c9/\c9<c10/\c10<c14/\c14<c15/\c15<c16/\c16<c17/\c17<c18/\c18<c19/\c19<x19.heap.size:=by
  have:=e2.size;have:=e3.size;have:=e4.size;have:=e5.size;have:=e6.size;have:=e7.size;have:=e8.size;have:=e9.size;have:=e10.size;have:=e11.size;have:=e12.size;have:=e13.size;have:=e14.size;have:=e15.size;have:=e16.size;have:=e17.size;have:=e18.size;have:=e19.size;omega
 have rz:∀{l:List Value} {c n:Nat},Row x19 (.slice (some ⟨c,0,.none⟩) n n) l->c0<c->c<x19.heap.size->Row z (.slice (some ⟨c,0,.none⟩) n n) l:=λ h hk hb=>h.blocks λ a n2 c2 hv=>by
  injection hv with h1 _ _
  injection h1 with h1
  rw[←h1];exact kz.block _ hb (by dsimp only;omega)
 have hq1:Rows 7 (RecAt z) z cv kR1:=Recs.keepV (r:=⟨[[111]],0,kNd⟩) (R:=[⟨kH,0,kAd⟩]) (Rows.extC (λ _ _ h=>RecAt.ext h ((((((((((e9.trans e10).trans e11).trans e12).trans e13).trans e14).trans e15).trans e16).trans e17).trans e18).trans e19)) (RecAt.up hcv e8) ((((((((((e9.trans e10).trans e11).trans e12).trans e13).trans e14).trans e15).trans e16).trans e17).trans e18).trans e19)) kz hZ (λ q hq n hn=>by
  simp only[yay,ybn,or_false]at hq;rcases hq with rfl|rfl
  ·simp only[kNd,yae]at hn;subst hn;decide
  ·cases hn)
 have hq2:Rows 7 (RecAt z) z cv2 kR2:=Recs.keepV (r:=⟨kX,0,kAd⟩) (R:=[]) (Rows.extC (λ _ _ h=>RecAt.ext h (((((e14.trans e15).trans e16).trans e17).trans e18).trans e19)) (RecAt.up hcv2 e13) (((((e14.trans e15).trans e16).trans e17).trans e18).trans e19)) kz hZ (λ q hq n hn=>by
  simp only[yay,ybn,or_false]at hq;subst hq;cases hn)
 have h16:Rows 2 (ZoneC z) z (.slice (some ⟨c16,0,.none⟩) ([⟨[],kR1⟩]:List zcr).length 1) [⟨[],kR1⟩]:=by
  refine Rows.close (by decide) (λ j hj=>?_);have hj0:j=0:=by
   have h5:j<1:=hj;omega
  subst hj0;exact⟨_,by rw[zaY];exact zaK (lz (Ext.at ((e17.trans e18).trans e19) b16) oM) (ybv rfl),⟨_,_,rfl,zbb _,hq1⟩⟩
 have h17:Rows 2 (ZoneC z) z (.slice (some ⟨c17,0,.none⟩) ([⟨[[111]],kR2⟩]:List zcr).length 1) [⟨[[111]],kR2⟩]:=by
  refine Rows.close (by decide) (λ j hj=>?_);have hj0:j=0:=by
   have h5:j<1:=hj;omega
  subst hj0;exact⟨_,by rw[zaY];exact zaK (lz (Ext.at (e18.trans e19) b17) oM) (ybv rfl),⟨_,_,rfl,rz (r10.ext ((((((((e11.trans e12).trans e13).trans e14).trans e15).trans e16).trans e17).trans e18).trans e19)) oM oM,hq2⟩⟩
 have h18:Rows 6 (HostC z) z (.slice (some ⟨c18,0,.none⟩) smallN.hosts.length 2) smallN.hosts:=by
  refine Rows.close (by decide) (λ i hi=>?_);have hi2:i=0\/i=1:=by
   have h5:i<2:=hi;omega
  rcases hi2 with rfl|rfl
  ·exact⟨_,by rw[zaY];exact zaK (lz (Ext.at e19 b18) oM) (ybv rfl),⟨_,_,_,_,_,_,rfl,rfl,rz (r15.ext (((e16.trans e17).trans e18).trans e19)) oM oM,h16⟩⟩
  ·exact⟨_,by rw[zaY];exact zaK (lz (Ext.at e19 b18) oM) (ybv rfl),⟨_,_,_,_,_,_,rfl,rfl,rz (r4.ext ((((((((((((((e5.trans e6).trans e7).trans e8).trans e9).trans e10).trans e11).trans e12).trans e13).trans e14).trans e15).trans e16).trans e17).trans e18).trans e19)) oM oM,h17⟩⟩
 exact⟨_,_,rfl,h18,rz (o19.row) oM oM⟩
end Go.Proofs.YtfacfpcopcgbdaaGreat
