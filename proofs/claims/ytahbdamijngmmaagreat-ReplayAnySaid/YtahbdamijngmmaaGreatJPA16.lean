/-
  Texts of a proof, joined: YPA, KR3, KR4, ZPA.
  Conditions: none.
-/
import Derived.Test.YtahbdamijngmmaaGreatRows
import Derived.JoinedOf
import Derived.Laws.IdiomArrays
import Derived.Test.YtahbdamijngmmaaGreatJPA09
import Derived.Test.YtahbdamijngmmaaGreatJPA08
import Derived.Test.YtahbdamijngmmaaGreatJPA07
import Derived.Test.YtahbdamijngmmaaGreatJPA14
import Derived.Test.YtahbdamijngmmaaGreatJPA15
set_option linter.unusedVariables false
set_option linter.unusedSimpArgs false
set_option linter.defProp false
set_option linter.unnecessarySimpa false
set_option maxHeartbeats 8000000
namespace Go.Proofs.YtahbdamijngmmaaGreat.replayAny
open Go Go.Proofs.YtahbdamijngmmaaGreat
theorem j1:(Rows.replayAnyRow.inPlace==Tryz.pinned.checked.prog.inPlace 11)=true:=by kernel_rfl
theorem j2:(Rows.replayAnyRow.unfollowed==Tryz.pinned.checked.prog.unfollowed 11)=true:=by kernel_rfl
theorem j3:(Rows.replayAnyRow.recurses==Tryz.pinned.checked.prog.recurses 11)=true:=by kernel_rfl
theorem j4:(Rows.replayAnyRow.named==Tryz.pinned.checked.prog.varsNamed 11)=true:=by kernel_rfl
theorem j5:(Tryz.pinned.checked.prog.mayEnter)=true:=by kernel_rfl
theorem j6:(Rows.replayAnyRow.lifted==Tryz.pinned.checked.prog.liftsFinal)=true:=by kernel_rfl
theorem joined:joinedFacts Tryz.pinned.checked.prog 11 Tryz.f11 Rows.replayAnySpec Rows.replayAnyRow=true:=by
 unfold joinedFacts
 rw[j1,j2,j3,j4,j5,j6]
 kernel_rfl
end Go.Proofs.YtahbdamijngmmaaGreat.replayAny
namespace Go.Proofs.YtahbdamijngmmaaGreat
open Go
set_option maxRecDepth 100000
theorem zkZ{w:World}{α:Type}{k:Nat}{C:List Value->α->Prop}{Q:α->Prop}{v:Value}{L:List (List Value)}(hL:RowK k w v L)(h:∀cs∈L,∃a,C cs a/\Q a):∃R:List α,Rows k C w v R/\∀a∈R,Q a:=by
 have:∀L:List (List Value),(∀cs∈L,∃a,C cs a/\Q a)->∃R:List α,L.length=R.length/\(∀i (h:i<L.length) (h':i<R.length),C L[i] R[i])/\∀a∈R,Q a:=fun L=>by
  induction L with
  |nil=>intro _;exact⟨[],rfl,fun i h=>by simp at h,fun r h=>by cases h⟩
  |cons cs L ih=>
   intro h;obtain⟨r,h1,h2⟩:=h cs (List.mem_cons_self ..);obtain⟨R,a1,a2,a3⟩:=ih (fun x hx=>h x (List.mem_cons_of_mem _ hx));refine⟨r::R,by simp[a1],fun i a b=>?_,fun x hx=>?_⟩
   ·cases i with
    |zero=>exact h1
    |succ i=>exact a2 i (by simpa using a) (by simpa using b)
   ·rcases List.mem_cons.1 hx with rfl|hx
    ·exact h2
    ·exact a3 x hx
 obtain⟨R,a1,a2,a3⟩:=this L h;exact⟨R,⟨L,hL,a1,a2⟩,a3⟩
section
variable {H : Type} {enc : TypeId × Value -> H} {w : World} {base : Nat} {sp : Nat -> Bool} {held : Bool}
theorem zgK{P:Program}{t:TypeId}{n:Nat}{c:Value}{x:DataW H×List MemPlace}(ht:P.underlying t=some (.int .u8))(h:DataW.trod enc P w base sp held n t [c]=some x):∃b:UInt8,c=zaf b:=by
 obtain⟨m,h1,_,h2⟩:=DataW.trod_int ht h;have hb:=wf_u8 h2;obtain⟨k,rfl⟩:∃k:Nat,m=(k:Int):=⟨m.toNat,by omega⟩;exact⟨UInt8.ofNat k,by rw[List.head_eq_of_cons_eq h1,zcx (by omega)]⟩
theorem rd_addr{t e:TypeId}{c0 c1 c2 c3:Value}{P:Program}(h:RdC enc P w base sp held t [c0,c1,c2,c3])(ht:P.underlying t=some (.array 4 e))(hc:P.cellsOf e=1)(he:P.underlying e=some (.int .u8)):
  ∃a b c d:UInt8,c0=zaf a/\c1=zaf b/\c2=zaf c/\c3=zaf d:=by
 obtain⟨n,x,h,_⟩:=h;obtain⟨_,_,_,_,_,_,h0,h1,h2,h3⟩:=Go.ChangeShapes.trod_array4 ht hc h;obtain⟨a,ha⟩:=zgK he h0;obtain⟨b,hb⟩:=zgK he h1;obtain⟨c,hc⟩:=zgK he h2;obtain⟨d,hd⟩:=zgK he h3;exact⟨a,b,c,d,ha,hb,hc,hd⟩
theorem rd_zone{cs:List Value}(h:RdC enc Tryz.prog w base sp held 122 cs):∃z:zcp,ZoneC w cs z/\NumR z.recs:=by
 obtain⟨hl,hf⟩:=zdv h rfl;have hl2:cs.length=2:=hl
 match cs,hl2 with
 | [c0,c1],_=>
  obtain⟨o,n0,_⟩:=zep (P:=Tryz.prog) (RdC.one (hf 0 _ rfl)) (e:=9) rfl rfl rfl rfl;obtain⟨R,h1,h2⟩:=rd_recs (RdC.one (hf 1 _ rfl));exact⟨⟨o,R⟩,⟨c0,c1,rfl,n0,h1⟩,h2⟩
theorem rd_host{cs:List Value}(h:RdC enc Tryz.prog w base sp held 116 cs):∃z:zem,HostC w cs z/\∀x∈z.zones,NumR x.recs:=by
 obtain⟨hl,hf⟩:=zdv h rfl;have hl6:cs.length=6:=hl
 match cs,hl6 with
 | [c0,c1,c2,c3,c4,c5],_=>
  obtain⟨o,n0,_⟩:=zep (P:=Tryz.prog) (RdC.one (hf 0 _ rfl)) (e:=9) rfl rfl rfl rfl;have h1:RdC enc Tryz.prog w base sp held 113 [c1,c2,c3,c4]:=hf 1 _ rfl;obtain⟨a,b,c,d,rfl,rfl,rfl,rfl⟩:=rd_addr h1 rfl rfl (e:=5) rfl;have h5:RdC enc Tryz.prog w base sp held 114 [c5]:=hf 2 _ rfl;obtain⟨L,hL,hall,_⟩:=zfq (RdC.one h5) (e:=122) (k:=2) rfl rfl;obtain⟨R,r1,r2⟩:=zkZ hL (fun cs hcs=>rd_zone (hall cs hcs));exact⟨⟨o,[a,b,c,d],R⟩,⟨c0,a,b,c,d,c5,rfl,rfl,n0,r1⟩,r2⟩
theorem rd_net{cs:List Value}(h:RdC enc Tryz.prog w base sp held 25 cs):∃N:NetL,NetAt w cs N/\NumN N:=by
 obtain⟨hl,hf⟩:=zdv h rfl;have hl4:cs.length=4:=hl
 match cs,hl4 with
 | [c0,c1,c2,c3],_=>
  obtain⟨L,hL,hall,_⟩:=zfq (RdC.one (hf 0 _ rfl)) (e:=116) (k:=6) rfl rfl;obtain⟨R,r1,r2⟩:=zkZ hL (fun cs hcs=>rd_host (hall cs hcs));obtain⟨roots,n2,_⟩:=zgJ (RdC.one (hf 1 _ rfl)) (e:=3) (k:= .i64) rfl rfl rfl;obtain⟨a,e2,_⟩:=zfr (hf 2 _ rfl) (k:= .i64) rfl;obtain⟨b,e3,_⟩:=zfr (hf 3 _ rfl) (k:= .i64) rfl;have e2':c2=vi a:=List.head_eq_of_cons_eq (show [c2]=[vi a] from e2);have e3':c3=vi b:=List.head_eq_of_cons_eq (show [c3]=[vi b] from e3);exact⟨⟨R,roots,a,b⟩,⟨c0,c1,by rw[e2',e3'],r1,n2⟩,r2⟩
end
theorem zfp{H:Type}{enc:TypeId×Value->H}{P:Program}{w:World}{base:Nat}{sp:Nat->Bool}{held:Bool}{t:TypeId}{cs:Array Value}{d:DataW H}{p:List MemPlace}{ts:List TypeId}{ds:List (DataW H)}(h:DataW.Trod enc P w base sp held t (.agg cs) d p)
  (hw:∀x∈DataW.weightsEach P ts ds,x<=reachBytes) {j:Nat} (ht:ts[j]? =some t) (hd:ds[j]? =some d):RdC enc P w base sp held t cs.toList:=by
 obtain⟨n,h⟩:=h;exact⟨n,_,h,fun k hk=>hw k (DataW.weights_mem_each ht hd k hk)⟩
end Go.Proofs.YtahbdamijngmmaaGreat
namespace Go.Proofs.YtahbdamijngmmaaGreat
open Go Go.ChangeShapes Go.WideShapes Go.ChangeAt Go.RowKit
set_option maxRecDepth 100000
section
variable {H : Type} {enc : TypeId × Value -> H} {w : World} {base : Nat} {sp : Nat -> Bool} {held : Bool}
theorem rd_seen{cs:List Value}(h:RdC enc Tryz.prog w base sp held 98 cs):∃s:zeE,SeenC w cs s:=by
 obtain⟨hl,hf⟩:=zdv h rfl
 have hl4:cs.length=4:=hl
 match cs,hl4 with
 | [c0,c1,c2,c3],_=>
  obtain⟨a,e0,_⟩:=zfr (hf 0 _ rfl) (k:= .i64) rfl
  obtain⟨o,n1,_⟩:=zep (P:=Tryz.prog) (RdC.one (hf 1 _ rfl)) (e:=9) rfl rfl rfl rfl
  obtain⟨b,e2,_⟩:=zfr (hf 2 _ rfl) (k:= .i64) rfl
  obtain⟨l,n3,_⟩:=zgJ (P:=Tryz.prog) (RdC.one (hf 3 _ rfl)) (e:=3) rfl rfl rfl
  have e0':c0=vi a:=List.head_eq_of_cons_eq (show [c0]=[vi a] from e0)
  have e2':c2=vi b:=List.head_eq_of_cons_eq (show [c2]=[vi b] from e2)
  exact⟨⟨a,o,b,l⟩,⟨c1,c3,by rw[e0',e2'],n1,n3⟩⟩
end
end Go.Proofs.YtahbdamijngmmaaGreat
namespace Go.Proofs.YtahbdamijngmmaaGreat.replayAny
open Go Go.Proofs.YtahbdamijngmmaaGreat Go.ChangeShapes Go.WideShapes Go.ChangeAt Go.RowKit
theorem own:ownKnob Tryz.prog.godebug=none:=by kernel_rfl
set_option maxRecDepth 100000 in
theorem lifted(os:Os)(started:os.Started)(H:Type)(enc:TypeId×Value->H):
  ReturnsInHanded {} Tryz.checked os 11 .any (Rows.replayAnySpec.pre6 enc Tryz.prog Tryz.f11 Rows.replayAnyRow.domain false) (Rows.replayAnySpec.post enc Tryz.prog Tryz.f11 false true false false):=by
 refine law_lift (C:=Tryz.checked) own started (by kernel_rfl) Tryz.func11
  (ChangeSpec.witness6 (enc:=enc) (C:=Tryz.checked) false ⟨#[],#[.agg #[.slice Option.none 0 0,.slice Option.none 0 0,.int .i64 0,.int .i64 0],.agg #[.int .i64 0,.slice Option.none 0 0,.int .i64 0,.slice Option.none 0 0]],[]⟩ 8 (by kernel_rfl) (by kernel_rfl) (by kernel_rfl) (by kernel_rfl)) rfl ?_ (tb:=4) rfl rfl (by kernel_rfl) (by kernel_rfl) ?_
 ·intro ds hds
  match ds,hds with
  | [d0,d1],_=>rfl
 ·intro W base args ds p hval hA0 hw0
  have hA:DataW.TrodAll enc Tryz.prog W 0 (fun _=>true) true [25,98] args ds p:=hA0
  have hw:∀x∈DataW.weightsEach Tryz.prog [25,98] ds,x<=reachBytes:=hw0
  obtain⟨v0,vs0,d0,ds0,p0,q0,rfl,rfl,rfl,h0,r0⟩:=trodAll_cons hA
  obtain⟨v1,vs1,d1,ds1,p1,q1,rfl,rfl,rfl,h1,r1⟩:=trodAll_cons r0
  obtain⟨rfl,rfl,rfl⟩:=trodAll_nil r1
  obtain⟨a0,rfl,_⟩:=okWide_struct rfl (hval 0 _ _ rfl rfl)
  obtain⟨x0,f0,g0⟩:=rd_net (zfp h0 hw (j:=0) rfl rfl)
  obtain⟨a1,rfl,_⟩:=okWide_struct rfl (hval 1 _ _ rfl rfl)
  obtain⟨x1,f1⟩:=rd_seen (zfp h1 hw (j:=1) rfl rfl)
  exact zh8 W f0 g0 f1
theorem over:Rows.replayAnyRow.holds Tryz.pinned (OpenSpec.ofChange Rows.replayAnySpec):=
 OpenClaim.holds_of_wide 11 Tryz.f11 rfl rfl rfl rfl rfl rfl rfl ⟨rfl,rfl,rfl,rfl,rfl⟩ rfl rfl rfl rfl rfl (by kernel_rfl) Tryz.func11 joined
  (of_decide_eq_true (by kernel_rfl)) (by unfold Func.isWrapper;first| (rw[if_pos (by decide+kernel)];kernel_rfl)| (rw[if_neg (by decide+kernel)];exact⟨rfl,rfl⟩))
  (fun os started H enc _=>lifted os started H enc)
theorem proved:Rows.ReplayAnySaid:=over
end Go.Proofs.YtahbdamijngmmaaGreat.replayAny
