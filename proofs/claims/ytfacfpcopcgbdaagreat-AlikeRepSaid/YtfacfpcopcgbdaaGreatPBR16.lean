/-
  Texts of a proof, joined.
  Conditions: none.
-/
import Derived.Test.YtfacfpcopcgbdaaGreatRows
import Derived.JoinedOf
import Derived.Laws.IdiomArrays
import Derived.ChangeMaps5
import Derived.Test.YtfacfpcopcgbdaaGreatPBR15
set_option linter.all false
set_option maxRecDepth 20000
set_option maxHeartbeats 8000000
namespace Go.Proofs.YtfacfpcopcgbdaaGreat
open Go Go.Proofs.Tryz
variable {w w0 w1 W0 x A:World}{v u lv nv:Value}{cs l:List Value}{B k b i j c m cap:Nat}{t e:TypeId}{a:Option Addr}{S C:Nat->Prop}{q n o:Nm}{N:NetL}
namespace alikeRep
theorem j1:(Rows.alikeRepRow.inPlace==Tryz.pinned.checked.prog.inPlace 4)=true:=by kernel_rfl
theorem j2:(Rows.alikeRepRow.unfollowed==Tryz.pinned.checked.prog.unfollowed 4)=true:=by kernel_rfl
theorem j3:(Rows.alikeRepRow.recurses==Tryz.pinned.checked.prog.recurses 4)=true:=by kernel_rfl
theorem j4:(Rows.alikeRepRow.named==Tryz.pinned.checked.prog.varsNamed 4)=true:=by kernel_rfl
theorem j5:(Tryz.pinned.checked.prog.mayEnter)=true:=by kernel_rfl
theorem j6:(Rows.alikeRepRow.lifted==Tryz.pinned.checked.prog.liftsFinal)=true:=by kernel_rfl
theorem joined:joinedFacts Tryz.pinned.checked.prog 4 Tryz.f4 Rows.alikeRepSpec Rows.alikeRepRow=true:=by
 unfold joinedFacts;rw[j1,j2,j3,j4,j5,j6]
 kernel_rfl
end alikeRep
set_option maxRecDepth 100000
theorem zmA{α:Type}{C:List Value->α->Prop}{Q:α->Prop}{L:List (List Value)}(hL:RowK k w v L)(h:∀cs∈L,∃a,C cs a/\Q a):∃R:List α,Rows k C w v R/\∀a∈R,Q a:=by
 have:∀L:List (List Value),(∀cs∈L,∃a,C cs a/\Q a)->∃R:List α,L.length=R.length/\(∀i (h:i<L.length) (h':i<R.length),C L[i] R[i])/\∀a∈R,Q a:=λ L=>by
  induction L with
  |nil=>intro _;exact⟨[],rfl,λ i h=>by simp at h,λ r h=>by cases h⟩
  |cons cs L ih=>
   intro h;obtain⟨r,h1,h2⟩:=h cs (yal ..);obtain⟨R,a1,a2,a3⟩:=ih (λ x hx=>h x (yak _ hx));refine⟨r::R,by simp[a1],λ i a b=>?_,λ x hx=>?_⟩
   ·cases i with
    |zero=>exact h1
    |succ i=>exact a2 i (sU a) (sU b)
   ·rcases yay.1 hx with rfl|hx
    ·exact h2
    ·exact a3 x hx
 obtain⟨R,a1,a2,a3⟩:=this L h;exact⟨R,⟨L,hL,a1,a2⟩,a3⟩
section
variable {H : Type} {enc : TypeId × Value -> H} {w : World} {base : Nat} {sp : Nat -> Bool} {held : Bool}
theorem zhM{P:Program}{n:Nat}{c:Value}{x:DataW H×List MemPlace}(ht:P.underlying t=some (.int .u8))(h:DataW.trod enc P w base sp held n t [c]=some x):∃b:UInt8,c=zae b:=by
 obtain⟨m,h1,_,h2⟩:=DataW.trod_int ht h;have hb:=wf_u8 h2;obtain⟨k,rfl⟩:∃k:Nat,m=(k:Int):=⟨m.toNat,oM⟩;exact⟨UInt8.ofNat k,by rw[ybO h1,ze4 oM]⟩
theorem rd_addr{c0 c1 c2 c3:Value}{P:Program}(h:RdC enc P w base sp held t [c0,c1,c2,c3])(ht:P.underlying t=some (.array 4 e))(hc:P.cellsOf e=1)(he:P.underlying e=some (.int .u8)):
  ∃a b c d:UInt8,c0=zae a/\c1=zae b/\c2=zae c/\c3=zae d:=by
 obtain⟨n,x,h,_⟩:=h;obtain⟨_,_,_,_,_,_,h0,h1,h2,h3⟩:=Go.ChangeShapes.trod_array4 ht hc h;obtain⟨a,ha⟩:=zhM he h0;obtain⟨b,hb⟩:=zhM he h1;obtain⟨c,hc⟩:=zhM he h2;obtain⟨d,hd⟩:=zhM he h3;exact⟨a,b,c,d,ha,hb,hc,hd⟩
theorem rd_zone(h:RdC enc prog w base sp held 60 cs):∃z:zcr,ZoneC w cs z/\NumR z.recs:=by
 obtain⟨hl,hf⟩:=zeP h rfl;have hl2:cs.length=2:=hl
 match cs,hl2 with
 | [c0,c1],_=>
  obtain⟨o,n0,_⟩:=zfg (P:=prog) (RdC.one (hf 0 _ rfl)) (e:=9) rfl rfl rfl rfl;obtain⟨R,h1,h2⟩:=rd_recs (RdC.one (hf 1 _ rfl));exact⟨⟨o,R⟩,⟨c0,c1,rfl,n0,h1⟩,h2⟩
theorem rd_host(h:RdC enc prog w base sp held 50 cs):∃z:zd5,HostC w cs z/\∀x∈z.zones,NumR x.recs:=by
 obtain⟨hl,hf⟩:=zeP h rfl;have hl6:cs.length=6:=hl
 match cs,hl6 with
 | [c0,c1,c2,c3,c4,c5],_=>
  obtain⟨o,n0,_⟩:=zfg (P:=prog) (RdC.one (hf 0 _ rfl)) (e:=9) rfl rfl rfl rfl;have h1:RdC enc prog w base sp held 47 [c1,c2,c3,c4]:=hf 1 _ rfl;obtain⟨a,b,c,d,rfl,rfl,rfl,rfl⟩:=rd_addr h1 rfl rfl (e:=5) rfl;have h5:RdC enc prog w base sp held 48 [c5]:=hf 2 _ rfl;obtain⟨L,hL,hall,_⟩:=zgk (RdC.one h5) (e:=60) (k:=2) rfl rfl;obtain⟨R,r1,r2⟩:=zmA hL (λ cs hcs=>rd_zone (hall cs hcs));exact⟨⟨o,[a,b,c,d],R⟩,⟨c0,a,b,c,d,c5,rfl,rfl,n0,r1⟩,r2⟩
theorem rd_net(h:RdC enc prog w base sp held 25 cs):∃N:NetL,NetAt w cs N/\NumN N:=by
 obtain⟨hl,hf⟩:=zeP h rfl;have hl4:cs.length=4:=hl
 match cs,hl4 with
 | [c0,c1,c2,c3],_=>
  obtain⟨L,hL,hall,_⟩:=zgk (RdC.one (hf 0 _ rfl)) (e:=50) (k:=6) rfl rfl;obtain⟨R,r1,r2⟩:=zmA hL (λ cs hcs=>rd_host (hall cs hcs));obtain⟨roots,n2,_⟩:=zjJ (RdC.one (hf 1 _ rfl)) (e:=3) (k:= .i64) rfl rfl rfl;obtain⟨a,e2,_⟩:=ziz (hf 2 _ rfl) (k:= .i64) rfl;obtain⟨b,e3,_⟩:=ziz (hf 3 _ rfl) (k:= .i64) rfl;have e2':c2=vi a:=ybO (show [c2]=[vi a] from e2);have e3':c3=vi b:=ybO (show [c3]=[vi b] from e3);exact⟨⟨R,roots,a,b⟩,⟨c0,c1,by rw[e2',e3'],r1,n2⟩,r2⟩
end
theorem zjI{H:Type}{enc:TypeId×Value->H}{P:Program}{w:World}{base:Nat}{sp:Nat->Bool}{held:Bool}{t:TypeId}{cs:Array Value}{d:DataW H}{p:List MemPlace}{ts:List TypeId}{ds:List (DataW H)}(h:DataW.Trod enc P w base sp held t (.agg cs) d p)
  (hw:∀x∈DataW.weightsEach P ts ds,x<=reachBytes) {j:Nat} (ht:ts[j]? =some t) (hd:ds[j]? =some d):RdC enc P w base sp held t cs.toList:=by
 obtain⟨n,h⟩:=h;exact⟨n,_,h,λ k hk=>hw k (DataW.weights_mem_each ht hd k hk)⟩
end Go.Proofs.YtfacfpcopcgbdaaGreat
namespace Go.Proofs.YtfacfpcopcgbdaaGreat
open Go Go.Proofs.Tryz Go.Proofs.YtfacfpcopcgbdaaGreat Go.ChangeShapes Go.WideShapes Go.ChangeAt Go.RowKit
variable {w w0 w1 W0 x A:World}{v u lv nv:Value}{cs l:List Value}{B k b i j c m cap:Nat}{t e:TypeId}{a:Option Addr}{S C:Nat->Prop}{q n o:Nm}{N:NetL}
namespace alikeRep
theorem own:ownKnob prog.godebug=none:=by kernel_rfl
set_option maxRecDepth 100000 in
theorem lifted(os:Os)(started:os.Started)(H:Type)(enc:TypeId×Value->H):
  ReturnsInHanded {} Tryz.checked os 4 .any (Rows.alikeRepSpec.pre6 enc prog Tryz.f4 Rows.alikeRepRow.domain false) (Rows.alikeRepSpec.post enc prog Tryz.f4 false true false false):=by
 refine law_lift (C:=Tryz.checked) own started kR func4
  (ChangeSpec.witness6 (enc:=enc) (C:=Tryz.checked) false ⟨#[],#[.agg #[.slice .none 0 0,.slice .none 0 0,.int .i64 0,.int .i64 0],.slice .none 0 0,vs []],[]⟩ 8 kR kR kR kR) rfl ?_ (tb:=4) rfl rfl kR kR ?_
 ·intro ds hds
  match ds,hds with
  | [d0,d1,d2],_=>rfl
 ·intro W base args ds p hval hA0 hw0;have hA:DataW.TrodAll enc prog W 0 (λ _=>true) true [25,27,9] args ds p:=hA0;have hw:∀x∈DataW.weightsEach prog [25,27,9] ds,x<=reachBytes:=hw0;obtain⟨v0,vs0,d0,ds0,p0,q0,rfl,rfl,rfl,h0,r0⟩:=trodAll_cons hA;obtain⟨v1,vs1,d1,ds1,p1,q1,rfl,rfl,rfl,h1,r1⟩:=trodAll_cons r0;obtain⟨v2,vs2,d2,ds2,p2,q2,rfl,rfl,rfl,h2,r2⟩:=trodAll_cons r1;obtain⟨rfl,rfl,rfl⟩:=trodAll_nil r2;obtain⟨a0,rfl,_⟩:=okWide_struct rfl (hval 0 _ _ rfl rfl);obtain⟨x0,f0,g0⟩:=rd_net (zjI h0 hw (j:=0) rfl rfl);obtain⟨a1,n1,c1,rfl⟩:=okWide_slice (e:=9) rfl (hval 1 _ _ rfl rfl);obtain⟨x1,f1,g1⟩:=zfg (P:=prog) (zlo h1 rfl hw (j:=1) rfl rfl) (e:=9) rfl rfl rfl rfl;obtain⟨s2,rfl,_,_,f2⟩:=Go.ChangeMaps.open_string rfl (hval 2 _ _ rfl rfl) h2;exact zki (l:=s2.data.toList) W f0 g0 f1 g1
theorem over:Rows.alikeRepRow.holds Tryz.pinned (OpenSpec.ofChange Rows.alikeRepSpec):=
 OpenClaim.holds_of_wide 4 Tryz.f4 rfl rfl rfl rfl rfl rfl rfl ⟨rfl,rfl,rfl,rfl,rfl⟩ rfl rfl rfl rfl rfl kR func4 joined
  (of_decide_eq_true kR) (by unfold Func.isWrapper;first| (rw[if_pos (by decide+kernel)];kernel_rfl)| (rw[if_neg (by decide+kernel)];exact⟨rfl,rfl⟩))
  (λ os started H enc _=>lifted os started H enc)
theorem proved:Rows.AlikeRepSaid:=over
end alikeRep
end Go.Proofs.YtfacfpcopcgbdaaGreat
