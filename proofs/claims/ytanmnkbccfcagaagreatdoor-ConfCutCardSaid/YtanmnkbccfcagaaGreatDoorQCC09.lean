/-
  Texts of a proof, joined: YCC, KC3, GW, HX0, KR7, ZCC.
  Conditions: none.
-/
import Derived.Test.YtanmnkbccfcagaaGreatDoorRows
import Derived.JoinedOf
import Derived.Handed
import Derived.Test.YtanmnkbccfcagaaGreatDoorQCC03
import Derived.Stop.LaidErr
import Derived.Shelf.Vars
import Derived.MakeChecks
import Derived.Laws.IdiomArrays
import Derived.Test.YtanmnkbccfcagaaGreatDoorQCC06
import Derived.Test.YtanmnkbccfcagaaGreatDoorCards
import Derived.Test.YtanmnkbccfcagaaGreatDoorTie
import Derived.Lay
import Derived.SevenTiedAt
import Derived.ChangeMaps5
import Derived.Test.YtanmnkbccfcagaaGreatDoorQCC08
set_option linter.unusedVariables false
set_option linter.unusedSimpArgs false
set_option linter.defProp false
set_option linter.unnecessarySimpa false
set_option maxHeartbeats 8000000
namespace Go.Proofs.YtanmnkbccfcagaaGreatDoor.confCut
open Go Go.Proofs.YtanmnkbccfcagaaGreatDoor
theorem j1:(Rows.confCutRow.inPlace==Tryz.pinned.checked.prog.inPlace 12)=true:=by kernel_rfl
theorem j2:(Rows.confCutRow.unfollowed==Tryz.pinned.checked.prog.unfollowed 12)=true:=by kernel_rfl
theorem j3:(Rows.confCutRow.recurses==Tryz.pinned.checked.prog.recurses 12)=true:=by kernel_rfl
theorem j4:(Rows.confCutRow.named==Tryz.pinned.checked.prog.varsNamed 12)=true:=by kernel_rfl
theorem j5:(Tryz.pinned.checked.prog.mayEnter)=true:=by kernel_rfl
theorem j6:(Rows.confCutRow.lifted==Tryz.pinned.checked.prog.liftsFinal)=true:=by kernel_rfl
theorem joined:joinedFacts Tryz.pinned.checked.prog 12 Tryz.f12 Rows.confCutSpec Rows.confCutRow=true:=by
 unfold joinedFacts
 rw[j1,j2,j3,j4,j5,j6]
 kernel_rfl
end Go.Proofs.YtanmnkbccfcagaaGreatDoor.confCut
namespace Go.Proofs.YtanmnkbccfcagaaGreatDoor
open Go Go.ChangeShapes Go.WideShapes Go.ChangeAt Go.RowKit
theorem zh6{C:Checked}{os:Os}{f:FuncId}{fn:Func}{s:ChangeSpec}{conds:List PathCond}{apart fresh handsOn again:Bool}{H:Type}{enc:TypeId×Value→H}{X:World→Prop}
  (hX:∀(w w':World),w.heap=w'.heap→X w→X w')
  (own:ownKnob C.prog.godebug=none) (started:os.Started) (noInit:C.prog.inits.idxOf? f=none) (hfn:C.prog.funcs[f]? =some fn)
  (witness:∃(w:World) (tape:Tape) (i:Input),w.os=os∧(w.forCall tape i).Shaped C.prog∧i.vars=[]∧Input.okWide C.prog (w.forCall tape i) .any w.heap.size f i∧
   ((s.pre enc C.prog fn conds apart (w.forCall tape i).memory i.args∧X (w.forCall tape i).memory)∧sizedMet enc C.prog fn (OpenSpec.ofChange s) apart (w.forCall tape i).memory i.args)∧({}:Assume).holds C.prog (lone (Frame.enter C.prog f i.args .normal) [] (w.forCall tape i)))
  (hvn:s.vars=[]) (hspec:∀ds:List (DataW H),ds.length=fn.params.size→s.fn H ds={results:=[.lit (.bool true)],args:=ds}) {tb:TypeId} (hrt:fn.resultTypes=#[tb]) (htb:C.prog.underlying tb=some .bool)
  (hl:laidOutB C.prog=true) (hrd:fn.params.toList.all (fun t=>C.prog.readableRec t && decide (t<C.prog.types.size))=true)
  (walk:∀(W:World) (base:Nat) (args:List Value) (ds:List (DataW H)) (p:List MemPlace),X W→W.ShapedOpen C.prog→(∀(j:Nat) t v,fn.params[j]? =some t→args[j]? =some v→Value.okWide C.prog W .any base t v)→
   DataW.TrodAll enc C.prog W 0 (fun _=>true) true fn.params.toList args ds p→(∀x∈DataW.weightsEach C.prog fn.params.toList ds,x≤reachBytes)→Fn C.prog f args.toArray W (fun v W'=>v= .bool true∧Ext W W')):
  ReturnsInHanded {} C os f .any (fun w args=>(s.pre enc C.prog fn conds apart w args∧X w)∧sizedMet enc C.prog fn (OpenSpec.ofChange s) apart w args) (s.post enc C.prog fn apart fresh handsOn again):=by
 refine returnsInHanded_of_calls own started noInit witness ?_
 intro w tape i _ hsh _ hok hpre hholds
 obtain⟨_,_,_,fn',hfn',_,_,_,_,hval⟩:=hok
 have e:fn'=fn:=Option.some.inj (hfn'.symm.trans hfn)
 subst e
 obtain⟨⟨⟨ds,gs,before,hw,hc⟩,hx⟩,hz⟩:=hpre
 have hW:=DataW.Whole.of_heap (w':=w.forCall tape i) (by rfl) hw
 have hwt:(DataW.weightsEach C.prog (fn'.params.toList++s.plain.varTypes C.prog) (ds++gs)).all (·≤reachBytes)=true:=hz.weights hw
 have hXW:=hX _ (w.forCall tape i) (by rfl) hx
 obtain⟨W,hWe⟩:∃W,w.forCall tape i=W:=⟨_,rfl⟩
 rw[hWe]at hW hXW hsh hval ⊢
 refine Calls.mono (R:=fun e W'=>∃v,e= .returned v∧s.post enc C.prog fn' apart fresh handsOn again W i.args v W') ?_ (fun e W' ⟨v,he,hp⟩=>?_)
 rotate_left
 ·subst he
  exact ChangeSpec.post_blind hp
 obtain⟨args,hargs⟩:∃a,i.args=a:=⟨_,rfl⟩
 rw[hargs]at hval hW ⊢
 have hW0:=hW
 obtain⟨p,q,hA,hV,_⟩:=hW
 have hgs:gs=[]:=by
  rw[hvn]at hV
  cases gs with
  |nil=>rfl
  |cons _ _=>exact hV.elim
 subst hgs
 have hvt:s.plain.varTypes C.prog=[]:=by
  unfold DataSpec.varTypes
  rw[show s.plain.vars=[] from hvn];rfl
 rw[hvt,List.append_nil,List.append_nil]at hwt
 have hlen:∀{ts:List TypeId} {vs:List Value} {ds:List (DataW H)} {ps:List MemPlace},DataW.TrodAll enc C.prog W 0 (fun _=>true) true ts vs ds ps→ds.length=ts.length:=by
  intro ts
  induction ts with
  |nil=>intro vs ds ps h;obtain⟨rfl,rfl,rfl⟩:=trodAll_nil h;rfl
  |cons t ts ih=>
   intro vs ds ps h
   obtain⟨v,vs1,d,ds1,a,b,rfl,rfl,rfl,h1,h2⟩:=trodAll_cons h
   simp[ih h2]
 have hw:=walk W w.heap.size args.toList ds p hXW hsh (fun j t v h1 h2=>hval j t v h1 (by simpa using h2)) hA (fun x hx=>by simpa using (List.all_eq_true.1 hwt) x hx)
 rw[Array.toArray_toList]at hw
 refine Calls.mono (callsIn_wide.1 hw) ?_
 rintro e W' ⟨v,rfl,rfl,hE⟩
 refine⟨_,rfl,law_post hW0 hvn (hspec ds (by rw[hlen hA];simp)) hrt htb hl (fun t ht=>?_) hE⟩
 have:=(List.all_eq_true.1 hrd) t ht
 simpa using this
end Go.Proofs.YtanmnkbccfcagaaGreatDoor
namespace Go.Proofs.YtanmnkbccfcagaaGreatDoor
open Go
set_option maxRecDepth 100000
def bruijn64:List Int:=[0,1,56,2,57,49,28,3,61,58,42,50,38,29,17,4,62,47,59,36,45,43,51,22,53,39,33,30,24,18,12,5,63,55,48,27,60,41,37,16,46,35,44,21,52,32,23,11,54,26,40,15,34,20,31,10,25,14,19,9,13,8,7,6]
theorem zex{H:Type}{enc:TypeId×Value→H}{P:Program}{w:World}{base:Nat}{sp:Nat→Bool}{held:Bool}{fuel:Nat}{t:TypeId}{cs:List Value}{nm:String}{d:DataW H}{p:List MemPlace}{ms:Array (String×TypeId)}
  (ht:P.underlying t=some (.interface ms)) (h:DataW.trod enc P w base sp held fuel t cs=some (.iface nm d,p)):∃u v,cs=[.iface u v]:=by
 cases fuel with
 |zero=>simp[DataW.trod]at h
 |succ fuel=>
  simp only[DataW.trod,ht]at h
  split at h<;>first| (rename_i heq _;cases heq;done)| (cases h;done)|exact⟨_,_,rfl⟩|simp_all
theorem WX_of{W:World}{rest:List (String×DataW Unit)}(hsh:W.ShapedOpen Tryz.prog)(h:laidMet Tryz.prog ((Rows.genRangeRow.laid.take 5)++rest) W):WX W:=by
 have h1:=laidMet.tail h
 have h2:=laidMet.tail h1
 have h4:=laidMet.tail (laidMet.tail h2)
 have tz:=Lib.tabIs_of_head (g:=6) (t:=320) (e:=5) (n:=64) (k:= .u8) (zs:=bruijn64) (by kernel_rfl) (by kernel_rfl) (by kernel_rfl) (by kernel_rfl) (by kernel_rfl) (by kernel_rfl) h1
 have tp:=Lib.tabIs_of_head (g:=1) (t:=280) (e:=114) (n:=20) (k:= .u64) (zs:=Lib.pow10Tab) (by kernel_rfl) (by kernel_rfl) (by kernel_rfl) (by kernel_rfl) (by kernel_rfl) (by kernel_rfl) h2
 obtain⟨u,v,hv⟩:∃u v,W.cell? ⟨3,0,Option.none⟩=some (.iface u v):=by
  obtain⟨_,⟨g0,t0,cs0,f0,p0,q0,hg0,ht0,hv0,hd0,_,_⟩,_,_⟩:=h4
  obtain rfl:=Option.some.inj ((show Tryz.prog.globalNamed _=some 3 by kernel_rfl).symm.trans hg0)
  obtain rfl:=Option.some.inj ((show(Tryz.prog.globals[3]?).map (·.type)=some 108 by kernel_rfl).symm.trans ht0)
  obtain⟨u,v,hcs⟩:=zex Tryz.underlying108 hd0
  have e0:cs0=#[.iface u v]:=Array.toList_inj.1 (by simpa using hcs)
  exact⟨u,v,by rw[World.var?_cell hg0 hv0 0,e0];rfl⟩
 refine⟨cell_of_shapedOpen_int (t:=3) (zero:=#[.int .i64 0]) hsh (by decide+kernel) (by kernel_rfl) rfl (by kernel_rfl) (by kernel_rfl) (by kernel_rfl),?_,⟨u,v,hv⟩,⟨4,World.var?_cell (by kernel_rfl) tz 15,by decide,by decide⟩⟩
 have h3:=tp
 unfold Lib.TabIs World.var? at h3
 rw[show Tryz.prog.globalNamed _=some 1 from by kernel_rfl,Option.bind_some]at h3
 split at h3
 ·rename_i cs t fr hh
  injection h3 with h3
  exact⟨t,fr,by rw[hh,h3]⟩
 ·cases h3
def bruijnT:List Int:=[0,1,56,2,57,49,28,3,61,58,42,50,38,29,17,4,62,47,59,36,45,43,51,22,53,39,33,30,24,18,12,5,63,55,48,27,60,41,37,16,46,35,44,21,52,32,23,11,54,26,40,15,34,20,31,10,25,14,19,9,13,8,7,6]
theorem WY_of{W:World}{rest:List (String×DataW Unit)}(h:laidMet Tryz.prog ((Rows.printShortRow.laid.take 3)++rest) W):WY W:=by
 have h1:=laidMet.tail h
 have h2:=laidMet.tail h1
 have tz:=Lib.tabIs_of_head (g:=6) (t:=320) (e:=5) (n:=64) (k:= .u8) (zs:=bruijnT) (by kernel_rfl) (by kernel_rfl) (by kernel_rfl) (by kernel_rfl) (by kernel_rfl) (by kernel_rfl) h1
 have tp:=Lib.tabIs_of_head (g:=1) (t:=280) (e:=114) (n:=20) (k:= .u64) (zs:=Lib.pow10Tab) (by kernel_rfl) (by kernel_rfl) (by kernel_rfl) (by kernel_rfl) (by kernel_rfl) (by kernel_rfl) h2
 refine⟨?_,World.var?_cell (by kernel_rfl) tz 15⟩
 have h3:=tp
 unfold Lib.TabIs World.var? at h3
 rw[show Tryz.prog.globalNamed _=some 1 from by kernel_rfl,Option.bind_some]at h3
 split at h3
 ·rename_i cs t fr hh
  injection h3 with h3
  exact⟨t,fr,by rw[hh,h3]⟩
 ·cases h3
theorem zga{w:World}{α:Type}{k:Nat}{C:List Value→α→Prop}{v:Value}{L:List (List Value)}(hL:RowK k w v L)(h:∀cs∈L,∃a,C cs a):∃R:List α,Rows k C w v R:=by
 have:∀L:List (List Value),(∀cs∈L,∃a,C cs a)→∃R:List α,L.length=R.length∧(∀i (h:i<L.length) (h':i<R.length),C L[i] R[i]):=fun L=>by
  induction L with
  |nil=>intro _;exact⟨[],rfl,fun i h=>by simp at h⟩
  |cons cs L ih=>
   intro h
   obtain⟨r,h1⟩:=h cs (List.mem_cons_self ..)
   obtain⟨R,a1,a2⟩:=ih (fun x hx=>h x (List.mem_cons_of_mem _ hx))
   refine⟨r::R,by simp[a1],fun i a b=>?_⟩
   cases i with
   |zero=>exact h1
   |succ i=>exact a2 i (by simpa using a) (by simpa using b)
 obtain⟨R,a1,a2⟩:=this L h
 exact⟨R,L,hL,a1,a2⟩
section
variable {H : Type} {enc : TypeId × Value → H} {w : World} {base : Nat} {sp : Nat → Bool} {held : Bool}
theorem zdb{P:Program}{t:TypeId}{n:Nat}{c:Value}{x:DataW H×List MemPlace}(ht:P.underlying t=some (.int .u8))(h:DataW.trod enc P w base sp held n t [c]=some x):∃b:UInt8,c=zab b:=by
 obtain⟨m,h1,_,h2⟩:=DataW.trod_int ht h
 have hb:=wf_u86 h2
 obtain⟨k,rfl⟩:∃k:Nat,m=(k:Int):=⟨m.toNat,by omega⟩
 exact⟨UInt8.ofNat k,by rw[List.head_eq_of_cons_eq h1,zb8 (by omega)]⟩
theorem rd_addr7{t e:TypeId}{c0 c1 c2 c3:Value}{P:Program}(h:RdC enc P w base sp held t [c0,c1,c2,c3])(ht:P.underlying t=some (.array 4 e))(hc:P.cellsOf e=1)(he:P.underlying e=some (.int .u8)):
  ∃a b c d:UInt8,c0=zab a∧c1=zab b∧c2=zab c∧c3=zab d:=by
 obtain⟨n,x,h,_⟩:=h
 obtain⟨_,_,_,_,_,_,h0,h1,h2,h3⟩:=Go.ChangeShapes.trod_array4 ht hc h
 obtain⟨a,ha⟩:=zdb he h0
 obtain⟨b,hb⟩:=zdb he h1
 obtain⟨c,hc⟩:=zdb he h2
 obtain⟨d,hd⟩:=zdb he h3
 exact⟨a,b,c,d,ha,hb,hc,hd⟩
theorem rd_place{cs:List Value}(h:RdC enc Tryz.prog w base sp held 172 cs):∃z:za3,PlaceC w cs z:=by
 obtain⟨hl,hf⟩:=zem h rfl
 have hl2:cs.length=2:=hl
 match cs,hl2 with
 | [c0,c1],_=>
  obtain⟨o,n0,_⟩:=zhI (P:=Tryz.prog) (RdC.one (hf 0 _ rfl)) (e:=9) rfl rfl rfl rfl
  obtain⟨s,rfl,_⟩:=zeW (RdC.one (hf 1 _ rfl)) rfl
  exact⟨⟨o,s⟩,⟨c0,rfl,n0⟩⟩
theorem zhH{cs:List Value}(h:RdC enc Tryz.prog w base sp held 170 cs):∃z:SrvL,SrvC w cs z:=by
 obtain⟨hl,hf⟩:=zem h rfl
 have hl6:cs.length=6:=hl
 match cs,hl6 with
 | [c0,c1,c2,c3,c4,c5],_=>
  obtain⟨o,n0,_⟩:=zhI (P:=Tryz.prog) (RdC.one (hf 0 _ rfl)) (e:=9) rfl rfl rfl rfl
  have h1:RdC enc Tryz.prog w base sp held 167 [c1,c2,c3,c4]:=hf 1 _ rfl
  obtain⟨a,b,c,d,rfl,rfl,rfl,rfl⟩:=rd_addr7 h1 rfl rfl (e:=5) rfl
  have h5:RdC enc Tryz.prog w base sp held 168 [c5]:=hf 2 _ rfl
  obtain⟨L,hL,hall,_⟩:=zeX (RdC.one h5) (e:=172) (k:=2) rfl rfl
  obtain⟨R,r1⟩:=zga hL (fun cs hcs=>rd_place (hall cs hcs))
  exact⟨⟨o,[a,b,c,d],R⟩,⟨c0,a,b,c,d,c5,rfl,rfl,n0,r1⟩⟩
theorem rd_conf{cs:List Value}(h:RdC enc Tryz.prog w base sp held 83 cs):∃N:za4,ConfAt w cs N:=by
 obtain⟨hl,hf⟩:=zem h rfl
 have hl4:cs.length=4:=hl
 match cs,hl4 with
 | [c0,c1,c2,c3],_=>
  obtain⟨L,hL,hall,_⟩:=zeX (RdC.one (hf 0 _ rfl)) (e:=170) (k:=6) rfl rfl
  obtain⟨R,r1⟩:=zga hL (fun cs hcs=>zhH (hall cs hcs))
  obtain⟨roots,n2,_⟩:=rd_ints6 (RdC.one (hf 1 _ rfl)) (e:=3) (k:= .i64) rfl rfl rfl
  obtain⟨a,e2,_⟩:=zhJ (hf 2 _ rfl) (k:= .i64) rfl
  obtain⟨b,e3,_⟩:=zhJ (hf 3 _ rfl) (k:= .i64) rfl
  have e2':c2=vi a:=List.head_eq_of_cons_eq (show [c2]=[vi a] from e2)
  have e3':c3=vi b:=List.head_eq_of_cons_eq (show [c3]=[vi b] from e3)
  exact⟨⟨R,roots,a,b⟩,⟨c0,c1,by rw[e2',e3'],r1,n2⟩⟩
end
end Go.Proofs.YtanmnkbccfcagaaGreatDoor
namespace Go.Proofs.YtanmnkbccfcagaaGreatDoor.confCut
open Go Go.Proofs.YtanmnkbccfcagaaGreatDoor Go.ChangeShapes Go.WideShapes Go.ChangeAt Go.RowKit
theorem own:ownKnob Tryz.prog.godebug=none:=by kernel_rfl
set_option maxRecDepth 100000 in
theorem lifted(os:Os)(started:os.Started)(H:Type)(enc:TypeId×Value→H):
  ReturnsInHanded {} Tryz.checked os 12 .any (fun w args=>(Rows.confCutSpec.pre enc Tryz.prog Tryz.f12 Rows.confCutRow.domain false w args∧laidMetH Tryz.prog Rows.confCutRow.laid w)∧sizedMet enc Tryz.prog Tryz.f12 (OpenSpec.ofChange Rows.confCutSpec) false w args)
   (Rows.confCutSpec.post enc Tryz.prog Tryz.f12 false true false false):=by
 refine zh6 (C:=Tryz.checked) (X:=laidMetH Tryz.prog Rows.confCutRow.laid) (fun _ _ hh h=>h.of_heap hh) own started (by kernel_rfl) Tryz.func12
  (ChangeSpec.witness_shaped (enc:=enc) (C:=Tryz.checked) (os:=os) (X:=fun w _=>laidMetH Tryz.prog Rows.confCutRow.laid w) false (World.laidAll Tryz.prog os Rows.confCutRow.laid) #[.agg #[.slice Option.none 0 0,.slice Option.none 0 0,.int .i64 0,.int .i64 0],.int .u16 0] 8 (World.laidAll_os _ _ _)
   (World.shaped_of_ZipB (by kernel_rfl) (by kernel_rfl)) (by kernel_rfl) (by kernel_rfl) (by kernel_rfl)
   (by rw[MakeChecks.laidMetH_plain _ _ _ (by kernel_rfl)];exact laidMet_laidAll _ (by kernel_rfl) (by kernel_rfl))) rfl ?_ (tb:=4) rfl rfl (by kernel_rfl) (by kernel_rfl) ?_
 ·intro ds hds
  match ds,hds with
  | [d0,d1],_=>rfl
 ·intro W base args ds p hXW hsh hval hA0 hw0
  rw[MakeChecks.laidMetH_plain _ _ _ (by kernel_rfl)]at hXW
  have hX:WX W:=WX_of (rest:=Rows.confCutRow.laid.drop 5) hsh hXW
  have hY:WY W:=WY_of (rest:=Rows.confCutRow.laid.drop 3) hXW
  have hA:DataW.TrodAll enc Tryz.prog W 0 (fun _=>true) true [83,57] args ds p:=hA0
  have hw:∀x∈DataW.weightsEach Tryz.prog [83,57] ds,x≤reachBytes:=hw0
  obtain⟨v0,vs0,d0,ds0,p0,q0,rfl,rfl,rfl,h0,r0⟩:=trodAll_cons hA
  obtain⟨v1,vs1,d1,ds1,p1,q1,rfl,rfl,rfl,h1,r1⟩:=trodAll_cons r0
  obtain⟨rfl,rfl,rfl⟩:=trodAll_nil r1
  obtain⟨a0,rfl,_⟩:=okWide_struct rfl (hval 0 _ _ rfl rfl)
  obtain⟨x0,f0⟩:=rd_conf (rdc_of h0 hw (j:=0) rfl rfl)
  obtain⟨x1,rfl,_,_,f1⟩:=open_int (k:= .u16) rfl (hval 1 _ _ rfl rfl) h1
  obtain⟨b1,c1⟩:=bounds_u16 f1
  obtain⟨t1,rfl⟩:∃t:Nat,x1=(t:Int):=⟨x1.toNat,by omega⟩
  replace f1:t1<65536:=by omega
  exact zhn hX hY f0 f1
theorem over:Rows.confCutRow.holds Tryz.pinned (OpenSpec.ofChange Rows.confCutSpec):=
 OpenClaim.holds_of_wide 12 Tryz.f12 rfl rfl rfl rfl rfl rfl rfl ⟨rfl,rfl,rfl,rfl,rfl⟩ rfl rfl rfl rfl rfl (by kernel_rfl) Tryz.func12 joined
  (of_decide_eq_true (by kernel_rfl)) (by unfold Func.isWrapper;first| (rw[if_pos (by decide+kernel)];kernel_rfl)| (rw[if_neg (by decide+kernel)];exact⟨rfl,rfl⟩))
  (fun os started H enc _=>lifted os started H enc)
theorem proved:Rows.ConfCutCardSaid:=
 Claim7.holds_tied_plain_at .later [] [.data,.data,.data,.data,.sentinel,.sentinel,.pinned] true Rows.confCutCard.stood.harness true over (fun _ h=>by cases h) (by kernel_rfl) (fun _ h=>by cases h) confCut_row_tie rfl ⟨rfl,rfl⟩ (by kernel_rfl) rfl
  (fun f fn hf hfn=>by
   obtain rfl:f=12:=Option.some.inj ((show Tryz.prog.funcNamed Rows.confCutRow.func=some 12 by kernel_rfl).symm.trans hf)|>.symm
   obtain rfl:fn=Tryz.f12:=(Option.some.inj (Tryz.func12.symm.trans hfn)).symm
   exact⟨by kernel_rfl,fun j t ht=>by
    have hm:t∈ [83,57]:=by simpa using Array.mem_of_getElem? (show(#[83,57]:Array TypeId)[j]? =some t from ht)
    have hall:([83,57].all fun u=>!Tryz.prog.wantsStandIn u)=true:=by kernel_rfl
    exact(show Tryz.prog.wantsStandIn t=false by simpa using List.all_eq_true.1 hall t hm)⟩)
  (by kernel_rfl)
end Go.Proofs.YtanmnkbccfcagaaGreatDoor.confCut
