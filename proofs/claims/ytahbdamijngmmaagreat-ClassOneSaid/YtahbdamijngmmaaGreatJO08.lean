/-
  Texts of a proof, joined: A0, T1bool, T2bool, T3bool, M1bool, M2, L1, M3b, M3, T4bool, T5bool, T6bool, H1bool, A1.
  Conditions: none.
-/
import Derived.Test.YtahbdamijngmmaaGreatJO07
import Derived.Test.YtahbdamijngmmaaGreatJO02
import Derived.Test.YtahbdamijngmmaaGreatProg
import Derived.Ground.SlsfProg
import Derived.Shelf.SlSortCmp.NoneTotal
import Derived.Test.YtahbdamijngmmaaGreatJO03
set_option linter.unusedVariables false
set_option linter.unusedSimpArgs false
set_option linter.defProp false
set_option linter.unnecessarySimpa false
set_option maxHeartbeats 8000000
namespace Go.Proofs.YtahbdamijngmmaaGreat
open Go
def recN(r:RecL):List Nm:=r.owner::r.dat.names
def zdX(z:zdT):List Nm:=z.o::z.recs.flatMap recN
def zeV(h:zfm):List Nm:=h.name::h.zones.flatMap zdX
def za2(N:NetL):List Nm:=N.hosts.flatMap zeV
def insN(g:Nm):List Nm→List Nm
 | []=>[g]
 |x::l=>if cmpN g x<0 then g::x::l else if cmpN g x=0 then x::l else x::insN g l
def zcN:Nm→List Nm
 | []=>[[]]
 |l::f=>(l::f)::zcN f
def canN(ps:List Nm):List Nm:=([]::ps.flatMap fun p=>zcN (zag p)).foldr insN []
theorem zfQ{g x:Nm}:∀{l:List Nm},x∈insN g l↔x=g∨x∈l
 | []=>by simp[insN]
 |y::l=>by
  unfold insN
  split
  ·simp
  ·split
   ·rename_i h
    have:=ze5 h
    subst this
    simp
   ·simp only[List.mem_cons,zfQ (l:=l)]
    constructor
    ·rintro(h|h|h)<;>simp[h]
    ·rintro(h|h|h)<;>simp[h]
theorem zgw{g:Nm}:∀{l:List Nm},Rise l→Rise (insN g l)
 | [],_=>by simp[insN,Rise]
 |y::l,h=>by
  have h1:=List.pairwise_cons.1 h
  unfold insN
  split
  ·rename_i hlt
   refine List.pairwise_cons.2 ⟨fun z hz=>?_,h⟩
   rcases List.mem_cons.1 hz with rfl|hz
   ·exact hlt
   ·exact zdf hlt (h1.1 z hz)
  ·split
   ·exact h
   ·rename_i h2 h3
    refine List.pairwise_cons.2 ⟨fun z hz=>?_,zgw h1.2⟩
    rcases zfQ.1 hz with rfl|hz
    ·have:=zex z y;omega
    ·exact h1.1 z hz
theorem zd6:∀(l:List Nm),Rise (l.foldr insN [])∧∀g,g∈l.foldr insN []↔g∈l
 | []=>⟨List.Pairwise.nil,fun g=>by simp⟩
 |a::l=>by
  obtain⟨h1,h2⟩:=zd6 l
  rw[List.foldr_cons]
  exact⟨zgw h1,fun g=>by rw[zfQ,h2];simp⟩
theorem zd4{g:Nm}:∀{f:Nm},g∈zcN f↔g<:+f
 | []=>by simp[zcN]
 |l::f=>by simp only[zcN,List.mem_cons,zd4 (f:=f),List.suffix_cons_iff]
theorem zct(ps:List Nm):Rise (canN ps):=(zd6 _).1
def inS(ps:List Nm)(g:Nm):Prop:=g=[]∨∃p∈ps,g<:+zag p
theorem mem_canN{ps:List Nm}{g:Nm}:g∈canN ps↔inS ps g:=by
 unfold canN inS
 rw[(zd6 _).2]
 simp only[List.mem_cons,List.mem_flatMap,zd4]
theorem zht{ps:List Nm}{L:List Nm}(h:Rise L)(hm:∀g,g∈L↔inS ps g):L=canN ps:=h.eq (zct ps) fun g=>(hm g).trans mem_canN.symm
theorem Rise.nodup{L:List Nm}(h:Rise L):L.Nodup:=List.Pairwise.imp (fun {a b} h e=>by subst e;rw[zdQ]at h;omega) h
theorem canN_len{ps:List Nm}{M:List Nm}(hn:M.Nodup)(hm:∀g,g∈M↔inS ps g):M.length=(canN ps).length:=
 ((List.perm_ext_iff_of_nodup hn (zct ps).nodup).2 fun g=>(hm g).trans mem_canN.symm).length_eq
theorem zfY{ps qs:List Nm}(h:∀g,inS ps g→inS qs g):(canN ps).length≤(canN qs).length:=
 zb5 (zct ps).nodup fun g hg=>mem_canN.2 (h g (mem_canN.1 hg))
theorem zjZ{ps qs:List Nm}{g:Nm}:inS (ps++qs) g↔inS ps g∨inS qs g:=by
 unfold inS
 constructor
 ·rintro(h| ⟨p,hp,h⟩)
  ·exact .inl (.inl h)
  ·rcases List.mem_append.1 hp with hp|hp
   ·exact .inl (.inr ⟨p,hp,h⟩)
   ·exact .inr (.inr ⟨p,hp,h⟩)
 ·rintro((h| ⟨p,hp,h⟩)| (h| ⟨p,hp,h⟩))
  ·exact .inl h
  ·exact .inr ⟨p,List.mem_append_left _ hp,h⟩
  ·exact .inl h
  ·exact .inr ⟨p,List.mem_append_right _ hp,h⟩
theorem zhY{ps:List Nm}{g:Nm}(h:inS ps g):zag g=g:=by
 rcases h with rfl| ⟨p,_,q,hq⟩
 ·rfl
 ·have h2:g=(zag p).drop q.length:=by rw[←hq];simp
  rw[h2,←zbK,zdc]
theorem zhX{ps:List Nm}{l:Lab}{g:Nm}(h:inS ps (l::g)):inS ps g:=by
 rcases h with h| ⟨p,hp,h⟩
 ·cases h
 ·exact .inr ⟨p,hp,(List.suffix_cons l g).trans h⟩
def za9(x:Nm)(r:Nm×Nm):Option Nm:=if za0 x r.2=true then if zaH (zcl x r.2 r.1)=0 then some (zcl x r.2 r.1) else Option.none else Option.none
def zaB(ren:List (Nm×Nm))(L:List Nm):List Nm:=L.flatMap fun x=>ren.filterMap (za9 x)
def zbi(ren:List (Nm×Nm)):Nat→List Nm→List Nm
 |0,ps=>ps
 |k+1,ps=>if (canN (ps++zaB ren (canN ps))).length=(canN ps).length then ps++zaB ren (canN ps) else zbi ren k (ps++zaB ren (canN ps))
theorem zd8{ren:List (Nm×Nm)}:∀{k:Nat} {ps:List Nm} {p:Nm},p∈ps→p∈zbi ren k ps
 |0,_,_,h=>h
 |k+1,ps,p,h=>by
  unfold zbi
  split
  ·exact List.mem_append_left _ h
  ·exact zd8 (List.mem_append_left _ h)
theorem zdO{ps qs:List Nm}(h:∀p∈ps,p∈qs){g:Nm}(hg:inS ps g):inS qs g:=by
 rcases hg with hg| ⟨p,hp,hs⟩
 ·exact .inl hg
 ·exact .inr ⟨p,h p hp,hs⟩
theorem zeq{x y:Nm}{r:Nm×Nm}(h:za9 x r=some y):zaH y=0:=by
 unfold za9 at h
 split at h
 ·split at h
  ·rename_i h2;cases h;exact h2
  ·cases h
 ·cases h
theorem zfH{ren:List (Nm×Nm)}{L:List Nm}{y:Nm}(h:y∈zaB ren L):zaH y=0:=by
 unfold zaB at h
 obtain⟨x,_,hx⟩:=List.mem_flatMap.1 h
 obtain⟨r,_,hr⟩:=List.mem_filterMap.1 hx
 exact zeq hr
structure NmK(n:Nm):Prop where
 lb:∀l∈n,l.length≤100
 len:n.length≤255
theorem NmK.m{n:Nm}(h:NmK n):NmM n:=⟨fun l hl=>by have:=h.lb l hl;omega,by have:=h.len;omega⟩
theorem NmK.LB{n:Nm}(h:NmK n):LB n:=h.m.LB
theorem NmK.fold{n:Nm}(h:NmK n):NmK (zag n):=⟨fun l hl=>by
 unfold zag at hl
 obtain⟨x,hx,rfl⟩:=List.mem_map.1 hl
 rw[zgx]
 exact h.lb x hx,by rw[zau];exact h.len⟩
theorem zaZ{n:Nm}(h:zaH n=0):NmK n:=⟨fun l hl=>by have:=(zbA h l hl).2;omega,zd9 h⟩
theorem Sh.k{n:Nm}(h:Sh n):NmK n:=⟨h.lb,by have:=h.len;omega⟩
theorem zhp{ren:List (Nm×Nm)}:∀{k:Nat} {ps:List Nm},(∀p∈ps,NmK p)→∀p∈zbi ren k ps,NmK p
 |0,_,h=>h
 |k+1,ps,h=>by
  have h2:∀p∈ps++zaB ren (canN ps),NmK p:=fun p hp=>by
   rcases List.mem_append.1 hp with hp|hp
   ·exact h p hp
   ·exact zaZ (zfH hp)
  unfold zbi
  split
  ·exact h2
  ·exact zhp h2
theorem inS_k{ps:List Nm}(h:∀p∈ps,NmK p){g:Nm}(hg:inS ps g):NmK g:=by
 rcases hg with rfl| ⟨p,hp,q,hq⟩
 ·exact⟨fun l hl=>absurd hl (by simp),by simp⟩
 ·have h1:=(h p hp).fold
  have h2:=h1.len
  have h3:g=(zag p).drop q.length:=by rw[←hq];simp
  rw[h3]
  exact⟨fun l hl=>h1.lb l (List.mem_of_mem_drop hl),by rw[List.length_drop];omega⟩
theorem zgL{N:NetL}(h:zbb N):∀p∈za2 N,NmK p:=by
 intro p hp
 unfold za2 zeV zdX recN at hp
 obtain⟨x,hx,hp⟩:=List.mem_flatMap.1 hp
 rcases List.mem_cons.1 hp with rfl|hp
 ·exact(h.sh x hx).k
 obtain⟨z,hz,hp⟩:=List.mem_flatMap.1 hp
 have gz:=h.z.z x hx z hz
 rcases List.mem_cons.1 hp with rfl|hp
 ·have hg:=gz.o
  unfold zeW at hg
  simp only[Bool.and_eq_true,decide_eq_true_eq]at hg
  exact zaZ hg.2
 obtain⟨r,hr,hp⟩:=List.mem_flatMap.1 hp
 rcases List.mem_cons.1 hp with rfl|hp
 ·exact zaZ (gz.gd.own r hr)
 ·exact zaZ (gz.gd.names r hr p hp)
theorem zgy{α β:Type}{f:α→List β}{k:Nat}:∀{l:List α},(∀a∈l,(f a).length≤k)→(l.flatMap f).length≤l.length*k
 | [],_=>by simp
 |a::l,h=>by
  have h1:=h a (List.mem_cons_self ..)
  have h2:=zgy (l:=l) (fun b hb=>h b (List.mem_cons_of_mem _ hb))
  rw[List.flatMap_cons,List.length_append,List.length_cons,Nat.succ_mul]
  omega
theorem zhP{N:NetL}(h:zbb N){x:zfm}(hx:x∈N.hosts){z:zdT}(hz:z∈x.zones){r:RecL}(hr:r∈z.recs):(recN r).length≤9:=by
 have:=((h.z.z x hx z hz).gd.few r hr).2.n8
 unfold recN
 rw[List.length_cons];omega
theorem zib{N:NetL}(h:zbb N):(za2 N).length≤20000:=by
 have h3:∀x∈N.hosts,∀z∈x.zones,(zdX z).length≤541:=fun x hx z hz=>by
  have gz:=(h.z.z x hx z hz).gd
  have h1:=zgy (l:=z.recs) (f:=recN) (k:=9) (fun r hr=>zhP h hx hz hr)
  have:=gz.len
  unfold zdX
  rw[List.length_cons];omega
 have h4:∀x∈N.hosts,(zeV x).length≤2165:=fun x hx=>by
  have h1:=zgy (l:=x.zones) (f:=zdX) (k:=541) (h3 x hx)
  have:=h.zl x hx
  unfold zeV
  rw[List.length_cons];omega
 have h5:=zgy (l:=N.hosts) (f:=zeV) (k:=2165) h4
 have:=h.h1.2
 unfold za2
 omega
theorem zdD:∀f:Nm,(zcN f).length=f.length+1
 | []=>rfl
 |_::f=>by simp only[zcN,List.length_cons,zdD f]
theorem zhW{g:Nm}:∀{l:List Nm},(insN g l).length≤l.length+1
 | []=>by simp[insN]
 |x::l=>by
  unfold insN
  split
  ·simp
  ·split
   ·simp
   ·have:=zhW (g:=g) (l:=l)
    simp only[List.length_cons];omega
theorem zeZ:∀l:List Nm,(l.foldr insN []).length≤l.length
 | []=>by simp
 |a::l=>by
  have h1:=zeZ l
  have h2:=zhW (g:=a) (l:=l.foldr insN [])
  rw[List.foldr_cons,List.length_cons];omega
theorem canN_add{ps:List Nm}{y:Nm}(hy:NmK y):(canN (ps++ [y])).length≤(canN ps).length+256:=by
 have h:=zb5 (m:=canN ps++zcN (zag y)) (zct (ps++ [y])).nodup fun g hg=>by
  rcases zjZ.1 (mem_canN.1 hg) with h|h
  ·exact List.mem_append_left _ (mem_canN.2 h)
  ·rcases h with rfl| ⟨p,hp,hs⟩
   ·exact List.mem_append_left _ (mem_canN.2 (.inl rfl))
   ·rw[List.mem_singleton.1 hp]at hs
    exact List.mem_append_right _ (zd4.2 hs)
 have hl:=hy.len
 rw[List.length_append,zdD,zau]at h
 omega
theorem zkl{ps:List Nm}(hk:∀p∈ps,NmK p)(hl:ps.length≤20000):(canN ps).length≤900000000:=by
 have h1:=zeZ ([]::ps.flatMap fun p=>zcN (zag p))
 have h2:=zgy (l:=ps) (f:=fun p=>zcN (zag p)) (k:=256) (fun p hp=>by rw[zdD,zau];have:=(hk p hp).len;omega)
 unfold canN
 rw[List.length_cons]at h1
 omega
end Go.Proofs.YtahbdamijngmmaaGreat
namespace Go.Proofs.YtahbdamijngmmaaGreat.T_bool
open Go Go.Proofs.YtahbdamijngmmaaGreat
set_option maxRecDepth 10000
theorem zev(w:World):Fn Tryz.prog 171 #[] w (fun v w'=>v=zav (w.heap.size+1)∧w'=(w.alloc (.map #[] 0)).alloc (.cells #[.map (some w.heap.size),(.bool false),.bool false] 303)):=by
 refine enter Tryz.func171 Tryz.ntmps171 rfl rfl ?_
 repeat refine c_r ?_
 refine rg0 ?_
 repeat refine c_r ?_
 refine rq ?_;intro gd K hgd hK
 try simp only[go_sem]
 refine⟨by kernel_rfl,?_⟩
 rw[show bdV Tryz.prog 303 [(0,.map (some w.heap.size))]=some (.agg #[.map (some w.heap.size),(.bool false),.bool false]) from by kernel_rfl]
 try simp only[go_sem]
 refine hK _ _ ?_;clear hK hgd;clear K;try clear gd
 repeat refine c_r ?_
 refine rt0 Tryz.ntmps171 ?_
 simp[zav]
abbrev TAt:=TreeAt 237 303
abbrev TOk:=TSok (.bool false)
def ts0(B:Nat):TS:={names:=[[]],val:=fun _=>(.bool false),has:=fun _=>false,nb:=fun _=>B+1,mb:=fun _=>B}
theorem New_ok(w:World):Fn Tryz.prog 126 #[] w (fun v w'=>v=zav (w.heap.size+2)∧Ext w w'∧TOk (ts0 w.heap.size)∧TAt w' (w.heap.size+2) (ts0 w.heap.size)):=by
 refine enter Tryz.func126 Tryz.ntmps126 rfl rfl ?_
 repeat refine c_r ?_
 refine rg0 ?_
 repeat refine c_r ?_
 refine rq ?_;intro gd K hgd hK
 try simp only[go_sem]
 refine Fn.mono (zev w) ?_
 rintro _ w1 ⟨rfl,rfl⟩
 try simp only[go_sem]
 refine⟨by kernel_rfl,?_⟩
 rw[show bdV Tryz.prog 237 [(0,zav (w.heap.size+1)),(1,.int .i64 1)]=some (.agg #[zav (w.heap.size+1),.int .i64 1]) from by kernel_rfl]
 try simp only[go_sem]
 refine hK _ _ ?_;clear hK hgd;clear K;try clear gd
 repeat refine c_r ?_
 refine rt0 Tryz.ntmps126 ?_
 have hE:=((Ext.alloc w (.map #[] 0)).trans (Ext.alloc _ (.cells #[.map (some w.heap.size),(.bool false),.bool false] 303))).trans (Ext.alloc _ (.cells #[zav (w.heap.size+1),.int .i64 1] 237))
 refine⟨by simp[zav],hE,⟨by simp[ts0],by simp[ts0],by simp[ts0],by simp[ts0],by simp[ts0],fun _=>rfl,fun _ _=>⟨rfl,rfl⟩⟩,?_,?_,?_⟩
 ·have:=zam ((w.alloc (.map #[] 0)).alloc (.cells #[.map (some w.heap.size),(.bool false),.bool false] 303)) (.cells #[zav (w.heap.size+1),.int .i64 1] 237)
  simp only[World.size_alloc]at this
  exact this
 ·intro f hf
  have:=zam (w.alloc (.map #[] 0)) (.cells #[.map (some w.heap.size),(.bool false),.bool false] 303)
  simp only[World.size_alloc]at this
  exact(RowKit.Below.heap_alloc _ _ _ (by simp[ts0])).trans this
 ·intro f hf
  simp only[ts0,List.mem_singleton]at hf
  subst hf
  exact(zjJ w).block ((RowKit.Below.heap_alloc _ _ _ (by simp;omega)).trans (RowKit.Below.heap_alloc _ _ _ (by simp)))
def encD(s:TS)(f:Nm)(k:Nat)(_:World)(args:Array Value):Prop:=args=#[vi k,zav (s.nb (sfx f k))]
theorem zg9{m:Nat}{i:Nat}(h:i<m):∃suf,List.range m=List.range i++i::suf:=by
 refine⟨(List.range m).drop (i+1),?_⟩
 have:=zcc (l:=List.range m) (i:=i) (by simpa using h)
 rw[List.take_range,Nat.min_eq_left (by omega)]at this
 simpa using this
theorem down1_ok{W00 W0:World}{n0:Nat}{C:Nat→Prop}{b1 b2 tb:Nat}{s:TS}{n:Nm}{nv:Value}(hT:TAt W00 tb s)(hs:TOk s)(hr:Row W00 nv (n.map vs))(hn:LB n)(hlen:n.length≤9000000000000000000)
  (hE:Ext W00 W0) (hC:∀b,C b→W00.heap.size≤b) (hn0:W00.heap.size≤n0)
  (h1:W0.cell? ⟨b1,0,Option.none⟩=some (zav tb)) (h1n:b1<n0) (h1C:¬C b1) (h2:W0.cell? ⟨b2,0,Option.none⟩=some nv) (h2n:b2<n0) (h2C:¬C b2):
  Iter Tryz.prog 269 #[zav b1,zav b2] W0 n0 C (List.range (dep s.names (zag n)+1)) (encD s (zag n)):=by
 intro lp J Jx W hW hnW hJ hJx hY h0
 have hfl:(zag n).length=n.length:=zau n
 have hdl:=zgC s.names (zag n)
 generalize hd:dep s.names (zag n)=d at*
 have fact:∀A,KeepB n0 C W A→TAt A tb s∧Row A nv (n.map vs)∧A.cell? ⟨b1,0,Option.none⟩=some (zav tb)∧A.cell? ⟨b2,0,Option.none⟩=some nv:=fun A hA=>by
  have hEA:=KeepB.to_ext (hE.trans hW) hA hn0 hC
  exact⟨hT.ext hEA,hr.ext hEA,zcr hA h1n h1C (zdR hW h1),zcr hA h2n h2C (zdR hW h2)⟩
 obtain⟨hT1,hr1,hc1,hc2⟩:=fact W (KeepB.refl _ _ _)
 have hroot:zah W (some ⟨tb,0,Option.none⟩)=some (zav (s.nb [])):=by
  show W.cell? _=_
  rw[zaG hT1.root];rfl
 have hc1':zah W (some ⟨b1,0,Option.none⟩)=some (zav tb):=hc1
 unfold zav at hc1' hroot
 refine enter Tryz.func269 Tryz.ntmps269 rfl rfl ?_
 repeat refine c_r ?_
 refine rq ?_;intro gd K hgd hK;simp (disch:=first|omega|assumption|rfl) only[go_sem,zav,hc1',hroot];refine hK _ _ ?_;clear hK hgd;clear K gd
 repeat refine c_r ?_
 refine rg0 ?_
 repeat refine c_r ?_
 refine zai (fun m σ ds v=>ds=[]∧∃i,i+m=d+1∧σ 5=vi i∧σ 0= .func (.yield lp) #[] #[]∧σ 1=zav b1∧σ 2=zav b2∧J (List.range i) v∧KeepB n0 C W v∧
  ((i≤d∧σ 4=zav (s.nb (sfx (zag n) i)))∨(i=d+1∧σ 4= .pointer Option.none))) (d+1) ?_ ?_
 ·refine⟨rfl,0,by omega,?_,?_,?_,?_,h0,KeepB.refl _ _ _,.inl ⟨by omega,?_⟩⟩
  ·simp only[go_sem];rfl
  ·simp only[go_sem]
  ·simp only[go_sem]
  ·simp only[go_sem]
  ·rw[zhI];simp only[go_sem]
 ·rintro m σ ds v ⟨rfl,i,him,h5,hf0,hf1,hf2,hj,hK0,hat⟩
  obtain⟨hTv,hrv,hcv1,hcv2⟩:=fact v hK0
  repeat refine c_r ?_
  refine rq ?_;intro gd K hgd hK
  have hg2:∀n σ b,zas gd n σ (some (2,b))=zaj (ev n σ (.tmp 12)) b:=(fun n σ b=>by rw[zab,show gd 2=some 12 from(by rw[hgd];rfl)];rfl);have hg8:∀n σ b,zas gd n σ (some (8,b))=zaj (ev n σ (.tmp 18)) b:=(fun n σ b=>by rw[zab,show gd 8=some 18 from(by rw[hgd];rfl)];rfl)
  rcases hat with ⟨hid,h4⟩| ⟨hid,h4⟩
  ·have h4p:=h4
   unfold zav at h4p
   simp (disch:=first|omega|assumption|rfl) only[go_sem,h5,hf0,h4p,↓hg2,↓hg8]
   obtain⟨suf,hsuf⟩:=zg9 (m:=d+1) (i:=i) (by omega)
   have hrs:List.range i++ [i]=List.range (i+1):=(List.range_succ).symm
   refine Yld.mono (hY (List.range i) i suf v _ hsuf hj hK0 rfl) ?_
   rintro u z (⟨rfl,hj',hk'⟩| ⟨rfl,hjx⟩)
   ·have hK1:=hK0.trans hk'
    obtain⟨hTz,hrz,hcz1,hcz2⟩:=fact z hK1
    rw[hrs]at hj'
    obtain⟨a,ca,hnv,hca,hla⟩:=hrz
    simp only[List.length_map]at hnv hca hla
    have hcz2':zah z (some ⟨b2,0,Option.none⟩)=some (.slice a n.length ca):=by rw[←hnv];exact hcz2
    try simp (disch:=first|omega|assumption|rfl) only[go_sem,h5,hf0,hf2,zav,hcz2',↓hg2,↓hg8]
    refine hK _ _ ?_;clear hK hgd;clear K;try clear gd
    repeat refine c_r ?_
    refine wc0 ?_ ?_
    ·intro hlt
     simp only[decide_eq_true_eq]at hlt
     repeat refine c_r ?_
     refine zaL (fun _=>false) [(0,true),(1,true),(2,true),(3,true),(4,true),(5,true),(6,true),(7,true),(8,true),(9,true),(10,true),(11,true),(12,false),(13,true),(14,true)] NoS mixed (by kernel_rfl) ?_;intro gd K x hgd hx hxe hK;clear hxe
     have hKy:=hK1.trans (hx.toB (Nat.le_trans hnW hK1.size) (fun _ _ h=>h.elim))
     have hsy:=Nat.le_trans hnW hKy.size
     obtain⟨hTx,hrx,hcx1,hcx2⟩:=fact _ hKy
     have hla':=fun j h=>zaa hx (hla j h)
     have hsa:a.isSome=true:=zad (hla 0 (by omega))
     have hcx2':zah x (some ⟨b2,0,Option.none⟩)=some (.slice a n.length ca):=by rw[←hnv];exact hcx2
     have hin:sfx (zag n) i∈s.names:=zjh hs (by omega)
     have hkids:zah x (some ⟨s.nb (sfx (zag n) i),0,Option.none⟩)=some (.map (some (s.mb (sfx (zag n) i)))):=by
      show x.cell? _=_
      rw[zaG (hTx.node _ hin)];rfl
     have hix:((n.length:Int) - 1 - i).toNat=n.length - 1 - i:=by omega
     simp (disch:=first|omega|assumption|rfl) only[go_sem,h4p,h5,hf0,hf2,zav,hcx2',hkids,hix,hla',List.getElem_map]
     refine Fn.mono (zcg _ _ (LB.get hn _)) ?_
     rintro _ y ⟨rfl,hy⟩
     refine⟨.inr hy,?_⟩
     have hKy:=hKy.trans (hy.toB hsy (fun _ _ h=>h.elim))
     have hTy:=(fact y hKy).1
     have hlk:=(hTy.map _ hin).lk (P:=Tryz.prog) (t:=301) (kt:=9) (et:=235) (z:= .pointer Option.none) rfl rfl rfl (zaF n[n.length - 1 - i])
     have hlab:zaF n[n.length - 1 - i]::sfx (zag n) i=sfx (zag n) (i+1):=by
      rw[zhJ (by omega)];simp[zag]
     rw[zd5,hlab]at hlk
     simp (disch:=first|omega|assumption|rfl) only[go_sem,hlk]
     refine⟨fun _ _ h=>h,?_⟩
     refine hK _ _ ?_;clear hK hgd;clear K;try clear gd
     repeat refine c_r ?_
     refine rg1 h5 ?_
     repeat refine c_r ?_
     refine⟨m - 1,by omega,rfl,i+1,by omega,by simp only[go_sem];rfl,(vq1 hf0),(vq1 hf1),(vq1 hf2),hJ _ _ _ hj' (hx.trans hy),hKy,?_⟩
     by_cases hup:i+1≤d
     ·rw[if_pos (zjh hs (by omega))]
      exact .inl ⟨hup,by simp only[go_sem];rfl⟩
     ·rw[if_neg (zg5 hs (by omega) (by omega))]
      exact .inr ⟨by omega,by simp only[go_sem];rfl⟩
    ·intro hge
     simp only[decide_eq_false_iff_not]at hge
     repeat refine c_r ?_
     have hi:i=d:=by omega
     subst hi
     exact zat (by simp) rfl (.inl hj')
   ·try simp (disch:=first|omega|assumption|rfl) only[go_sem,h5,hf0,hf2,↓hg2,↓hg8]
    refine hK _ _ ?_;clear hK hgd;clear K;try clear gd
    repeat refine c_r ?_
    refine wc0 ?_ ?_
    ·intro h;simp at h
    ·intro _
     repeat refine c_r ?_
     exact zat (by simp) rfl (.inr ⟨_,_,_,hsuf,hjx⟩)
  ·try simp (disch:=first|omega|assumption|rfl) only[go_sem,h5,hf0,h4,↓hg2,↓hg8]
   refine hK _ _ ?_;clear hK hgd;clear K;try clear gd
   repeat refine c_r ?_
   refine wc0 ?_ ?_
   ·intro h;simp at h
   ·intro _
    repeat refine c_r ?_
    subst hid
    exact zat (by simp) rfl (.inl hj)
theorem down_ok{W00 w:World}{tb:Nat}{s:TS}{n:Nm}{nv:Value}(hT:TAt W00 tb s)(hs:TOk s)(hr:Row W00 nv (n.map vs))(hn:LB n)(hlen:n.length≤9000000000000000000)(hE:Ext W00 w):
  Fn Tryz.prog 222 #[zav tb,nv] w (fun v w'=>Ext w w'∧∃cap,v= .func (.func 269) #[] cap∧
   ∀C:Nat→Prop,(∀b,C b→W00.heap.size≤b∧b<w.heap.size)→Iter Tryz.prog 269 cap w' w'.heap.size C (List.range (dep s.names (zag n)+1)) (encD s (zag n))):=by
 obtain⟨a,ca,rfl,hca,hla⟩:=id hr
 simp only[List.length_map]at*
 refine enter Tryz.func222 Tryz.ntmps222 rfl rfl ?_
 repeat refine c_r ?_
 refine rg0 ?_
 repeat refine c_r ?_
 refine rg0 ?_
 repeat refine c_r ?_
 refine rt0 Tryz.ntmps222 ?_
 have hE1:=(Ext.alloc w (.cells #[zav tb] 147)).trans (Ext.alloc _ (.cells #[.slice a n.length ca] 27))
 refine⟨hE1,_,rfl,fun C hC=>?_⟩
 have e1:(w.alloc (.cells #[zav tb] 147)).heap.size=w.heap.size+1:=by simp
 rw[e1]
 refine down1_ok hT hs hr hn hlen (hE.trans hE1) (fun b hb=>(hC b hb).1) (Nat.le_trans hE.size hE1.size) ?_ (by simp;omega) (fun h=>by have:=(hC _ h).2;omega) ?_ (by simp) (fun h=>by have:=(hC _ h).2;omega)
 ·rw[zaG ((RowKit.Below.heap_alloc _ _ _ (by simp)).trans (zam w _))];rfl
 ·have:=zam (w.alloc (.cells #[zav tb] 147)) (.cells #[.slice a n.length ca] 27)
  rw[e1]at this
  rw[zaG this];rfl
theorem ziR{w:World}{tb:Nat}{s:TS}{n:Nm}{nv:Value}(hT:TAt w tb s)(hs:TOk s)(hr:Row w nv (n.map vs))(hn:LB n)(hlen:n.length≤9000000000000000000):
  Fn Tryz.prog 173 #[zav tb,nv] w (fun v w'=>v= .tuple #[vi (dep s.names (zag n)),zav (s.nb (sfx (zag n) (dep s.names (zag n))))]∧Ext w w'):=by
 obtain⟨a,ca,rfl,hca,hla⟩:=id hr
 simp only[List.length_map]at*
 refine enter Tryz.func173 Tryz.ntmps173 rfl rfl ?_
 repeat refine c_r ?_
 refine rg0 ?_
 repeat (with_reducible first|refine zek ?_|refine zgO ?_|refine zel ?_|refine zaC ?_|refine zbG ?_|refine zb2 ?_|refine za7 ?_|refine zbM ?_|refine zbg ?_|refine za5 rfl ?_)
 refine W_mid (fun σ ds A=>ds=[]∧σ 0=zav tb∧σ 1= .slice a n.length ca∧∃b6 b7,σ 6=zav b6∧σ 7=zav b7∧b6≠b7∧w.heap.size≤b6∧w.heap.size≤b7∧Ext w A∧
  A.heap[b6]? =some (.cells #[vi 0] 3 (0,0))∧A.heap[b7]? =some (.cells #[zav (s.nb [])] 235 (0,0))) ?_ ?_
 ·refine zgM (fun i=>i==7) (.run [(0,true),(1,true),(2,true),(3,true)] (.fork 3 [4,5] (fun i=>if i=4 then(.run [(5,false),(6,false),(7,false)] .fin) else(.run [(4,false),(6,false),(7,false)] .fin)))) (zc5 w.heap.size) mixed (by kernel_rfl) ?_;intro gd K x hgd hx hxe hK;clear hxe
  have hEx:Ext w x:=Keep.to_ext (Keep.refl _ _) rfl (fun b hb=>hb) hx
  have hroot:zah x (some ⟨tb,0,Option.none⟩)=some (zav (s.nb [])):=by
   show x.cell? _=_
   rw[zaG (hT.ext hEx).root];rfl
  have htb:tb<w.heap.size:=(Array.getElem?_eq_some_iff.1 hT.root).1
  have hsx:=hEx.size
  unfold zav at hroot
  simp (disch:=first|omega|assumption|rfl) only[go_sem,zav,hroot,ziz htb]
  simp only[zbE,zbY];refine⟨?_,?_⟩
  ·simp (disch:=first|omega|assumption|rfl) only[go_sem]
   refine⟨.inr (Ext.alloc _ _).keep,.inr (Ext.alloc _ _).keep,?_⟩
   have hb1:=zam x (.cells #[.int .i64 0] 3 (0,0))
   have hE2:=(Ext.alloc x (.cells #[.int .i64 0] 3 (0,0))).trans (Ext.alloc _ (.cells #[.pointer Option.none] 235 (0,0)))
   have hb1':=(RowKit.Below.heap_alloc _ (.cells #[.pointer Option.none] 235 (0,0)) _ (by simp)).trans hb1
   have hb2:=zam (x.alloc (.cells #[.int .i64 0] 3 (0,0))) (.cells #[.pointer Option.none] 235 (0,0))
   rw[zap]at hb2 ⊢
   refine zbj rfl rfl rfl hb1' (by simp) (by simp) ?_
   intro x1 hs1 hx1 hk1
   refine⟨.inr (hk1.mono (fun b _ hb=>by show _≤b;omega)),?_⟩
   simp (disch:=first|omega|assumption|rfl) only[go_sem]
   refine zbj rfl rfl rfl ((hk1.block _ (by simp) (by omega)).trans hb2) (by simp) (by simp) ?_
   intro x2 hs2 hx2 hk2
   refine⟨.inl rfl,?_⟩
   simp (disch:=first|omega|assumption|rfl) only[go_sem]
   refine hK _ _ ?_;clear hK hgd;clear K;try clear gd
   repeat (with_reducible first|refine zek ?_|refine zgO ?_|refine zel ?_|refine zaC ?_|refine zbG ?_|refine zb2 ?_|refine za7 ?_|refine zbM ?_|refine zbg ?_|refine za5 rfl ?_)
   refine⟨rfl,vq0,vq0,x.heap.size,x.heap.size+1,vq0,vq0,by omega,hsx,by omega,?_,(hk2.block _ (by rw[hs1];simp;omega) (by omega)).trans hx1,hx2⟩
   exact Keep.to_ext (Keep.to_ext (hEx.trans hE2) rfl (fun b hb=>by omega) hk1) rfl (fun b hb=>by omega) hk2
  ·simp (disch:=first|omega|assumption|rfl) only[go_sem]
   refine⟨.inr (Ext.alloc _ _).keep,.inr (Ext.alloc _ _).keep,?_⟩
   have hb1:=zam x (.cells #[.pointer Option.none] 235 (0,0))
   have hE2:=(Ext.alloc x (.cells #[.pointer Option.none] 235 (0,0))).trans (Ext.alloc _ (.cells #[.int .i64 0] 3 (0,0)))
   have hb1':=(RowKit.Below.heap_alloc _ (.cells #[.int .i64 0] 3 (0,0)) _ (by simp)).trans hb1
   have hb2:=zam (x.alloc (.cells #[.pointer Option.none] 235 (0,0))) (.cells #[.int .i64 0] 3 (0,0))
   rw[zap]at hb2 ⊢
   refine zbj rfl rfl rfl hb2 (by simp) (by simp) ?_
   intro x1 hs1 hx1 hk1
   refine⟨.inr (hk1.mono (fun b _ hb=>by show _≤b;omega)),?_⟩
   simp (disch:=first|omega|assumption|rfl) only[go_sem]
   refine zbj rfl rfl rfl ((hk1.block _ (by simp;omega) (by omega)).trans hb1') (by simp) (by simp) ?_
   intro x2 hs2 hx2 hk2
   refine⟨.inl rfl,?_⟩
   simp (disch:=first|omega|assumption|rfl) only[go_sem]
   refine hK _ _ ?_;clear hK hgd;clear K;try clear gd
   repeat (with_reducible first|refine zek ?_|refine zgO ?_|refine zel ?_|refine zaC ?_|refine zbG ?_|refine zb2 ?_|refine za7 ?_|refine zbM ?_|refine zbg ?_|refine za5 rfl ?_)
   refine⟨rfl,vq0,vq0,x.heap.size+1,x.heap.size,vq0,vq0,by omega,by omega,hsx,?_,(hk2.block _ (by rw[hs1];simp) (by omega)).trans hx1,hx2⟩
   exact Keep.to_ext (Keep.to_ext (hEx.trans hE2) rfl (fun b hb=>by omega) hk1) rfl (fun b hb=>by omega) hk2
 ·rintro σ ds A ⟨rfl,hs0,hs1,b6,b7,hs6,hs7,hne,hb6,hb7,hE,hc6,hc7⟩
  have hl6:=(Array.getElem?_eq_some_iff.1 hc6).1
  have hl7:=(Array.getElem?_eq_some_iff.1 hc7).1
  repeat refine c_r ?_
  refine rq ?_;intro gd K hgd hK
  try simp (disch:=first|omega|assumption|rfl) only[go_sem,hs0,hs1]
  refine Fn.mono (down_ok hT hs hr hn hlen hE) ?_
  rintro _ w3 ⟨hE3,cap,rfl,hit⟩
  try simp only[go_sem]
  refine hK _ _ ?_;clear hK hgd;clear K;try clear gd
  repeat refine c_r ?_
  generalize hd:dep s.names (zag n)=d at*
  have hs3:=hE3.size
  refine zhw (g:=269) (cap:=cap) (vq0) rfl (hit (fun b=>b=b6∨b=b7) (fun b hb=>by omega)) (Keep.refl _ _) (Nat.le_refl _) (fun b hb=>by omega)
   (fun x A args h=>by rw[h];rfl)
   (fun pre A=>Ext w A∧A.heap[b6]? =some (.cells #[vi ((pre.length - 1:Nat))] 3 (0,0))∧A.heap[b7]? =some (.cells #[zav (s.nb (sfx (zag n) (pre.length - 1)))] 235 (0,0)))
   (fun _ _ _=>False) ?_ (fun _ _ _ _ h _=>h.elim) ?_ ?_ ?_ (fun _ _ _ _ _ _ _ h _=>h.elim)
  ·rintro pre A B ⟨h1,h2,h3⟩ hk
   have ne1:¬two w3.heap.size b6:=by unfold two;omega
   have ne2:¬two w3.heap.size b7:=by unfold two;omega
   exact⟨Keep.to_ext h1 rfl (fun b hb=>by unfold two at hb;have:=hE.size;omega) hk,(hk.block _ (Array.getElem?_eq_some_iff.1 h2).1 ne1).trans h2,(hk.block _ (Array.getElem?_eq_some_iff.1 h3).1 ne2).trans h3⟩
  ·exact⟨hE.trans hE3,(hE3.block _ hl6 (fun h=>h)).trans hc6,by rw[List.length_nil,zhI];exact(hE3.block _ hl7 (fun h=>h)).trans hc7⟩
  ·rintro lp pre x suf A1 args hxs hszA ⟨hEA,hc6',hc7'⟩ rfl
   obtain rfl:=zjy hxs
   repeat (first|refine c_r ?_| (refine zcv (by rfl) ?_;intro gd K hgd hK;simp (disch:=first|omega|assumption|rfl) only[go_sem,zav];refine hK _ _ ?_;clear hK hgd;clear K gd))
   refine⟨rfl,KeepB.refl _ _ _,fun A2 hA2=>?_⟩
   have ne1:¬two w3.heap.size b6:=by unfold two;omega
   have ne2:¬two w3.heap.size b7:=by unfold two;omega
   have hc6:=(hA2.block _ (Array.getElem?_eq_some_iff.1 hc6').1 ne1).trans hc6'
   have hc7:=(hA2.block _ (Array.getElem?_eq_some_iff.1 hc7').1 ne2).trans hc7'
   have hE2':Ext w A2:=Keep.to_ext hEA rfl (fun b hb=>by unfold two at hb;have:=hE.size;omega) hA2
   have hl62:=(Array.getElem?_eq_some_iff.1 hc6).1
   have hl72:=(Array.getElem?_eq_some_iff.1 hc7).1
   repeat refine c_r ?_
   refine rq ?_;intro gd K hgd hK
   try simp (disch:=first|omega|assumption|rfl) only[go_sem,hs6,hs7,zav]
   refine zbj rfl rfl rfl hc6 (by simp) (by simp) ?_
   intro x1 hz1 hx1 hk1
   try simp (disch:=first|omega|assumption|rfl) only[go_sem,hs6,hs7,zav]
   refine zbj rfl rfl rfl ((hk1.block _ hl72 (by omega)).trans hc7) (by simp) (by simp) ?_
   intro x2 hz2 hx2 hk2
   refine hK _ _ ?_;clear hK hgd;clear K;try clear gd
   repeat refine c_r ?_
   have e:(pre++ [pre.length]).length - 1=pre.length:=by simp
   refine⟨⟨Keep.to_ext (Keep.to_ext hE2' rfl (fun b hb=>by omega) hk1) rfl (fun b hb=>by omega) hk2,?_,?_⟩,(hk1.toB (by have:=hA2.size;omega) (fun i _ h=> .inl h)).trans (hk2.toB (by have:=hA2.size;omega) (fun i _ h=> .inr h))⟩
   ·rw[e];exact(hk2.block _ (by omega) (by omega)).trans hx1
   ·rw[e];exact hx2
  ·rintro w4 hsz4 ⟨hE4,hc6,hc7⟩ hD
   rw[List.length_range,Nat.add_sub_cancel]at hc6 hc7
   repeat refine c_r ?_
   refine zaL (fun _=>false) [(0,true),(1,true),(2,true),(3,true)] NoS mixed (by kernel_rfl) ?_;intro gd K x hgd hx hxe hK;clear hxe
   have hc6':zah x (some ⟨b6,0,Option.none⟩)=some (vi d):=by
    show x.cell? _=_
    rw[zaG ((hx.block _ (Array.getElem?_eq_some_iff.1 hc6).1 (fun h=>h)).trans hc6)];rfl
   have hc7':zah x (some ⟨b7,0,Option.none⟩)=some (zav (s.nb (sfx (zag n) d))):=by
    show x.cell? _=_
    rw[zaG ((hx.block _ (Array.getElem?_eq_some_iff.1 hc7).1 (fun h=>h)).trans hc7)];rfl
   simp (disch:=first|omega|assumption|rfl) only[go_sem,hs6,hs7,zav]at hc6' hc7' ⊢
   simp (disch:=first|omega|assumption|rfl) only[go_sem,hs6,hs7,hc6',hc7']
   refine hK _ _ ?_;clear hK hgd;clear K;try clear gd
   repeat refine c_r ?_
   refine zjs (by simp) rfl Tryz.ntmps173 (by simp only[go_sem];rfl) (by simp only[go_sem];rfl) ((hx.block _ (Array.getElem?_eq_some_iff.1 hD).1 (fun h=>h)).trans hD) ?_
   intro w5 hk5 _
   exact⟨rfl,Keep.to_ext (hE4.trans hx) rfl (fun b hb=>by have:=hE.size;omega) hk5⟩
theorem Len_ok{w:World}{tb:Nat}{s:TS}(hT:TAt w tb s):
  Fn Tryz.prog 77 #[zav tb] w (fun v w'=>v= .int .i64 (IntKind.i64.wrap s.names.length)∧Ext w w'):=by
 have hc:zah w (some ⟨tb,1,Option.none⟩)=some (.int .i64 (IntKind.i64.wrap s.names.length)):=by
  show w.cell? _=_
  rw[zaG hT.root];rfl
 refine enter Tryz.func77 Tryz.ntmps77 rfl rfl ?_
 repeat refine c_r ?_
 refine rg0 ?_
 repeat refine c_r ?_
 refine rq ?_;intro gd K hgd hK;simp (disch:=first|omega|assumption|rfl) only[go_sem,zav,hc];refine hK _ _ ?_;clear hK hgd;clear K gd
 repeat refine c_r ?_
 refine rt0 Tryz.ntmps77 ?_
 exact⟨rfl,Keep.refl _ _⟩
structure Puts(s:TS)(f:Nm)(v:Value)(s':TS):Prop where
 names:∀g,g∈s'.names↔g∈s.names∨g<:+f
 val:∀g,s'.val g=if g=f then v else s.val g
 has:∀g,s'.has g=if g=f then true else s.has g
structure Grown(s:TS)(f:Nm)(k:Nat)(s':TS):Prop where
 names:∀g,g∈s'.names↔g∈s.names∨∃j,j≤k∧g=sfx f j
 val:∀g,s'.val g=s.val g
 has:∀g,s'.has g=s.has g
theorem zi3(a:Int):IntKind.i64.wrap (IntKind.i64.wrap a+1)=IntKind.i64.wrap (a+1):=by
 simp only[IntKind.wrap_i64];omega
theorem zis(f:Nm)(k:Nat):sfx f k<:+f:=List.drop_suffix _ _
theorem ziq{f g:Nm}(h:g<:+f):∃j,j≤f.length∧g=sfx f j:=by
 obtain⟨p,rfl⟩:=h
 refine⟨g.length,by simp,?_⟩
 simp[sfx]
theorem Put_ok{w:World}{tb:Nat}{s:TS}{n:Nm}{nv v:Value}(hT:TAt w tb s)(hs:TOk s)(hr:∀A,Keep (tblk tb s) w A→Row A nv (n.map vs))(hn:LB n)(hlen:n.length≤9000000000000000000)
  (hv:one v=true):
  Fn Tryz.prog 128 #[zav tb,nv,v] w (fun _ w'=>∃s',TOk s'∧TAt w' tb s'∧Puts s (zag n) v s'∧Keep (tblk tb s) w w'∧(∀b,tblk tb s' b→tblk tb s b∨w.heap.size≤b)):=by
 have hr0:=hr w (Keep.refl _ _)
 obtain⟨a,ca,rfl,hca,hla⟩:=id hr0
 have hrA:∀{A},Keep (tblk tb s) w A→∀j (h:j<(n.map vs).length),zah A (adr a j)=some (n.map vs)[j]:=fun {A} hA=>by
  obtain⟨a',c',e,_,h⟩:=hr A hA
  simp only[Value.slice.injEq,true_and]at e
  obtain⟨rfl,rfl⟩:=e
  exact h
 simp only[List.length_map]at*
 have hdl:=zgC s.names (zag n)
 have hfl:=zau n
 rw[zau]at hdl
 refine enter Tryz.func128 Tryz.ntmps128 rfl rfl ?_
 repeat refine c_r ?_
 refine rq ?_;intro gd K hgd hK
 try simp only[go_sem]
 refine Fn.mono (ziR hT hs hr0 hn (by omega)) ?_
 rintro _ w1 ⟨rfl,hE1⟩
 try simp only[go_sem]
 refine hK _ _ ?_;clear hK hgd;clear K;try clear gd
 have hdin:=zkg hs (zag n)
 have hdout:=fun j=>@zg5 _ _ hs (zag n) j
 have hdnb:∀j,j≤dep s.names (zag n)→sfx (zag n) j∈s.names:=fun j hj=>zjh hs hj
 generalize hd:dep s.names (zag n)=d at*
 repeat refine c_r ?_
 refine zai (fun m σ ds A=>ds=[]∧∃k s',k+m=n.length∧σ 6=vi k∧σ 7=zav (s'.nb (sfx (zag n) k))∧σ 0=zav tb∧σ 1= .slice a n.length ca∧σ 2=v∧
  TOk s'∧TAt A tb s'∧Grown s (zag n) k s'∧Keep (tblk tb s) w A∧(∀b,tblk tb s' b→tblk tb s b∨w.heap.size≤b)∧sfx (zag n) k∈s'.names∧(∀j,k<j→j≤n.length→sfx (zag n) j∉s'.names)) (n.length - d) ?_ ?_
 ·refine⟨rfl,d,s,by omega,vq0,vq0,vq0,vq0,vq0,hs,hT.ext hE1,⟨fun g=>⟨.inl,?_⟩,fun _=>rfl,fun _=>rfl⟩,hE1.keep,fun b hb=> .inl hb,hdin,fun j h1 h2=>hdout j h1 (by omega)⟩
  rintro(h| ⟨j,hj,rfl⟩)
  ·exact h
  ·exact hdnb j hj
 ·rintro m σ ds A ⟨rfl,k,s',hkm,h6,h7,h0,h1,h2,hs',hTA,hG,hKA,hblk,hin,hout⟩
  repeat refine c_r ?_
  refine rg2 h6 h1 ?_
  repeat refine c_r ?_
  refine wc0 ?_ ?_
  ·intro hlt
   simp only[decide_eq_true_eq]at hlt
   repeat refine c_r ?_
   refine rq ?_;intro gd K hgd hK
   try simp only[go_sem]
   refine Fn.mono (zev A) ?_
   rintro _ A1 ⟨rfl,rfl⟩
   try simp only[go_sem]
   refine hK _ _ ?_;clear hK hgd;clear K;try clear gd
   have hEA:=(Ext.alloc A (.map #[] 0)).trans (Ext.alloc _ (.cells #[.map (some A.heap.size),(.bool false),.bool false] 303))
   have hnm:MapAt ((A.alloc (.map #[] 0)).alloc (.cells #[.map (some A.heap.size),(.bool false),.bool false] 303)) A.heap.size []:=(zjJ A).block (RowKit.Below.heap_alloc _ _ _ (by simp))
   have hnn:=zam (A.alloc (.map #[] 0)) (.cells #[.map (some A.heap.size),(.bool false),.bool false] 303)
   rw[zap]at hnn
   revert hEA hnm hnn
   generalize (A.alloc (.map #[] 0)).alloc (.cells #[.map (some A.heap.size),(.bool false),.bool false] 303)=A1
   intro hEA hnm hnn
   repeat refine c_r ?_
   refine zaL (fun i=>i==14) [(0,true),(1,true),(2,true),(3,true),(4,true),(5,true),(6,true),(7,true),(8,true),(9,true),(10,true),(11,true),(13,true),(12,false),(14,false)] NoS mixed (by kernel_rfl) ?_;intro gd K x hgd hx hxe hK;clear hxe
   have hEx:Ext A x:=hEA.trans hx
   have hTx:=hTA.ext hEx
   have hKx:Keep (tblk tb s) w x:=hKA.trans hEx.keep
   have hmb:zah x (some ⟨s'.nb (sfx (zag n) k),0,Option.none⟩)=some (.map (some (s'.mb (sfx (zag n) k)))):=by
    show x.cell? _=_
    rw[zaG (hTx.node _ hin)];rfl
   have hla':=hrA hKx
   have hsa:a.isSome=true:=zad (hla 0 (by omega))
   have hix:((n.length:Int) - 1 - k).toNat=n.length - 1 - k:=by omega
   simp (disch:=first|omega|assumption|rfl) only[go_sem,h0,h1,h2,h6,h7,zav,hmb,hix,hla',List.getElem_map]
   refine Fn.mono (zcg _ _ (LB.get hn _)) ?_
   rintro _ y ⟨rfl,hy⟩
   refine⟨.inr hy,?_⟩
   have hTy:=hTx.ext hy
   have hlab:zaF n[n.length - 1 - k]::sfx (zag n) k=sfx (zag n) (k+1):=by
    rw[zhJ (by omega)];simp[zag]
   have hnin:zaF n[n.length - 1 - k]::sfx (zag n) k∉s'.names:=by rw[hlab];exact hout _ (by omega) (by omega)
   simp (disch:=first|omega|assumption|rfl) only[go_sem]
   refine zec (r:=s'.mb (sfx (zag n) k)) (l:=za6 s' (sfx (zag n) k)) (key:=zaF n[n.length - 1 - k]) (v:=zav (A.heap.size+1)) rfl rfl (vq0) (vq0) (vq0) (hTy.map _ hin) (by rw[zd5,if_neg hnin]) ?_
   intro A2 hm2 hk2 hsz2
   refine⟨.inl rfl,?_⟩
   simp (disch:=first|omega|assumption|rfl) only[go_sem]
   refine hK _ _ ?_;clear hK hgd;clear K;try clear gd
   have hEy:=hEx.trans hy
   have htbm:tb≠s'.mb (sfx (zag n) k):=fun e=>by
    obtain⟨es,clk,h2,_⟩:=hTA.map _ hin
    rw[←e,hTA.root]at h2;cases h2
   have hroot2:A2.heap[tb]? =some (.cells #[zav (s'.nb []),.int .i64 (IntKind.i64.wrap s'.names.length)] 237 (0,0)):=
    (hk2.block _ (by have:=hTy.lt (.inl rfl);omega) htbm).trans hTy.root
   have hcn:zah A2 (some ⟨tb,1,Option.none⟩)=some (.int .i64 (IntKind.i64.wrap s'.names.length)):=by
    show A2.cell? _=_
    rw[zaG hroot2];rfl
   repeat refine c_r ?_
   refine rg0 ?_
   repeat refine c_r ?_
   refine rq ?_;intro gd K hgd hK
   try simp (disch:=first|omega|assumption|rfl) only[go_sem,h0,zav,hcn]
   rw[zi3]
   refine zbj rfl rfl rfl hroot2 (by simp) (by simp) ?_
   intro A3 hsz3 hb3 hk3
   refine hK _ _ ?_;clear hK hgd;clear K;try clear gd
   have hz3:A.heap.size+2≤A1.heap.size:=by have:=(Array.getElem?_eq_some_iff.1 hnn).1;omega
   have hzx:=hx.size
   have hzy:=hy.size
   have htbA:=hTA.lt (.inl rfl)
   have hmbA:=hTA.lt (.inr ⟨_,hin,.inr rfl⟩)
   have hb23:∀b,b<y.heap.size→b≠tb→b≠s'.mb (sfx (zag n) k)→A3.heap[b]? =y.heap[b]?:=fun b hb h1 h2=>
    (hk3.block b (by omega) h1).trans (hk2.block b hb h2)
   have hTA3:TAt A3 tb (s'.add (sfx (zag n) (k+1)) A.heap.size (.bool false)):=by
    rw[←hlab]
    refine hTA.add hs' hin hnin (Nat.le_refl _) ?_ ?_ ?_ ?_ ?_
    ·rw[hb3];rfl
    ·exact(hb23 _ (by omega) (by omega) (by omega)).trans ((hy.block _ (by omega) (fun h=>h)).trans ((hx.block _ (by omega) (fun h=>h)).trans hnn))
    ·exact hnm.block ((hb23 _ (by omega) (by omega) (by omega)).trans ((hy.block _ (by omega) (fun h=>h)).trans (hx.block _ (by omega) (fun h=>h))))
    ·exact hm2.block (hk3.block _ (by omega) (fun e=>htbm e.symm))
    ·intro b hb h1 h2
     have hbA:=hTA.lt hb
     exact(hb23 b (by omega) h1 h2).trans (hEy.block b hbA (fun h=>h))
   have hKA3:Keep (tblk tb s) w A3:=by
    have hb1:∀b,tblk tb s' b→b<w.heap.size→tblk tb s b:=fun b hb hlt=>(hblk b hb).resolve_right (by omega)
    refine⟨?_,?_,?_,?_,fun b hb hnb=>?_,Nat.le_trans hKA.drawn (Nat.le_trans hEy.drawn (Nat.le_trans hk2.drawn hk3.drawn))⟩
    ·rw[hk3.os,hk2.os,hEy.os,hKA.os]
    ·rw[hk3.tape,hk2.tape,hEy.tape,hKA.tape]
    ·rw[hk3.output,hk2.output,hEy.output,hKA.output]
    ·have:=hKA.size;omega
    ·have hsA:=hKA.size
     refine(hb23 b (by omega) (fun e=>hnb (.inl e)) (fun e=>hnb (hb1 b (.inr ⟨_,hin,.inr e⟩) hb))).trans ((hEy.block b (by omega) (fun h=>h)).trans (hKA.block b hb hnb))
   have hmem:∀f,f∈(s'.add (sfx (zag n) (k+1)) A.heap.size (.bool false)).names↔f∈s'.names∨f=sfx (zag n) (k+1):=fun f=>by simp[TS.add]
   repeat refine c_r ?_
   refine rg1 h6 ?_
   repeat refine c_r ?_
   refine⟨m - 1,by omega,rfl,k+1,s'.add (sfx (zag n) (k+1)) A.heap.size (.bool false),by omega,by simp only[go_sem];rfl,?_,(vq1 h0),(vq1 h1),(vq1 h2),?_,hTA3,?_,hKA3,?_,by rw[hmem];exact .inr rfl,?_⟩
   ·have:(s'.add (sfx (zag n) (k+1)) A.heap.size (.bool false)).nb (sfx (zag n) (k+1))=A.heap.size+1:=by simp[TS.add]
    rw[this];simp only[go_sem]
   ·rw[←hlab]
    exact hs'.add rfl hin hnin (fun f hf=>hTA.lt (.inr ⟨f,hf,.inl rfl⟩)) (fun f hf=>hTA.lt (.inr ⟨f,hf,.inr rfl⟩))
   ·refine⟨fun g=>?_,fun g=>?_,fun g=>?_⟩
    ·rw[hmem,hG.names]
     constructor
     ·rintro((h| ⟨j,hj,rfl⟩)|rfl)
      ·exact .inl h
      ·exact .inr ⟨j,by omega,rfl⟩
      ·exact .inr ⟨k+1,Nat.le_refl _,rfl⟩
     ·rintro(h| ⟨j,hj,rfl⟩)
      ·exact .inl (.inl h)
      ·by_cases e:j=k+1
       ·subst e;exact .inr rfl
       ·exact .inl (.inr ⟨j,by omega,rfl⟩)
    ·simp only[TS.add]
     split
     ·rename_i e;subst e;rw[hlab]at hnin;rw[←hG.val,(hs'.out _ hnin).1]
     ·exact hG.val g
    ·simp only[TS.add]
     split
     ·rename_i e;subst e;rw[hlab]at hnin;rw[←hG.has,(hs'.out _ hnin).2]
     ·exact hG.has g
   ·rintro b (rfl| ⟨g,hg,hgb⟩)
    ·exact .inl (.inl rfl)
    ·rw[hmem]at hg
     have hKs:=hKA.size
     simp only[TS.add]at hgb
     split at hgb
     ·right;omega
     ·rename_i hne
      exact hblk b (.inr ⟨g,hg.resolve_right hne,hgb⟩)
   ·intro j hj1 hj2
    rw[hmem]
    rintro(h|h)
    ·exact hout j (by omega) hj2 h
    ·have:=congrArg List.length h
     rw[zjg (by omega),zjg (by omega)]at this
     omega
  ·intro hge
   simp only[decide_eq_false_iff_not]at hge
   have hkn:k=n.length:=by omega
   subst hkn
   have hsf:sfx (zag n) n.length=zag n:=by rw[←zau n];exact zfG _
   rw[hsf]at h7 hin
   have hnode:=hTA.node _ hin
   repeat refine c_r ?_
   refine rq ?_;intro gd K hgd hK
   try simp (disch:=first|omega|assumption|rfl) only[go_sem,h7,h2,zav]
   refine zbj rfl rfl hv hnode (by simp) (by simp) ?_
   intro A3 hsz3 hb3 hk3
   try simp (disch:=first|omega|assumption|rfl) only[go_sem,h7,h2,zav]
   refine zbj rfl rfl rfl hb3 (by simp) (by simp) ?_
   intro A4 hsz4 hb4 hk4
   refine hK _ _ ?_;clear hK hgd;clear K;try clear gd
   repeat refine c_r ?_
   refine zat (by simp) rfl ⟨s'.set (zag n) v,hs'.set hin hv,?_,?_,?_,?_⟩
   ·refine hTA.set hs' hin (by rw[hb4];rfl) (fun b hb hne=>?_)
    have:=hTA.lt hb
    exact(hk4.block b (by omega) hne).trans (hk3.block b this hne)
   ·refine⟨fun g=>?_,fun g=>?_,fun g=>?_⟩
    ·show g∈s'.names↔_
     rw[hG.names]
     constructor
     ·rintro(h| ⟨j,hj,rfl⟩)
      ·exact .inl h
      ·exact .inr (zis _ _)
     ·rintro(h|h)
      ·exact .inl h
      ·obtain⟨j,hj,rfl⟩:=ziq h
       exact .inr ⟨j,by omega,rfl⟩
    ·simp only[TS.set]
     split
     ·rfl
     ·exact hG.val g
    ·simp only[TS.set]
     split
     ·rfl
     ·exact hG.has g
   ·have hb1:∀b,tblk tb s' b→b<w.heap.size→tblk tb s b:=fun b hb hlt=>(hblk b hb).resolve_right (by omega)
    have hKs:=hKA.size
    refine⟨by rw[hk4.os,hk3.os,hKA.os],by rw[hk4.tape,hk3.tape,hKA.tape],by rw[hk4.output,hk3.output,hKA.output],by omega,fun b hb hnb=>?_,Nat.le_trans hKA.drawn (Nat.le_trans hk3.drawn hk4.drawn)⟩
    have hne:b≠s'.nb (zag n):=fun e=>hnb (hb1 b (.inr ⟨_,hin,.inl e⟩) hb)
    exact(hk4.block b (by omega) hne).trans ((hk3.block b (by omega) hne).trans (hKA.block b hb hnb))
   ·exact hblk
def encK(k:Lab)(_:World)(args:Array Value):Prop:=args=#[vs k]
def preK(l:List (Lab×Value))(pre:List Lab)(k:Lab):Prop:=k∈l.map (·.1)∧k∉pre∧pre.Nodup∧∀j∈pre,j∈l.map (·.1)
def fullK(l:List (Lab×Value))(xs:List Lab):Prop:=xs.Perm (l.map (·.1))
theorem zb5{α:Type}[DecidableEq α]:∀{l m:List α},l.Nodup→(∀a∈l,a∈m)→l.length≤m.length
 | [],_,_,_=>Nat.zero_le _
 |a::l,m,h,hs=>by
  have h1:=List.nodup_cons.1 h
  have ha:=hs a (List.mem_cons_self ..)
  have:=zb5 (l:=l) (m:=m.erase a) h1.2 (fun b hb=>(List.mem_erase_of_ne (fun (e:b=a)=>h1.1 (e▸hb))).2 (hs b (List.mem_cons_of_mem _ hb)))
  rw[List.length_erase_of_mem ha]at this
  have:=List.length_pos_of_mem ha
  simp;omega
theorem keys1_ok{W0:World}{n0:Nat}{C:Nat→Prop}{b m:Nat}{l:List (Lab×Value)}(hb:W0.cell? ⟨b,0,Option.none⟩=some (.map (some m)))(hm:MapAt W0 m l)(hn:(l.map (·.1)).Nodup)
  (hbn:b<n0) (hbC:¬C b) (hmn:m<n0) (hmC:¬C m):
  zhB Tryz.prog 274 #[.pointer (some ⟨b,0,Option.none⟩)] W0 n0 C 1 (preK l) (fullK l) encK:=by
 intro lp J Jx W hW hnW hJ hJx hY h0
 have hmW:MapAt W m l:=hm.block (hW.block _ (by obtain⟨es,clk,h1,_⟩:=hm;exact(Array.getElem?_eq_some_iff.1 h1).1) (fun h=>h))
 have hcell:zah W (some ⟨b,0,Option.none⟩)=some (.map (some m)):=zdR hW hb
 refine enter Tryz.func274 Tryz.ntmps274 rfl rfl ?_
 repeat refine c_r ?_
 refine rq ?_;intro gd K hgd hK
 try simp (disch:=first|omega|assumption|rfl) only[go_sem,hcell]
 refine op_range rfl (vq0) hmW ?_
 intro W1 hit1 hE1 hs1
 try simp only[go_sem]
 refine hK _ _ ?_;clear hK hgd;clear K;try clear gd
 repeat refine c_r ?_
 refine zai (fun k σ ds v=>ds=[]∧σ 5= .pointer (some ⟨W.heap.size,0,Option.none⟩)∧σ 0= .func (.yield lp) #[] #[]∧∃pre,MapIt v W.heap.size m l pre∧J pre v∧KeepB n0 C W v∧W.heap.size+1≤v.heap.size∧
  pre.Nodup∧(∀j∈pre,j∈l.map (·.1))∧k+pre.length=(l.map (·.1)).length) (l.map (·.1)).length ?_ ?_
 ·refine⟨rfl,vq0,vq0,[],hit1,?_,hE1.toB hnW (fun _ _ h=>h.elim),by omega,by simp,by simp,by simp⟩
  exact hJ _ _ _ h0 (hE1.mono (fun _ _ h=>h.elim))
 ·rintro k σ ds v ⟨rfl,h5,hf0,pre,hit,hj,hKB,hsz,hnd,hsub,hlen⟩
  repeat refine c_r ?_
  refine rq ?_;intro gd K hgd hK
  try simp (disch:=first|omega|assumption|rfl) only[go_sem,h5]
  have hkr:∀x,Keep (fun b=>b=W.heap.size) v x→KeepB n0 C W x:=fun x hx=>hKB.trans (hx.toB (by have:=hKB.size;omega) (fun i hi h=>by omega))
  refine op_next ((vq1 h5)) hit hn ?_ ?_
  ·intro hall
   try simp only[go_sem]
   refine hK _ _ ?_;clear hK hgd;clear K;try clear gd
   repeat refine c_r ?_
   refine wc0 ?_ ?_
   ·intro h;simp at h
   ·intro _
    repeat refine c_r ?_
    refine zat (by simp) rfl (.inl ⟨pre,?_,hj⟩)
    exact(List.perm_ext_iff_of_nodup hnd hn).2 fun a=>⟨hsub a,hall a⟩
  ·intro key u w2 hkv hnk hit2 hk2 hs2
   have hkm:key∈l.map (·.1):=List.mem_map.2 ⟨_,hkv,rfl⟩
   try simp only[go_sem]
   refine hK _ _ ?_;clear hK hgd;clear K;try clear gd
   repeat refine c_r ?_
   refine wc0 ?_ ?_
   ·intro _
    repeat refine c_r ?_
    refine rq ?_;intro gd K hgd hK
    try simp (disch:=first|omega|assumption|rfl) only[go_sem,h5]
    refine op_entry ((vq1 h5)) hit2 (fun u'=>?_)
    try simp only[go_sem]
    refine hK _ _ ?_;clear hK hgd;clear K;try clear gd
    have hj2:J pre w2:=hJ _ _ _ hj (hk2.mono (fun i _ h=>by unfold span;omega))
    repeat refine c_r ?_
    refine rq ?_;intro gd K hgd hK
    try simp (disch:=first|omega|assumption|rfl) only[go_sem,hf0]
    refine Yld.mono (hY pre key w2 _ ⟨hkm,hnk,hnd,hsub⟩ hj2 (by omega) (hkr _ hk2) rfl) ?_
    rintro u z (⟨rfl,hj',hk',ho'⟩| ⟨rfl,hjx⟩)
    ·try simp only[go_sem]
     refine hK _ _ ?_;clear hK hgd;clear K;try clear gd
     repeat refine c_r ?_
     refine wc0 ?_ ?_
     ·intro h;simp at h
     ·intro _
      repeat refine c_r ?_
      have hnd':(pre++ [key]).Nodup:=by
       rw[List.nodup_append]
       exact⟨hnd,by simp,fun a ha b hb=>by simp at hb;subst hb;rintro rfl;exact hnk ha⟩
      have hsub':∀j∈pre++ [key],j∈l.map (·.1):=fun j hj=>by
       rcases List.mem_append.1 hj with h|h
       ·exact hsub j h
       ·rw[List.mem_singleton.1 h];exact hkm
      have hlt:(pre++ [key]).length≤(l.map (·.1)).length:=zb5 hnd' hsub'
      refine⟨k - 1,?_,rfl,(vq1 h5),(vq1 hf0),pre++ [key],?_,hj',(hkr _ hk2).trans hk',?_,hnd',hsub',?_⟩
      ·simp at hlt hlen;omega
      ·refine hit2.block ?_ (ho' _ (by unfold span;omega))
       exact hk'.block _ hmn hmC
      ·have:=hk'.size;omega
      ·simp at hlt hlen ⊢;omega
    ·try simp only[go_sem]
     refine hK _ _ ?_;clear hK hgd;clear K;try clear gd
     repeat refine c_r ?_
     refine wc0 ?_ ?_
     ·intro _
      repeat refine c_r ?_
      exact zat (by simp) rfl (.inr ⟨pre,key,⟨hkm,hnk,hnd,hsub⟩,hjx⟩)
     ·intro h;simp at h
   ·intro h;simp at h
theorem Keys_ok{w:World}{m:Nat}{l:List (Lab×Value)}(hm:MapAt w m l)(hn:(l.map (·.1)).Nodup):
  Fn Tryz.prog 228 #[.map (some m)] w (fun v w'=>Ext w w'∧∃cap,v= .func (.func 274) #[] cap∧
   ∀n0 C,w'.heap.size≤n0→(∀b,C b→w'.heap.size≤b)→zhB Tryz.prog 274 cap w' n0 C 1 (preK l) (fullK l) encK):=by
 refine enter Tryz.func228 Tryz.ntmps228 rfl rfl ?_
 repeat refine c_r ?_
 refine rg0 ?_
 repeat refine c_r ?_
 refine rg0 ?_
 repeat refine c_r ?_
 refine rt0 Tryz.ntmps228 ?_
 have hmlt:m<w.heap.size:=by obtain⟨es,clk,h1,_⟩:=hm;exact(Array.getElem?_eq_some_iff.1 h1).1
 refine⟨Ext.alloc _ _,_,rfl,fun n0 C hn0 hC=>?_⟩
 rw[zap]at hn0 hC
 refine keys1_ok ?_ (hm.block (RowKit.Below.heap_alloc _ _ _ hmlt)) hn (by omega) (fun h=>by have:=hC _ h;omega) (by omega) (fun h=>by have:=hC _ h;omega)
 rw[zaG (zam _ _)];rfl
end Go.Proofs.YtahbdamijngmmaaGreat.T_bool
namespace Go.Proofs.YtahbdamijngmmaaGreat
open Go
set_option maxRecDepth 10000
theorem zby{S:Nat→Prop}{w x:World}{base:Nat}{e:TypeId}{size:Nat}{v:Value}{n:Nat}{xs:List Value}(h:w.ownsRow base e size v n xs)(hk:Keep S w x)(hS:∀b,base≤b→¬S b):x.ownsRow base e size v n xs:=by
 obtain⟨h1,h2⟩:=h
 refine⟨h1,?_⟩
 rcases h2 with h2| ⟨g,cap,cur,hv,hb,hg,rest⟩
 ·exact .inl h2
 ·exact .inr ⟨g,cap,cur,hv,hb,(hk.block _ (Array.getElem?_eq_some_iff.1 hg).1 (hS _ hb)).trans hg,rest⟩
theorem zhS{w:World}{base:Nat}{e:TypeId}{size:Nat}{v:Value}{n:Nat}{xs:List Value}(h:w.ownsRow base e size v n xs){b:Nat}(hb:some b=v.ownBlock):base≤b:=by
 rcases h.2 with ⟨rfl,_⟩| ⟨g,cap,cur,rfl,hg,_⟩
 ·cases hb
 ·cases hb;exact hg
def encT(k:Lab)(_:World)(args:Array Value):Prop:=args=#[vs k]
theorem zg0{w:World}{g:FuncId}{cap:Array Value}{own:Nat}{Pre:List Lab→Lab→Prop}{Full:List Lab→Prop}(hc:zao Tryz.prog g=true)
  (hit:∀n0 C,w.heap.size≤n0→(∀b,C b→w.heap.size≤b)→zhB Tryz.prog g cap w n0 C own Pre Full encT) (hlen:∀pre x,Pre pre x→pre.length<1000000000000):
  Fn Tryz.prog 295 #[.slice Option.none 0 0,.func (.func g) #[] cap] w (fun v w'=>Ext w w'∧∃xs,Full xs∧w'.ownsRow w.heap.size 9 1 v xs.length (xs.map vs)):=by
 refine enter Tryz.func295 Tryz.ntmps295 rfl rfl ?_
 repeat refine c_r ?_
 refine rg0 ?_
 repeat refine c_r ?_
 refine rg0 ?_
 repeat refine c_r ?_
 have hbox:=zam w (.cells #[.slice Option.none 0 0] 26 (0,0))
 have hE0:=Ext.alloc w (.cells #[.slice Option.none 0 0] 26 (0,0))
 have hs0:=zap w (.cells #[.slice Option.none 0 0] 26 (0,0))
 revert hbox hE0 hs0
 generalize w.alloc (.cells #[.slice Option.none 0 0] 26 (0,0))=w1
 intro hbox hE0 hs0
 refine zie (g:=g) (cap:=cap) (vq0) hc (hit w1.heap.size (fun b=>b=w.heap.size) hE0.size (fun b hb=>by omega)) hE0 (Nat.le_refl _) (fun b hb=>by omega)
  (fun x A args h=>by rw[h];rfl)
  (fun pre A=>Ext w A∧∃v,A.heap[w.heap.size]? =some (.cells #[v] 26 (0,0))∧A.ownsRow (w1.heap.size+2+own) 9 1 v pre.length (pre.map vs))
  (fun _ _ _=>False) ?_ (fun _ _ _ _ h _=>h.elim) ?_ ?_ ?_ (fun _ _ _ _ _ _ h _=>h.elim)
 ·rintro pre A B ⟨h1,v,h2,h3⟩ hk
  exact⟨Keep.to_ext h1 rfl (fun b hb=>by unfold span at hb;omega) hk,v,(hk.block _ (Array.getElem?_eq_some_iff.1 h2).1 (by unfold span;omega)).trans h2,zby h3 hk (fun b hb=>by unfold span;omega)⟩
 ·exact⟨hE0,_,hbox,rfl,.inl ⟨rfl,rfl⟩⟩
 ·rintro lp pre x A args hpx hszA ⟨hEA,v,hbx,hown⟩ rfl
  repeat (first|refine c_r ?_|refine rg0 ?_)
  refine⟨rfl,KeepB.refl _ _ _,fun A2 hA2=>?_⟩
  have hEA2:Ext w A2:=Keep.to_ext hEA rfl (fun b hb=>by unfold two at hb;omega) hA2
  have hb2:=(hA2.block _ (Array.getElem?_eq_some_iff.1 hbx).1 (by unfold two;omega)).trans hbx
  have hown2:=zby hown hA2 (fun b hb=>by unfold two;omega)
  have hs2:=hA2.size
  have hcell:zah A2 (some ⟨w.heap.size,0,Option.none⟩)=some v:=by
   show A2.cell? _=_
   rw[zaG hb2];rfl
  have hpl:=hlen _ _ hpx
  have hvs:∃a n c,v= .slice a n c:=by
   rcases hown2.2 with ⟨rfl,_⟩| ⟨g,cap,cur,rfl,_⟩
   ·exact⟨_,_,_,rfl⟩
   ·exact⟨_,_,_,rfl⟩
  obtain⟨sa,sn,sc,rfl⟩:=hvs
  repeat refine c_r ?_
  refine rq ?_;intro gd K hgd hK
  try simp (disch:=first|omega|assumption|rfl) only[go_sem,hcell]
  have hbs:bsC Tryz.prog 26 1 [(0,vs x)]=some (9,#[vs x]):=zf1 (z:=vs []) rfl rfl rfl rfl rfl
  unfold bsL bsK
  rw[hbs]
  simp only[]
  have hbn:=zam A2 (.cells #[vs x] 9 (0,0))
  have hE3:=Ext.alloc A2 (.cells #[vs x] 9 (0,0))
  have hs3:=zap A2 (.cells #[vs x] 9 (0,0))
  revert hbn hE3 hs3
  generalize A2.alloc (.cells #[vs x] 9 (0,0))=A3
  intro hbn hE3 hs3
  try simp only[go_sem]
  refine zcS (P:=Tryz.prog) (e:=9) (size:=1) (bytes:=16) (m:=1) (news:=[vs x]) rfl rfl rfl rfl rfl rfl (by decide) (vr0) (vr0) (zby hown2 hE3 (fun _ _ h=>h)) ?_ ?_ ?_ ?_ (by omega) ?_
  ·refine⟨_,_,rfl,rfl,fun j hj=>?_⟩
   have:j=0:=by simpa using hj
   subst this
   rw[zaU]
   show A3.cell? _=_
   rw[zaG hbn];rfl
  ·intro q hq
   rw[List.mem_singleton.1 hq];rfl
  ·simp[maxLen];omega
  ·omega
  intro v' A4 hown4 hk4 _
  have hge:∀b,some b=(Value.slice sa sn sc).ownBlock→w1.heap.size+2+own≤b:=fun b hb=>zhS hown2 hb
  have hb4:=(hk4.block _ (by have:=(Array.getElem?_eq_some_iff.1 hb2).1;omega) (fun h=>by have:=hge _ h;omega)).trans ((hE3.block _ (Array.getElem?_eq_some_iff.1 hb2).1 (fun h=>h)).trans hb2)
  have hov:one v'=true:=by
   rcases hown4.2 with ⟨rfl,_⟩| ⟨g,cap,cur,rfl,_⟩<;>rfl
  try simp only[go_sem]
  refine zbj rfl rfl hov hb4 (by simp) (by simp) ?_
  intro A5 hs5 hb5 hk5
  refine hK _ _ ?_;clear hK hgd;clear K;try clear gd
  repeat refine c_r ?_
  have hs4:=hk4.size
  refine⟨⟨?_,v',hb5,?_⟩,((hE3.toB (by omega) (fun _ _ h=>h.elim)).trans (hk4.toB (by omega) (fun b hb h=>by have:=hge _ h;omega))).trans (hk5.toB (by omega) (fun b _ h=>h))⟩
  ·exact Keep.to_ext (Keep.to_ext (hEA2.trans hE3) rfl (fun b hb=>by have:=hge _ hb;omega) hk4) rfl (fun b hb=>by omega) hk5
  ·have:=zby hown4 hk5 (fun b hb=>by omega)
   simpa using this
 ·rintro xs w4 hfull hsz4 ⟨hE4,v,hb4,hown4⟩ hD
  have hcell:zah w4 (some ⟨w.heap.size,0,Option.none⟩)=some v:=by
   show w4.cell? _=_
   rw[zaG hb4];rfl
  repeat refine c_r ?_
  refine rg1 hcell ?_
  repeat refine c_r ?_
  refine zdF (by simp) rfl Tryz.ntmps295 (by simp only[go_sem];rfl) hD ?_
  intro w5 hk5 _
  have h5:=zby hown4 hk5 (fun b hb=>by omega)
  refine⟨Keep.to_ext hE4 rfl (fun b hb=>by omega) hk5,xs,hfull,h5.1,?_⟩
  rcases h5.2 with h| ⟨g,c,cur,h1,h2,h3⟩
  ·exact .inl h
  ·exact .inr ⟨g,c,cur,h1,by omega,h3⟩
theorem zi2{w:World}{g:FuncId}{cap:Array Value}{own:Nat}{Pre:List Lab→Lab→Prop}{Full:List Lab→Prop}(hc:zao Tryz.prog g=true)
  (hit:∀n0 C,w.heap.size≤n0→(∀b,C b→w.heap.size≤b)→zhB Tryz.prog g cap w n0 C own Pre Full encT) (hlen:∀pre x,Pre pre x→pre.length<1000000000000):
  Fn Tryz.prog 272 #[.func (.func g) #[] cap] w (fun v w'=>Ext w w'∧∃xs,Full xs∧w'.ownsRow w.heap.size 9 1 v xs.length (xs.map vs)):=by
 refine enter Tryz.func272 Tryz.ntmps272 rfl rfl ?_
 repeat refine c_r ?_
 refine rg0 ?_
 repeat refine c_r ?_
 refine rq ?_;intro gd K hgd hK
 try simp only[go_sem]
 refine Fn.mono (zg0 hc hit hlen) ?_
 rintro v w1 ⟨hE,xs,hf,ho⟩
 try simp only[go_sem]
 refine hK _ _ ?_;clear hK hgd;clear K;try clear gd
 repeat refine c_r ?_
 refine rt0 Tryz.ntmps272 ?_
 exact⟨hE,xs,hf,ho⟩
end Go.Proofs.YtahbdamijngmmaaGreat
namespace Go.Proofs
open Go.Shelf
def Tryz.sortL_ren:Go.Shelf.Ren:=⟨fun|6=>273|15=>145|14=>296|28=>192|29=>193|20=>307|21=>308|22=>309|23=>310|24=>311|25=>312|26=>313|27=>314|46=>317|47=>236|48=>237|49=>318|50=>319|57=>321|n=>n,fun|22=>26|24=>9|25=>306|3=>3|39=>262|0=>0|53=>199|55=>324|4=>4|46=>316|45=>315|50=>265|5=>5|9=>9|66=>368|70=>372|76=>404|77=>133|n=>n,fun|n=>n⟩
theorem Tryz.sortL:Go.Proofs.SlLaysF.n6 Tryz.prog Tryz.sortL_ren:={
 mixed:=by kernel_rfl
 f6:=⟨Tryz.f273.name,by decide,Tryz.func273.trans (congrArg some (by kernel_rfl))⟩
 f14:=⟨Tryz.f296.name,by decide,Tryz.func296.trans (congrArg some (by kernel_rfl))⟩
 f15:=Tryz.func145.trans (congrArg some (by kernel_rfl))
 f20:=⟨Tryz.f307.name,by decide,Tryz.func307.trans (congrArg some (by kernel_rfl))⟩
 f21:=⟨Tryz.f308.name,by decide,Tryz.func308.trans (congrArg some (by kernel_rfl))⟩
 f22:=⟨Tryz.f309.name,by decide,Tryz.func309.trans (congrArg some (by kernel_rfl))⟩
 f23:=⟨Tryz.f310.name,by decide,Tryz.func310.trans (congrArg some (by kernel_rfl))⟩
 f24:=⟨Tryz.f311.name,by decide,Tryz.func311.trans (congrArg some (by kernel_rfl))⟩
 f25:=⟨Tryz.f312.name,by decide,Tryz.func312.trans (congrArg some (by kernel_rfl))⟩
 f26:=⟨Tryz.f313.name,by decide,Tryz.func313.trans (congrArg some (by kernel_rfl))⟩
 f27:=⟨Tryz.f314.name,by decide,Tryz.func314.trans (congrArg some (by kernel_rfl))⟩
 f28:=Tryz.func192.trans (congrArg some (by kernel_rfl))
 f29:=Tryz.func193.trans (congrArg some (by kernel_rfl))
 f46:=⟨Tryz.f317.name,by decide,Tryz.func317.trans (congrArg some (by kernel_rfl))⟩
 f47:=Tryz.func236.trans (congrArg some (by kernel_rfl))
 f48:=Tryz.func237.trans (congrArg some (by kernel_rfl))
 f49:=⟨Tryz.f318.name,by decide,Tryz.func318.trans (congrArg some (by kernel_rfl))⟩
 f50:=⟨Tryz.f319.name,by decide,Tryz.func319.trans (congrArg some (by kernel_rfl))⟩
 f57:=⟨Tryz.f321.name,by decide,Tryz.func321.trans (congrArg some (by kernel_rfl))⟩
 t0:=Tryz.underlying0
 a0:=Tryz.isAgg0
 z0:=Tryz.sizeOf0
 v0:=Tryz.zeroValue0
 t3:=Tryz.underlying3
 a3:=Tryz.isAgg3
 z3:=Tryz.sizeOf3
 v3:=Tryz.zeroValue3
 t4:=Tryz.underlying4
 a4:=Tryz.isAgg4
 z4:=Tryz.sizeOf4
 v4:=Tryz.zeroValue4
 t5:=Tryz.underlying5
 a5:=Tryz.isAgg5
 z5:=Tryz.sizeOf5
 v5:=Tryz.zeroValue5
 t9:=Tryz.underlying9
 a9:=Tryz.isAgg9
 z9:=Tryz.sizeOf9
 v9:=Tryz.zeroValue9
 t22:=Tryz.underlying26
 a22:=Tryz.isAgg26
 z22:=Tryz.sizeOf26
 v22:=Tryz.zeroValue26
 a24:=Tryz.isAgg9
 z24:=Tryz.sizeOf9
 t25:=Tryz.underlying306
 a25:=Tryz.isAgg306
 z25:=Tryz.sizeOf306
 v25:=Tryz.zeroValue306
 t39:=Tryz.underlying262
 a39:=Tryz.isAgg262
 z39:=Tryz.sizeOf262
 v39:=Tryz.zeroValue262
 t45:=Tryz.underlying315
 a45:=Tryz.isAgg315
 z45:=Tryz.sizeOf315
 v45:=Tryz.zeroValue315
 t46:=Tryz.underlying316
 a46:=Tryz.isAgg316
 z46:=Tryz.sizeOf316
 v46:=Tryz.zeroValue316
 t50:=Tryz.underlying265
 a50:=Tryz.isAgg265
 z50:=Tryz.sizeOf265
 v50:=Tryz.zeroValue265
 t53:=Tryz.underlying199
 a53:=Tryz.isAgg199
 z53:=Tryz.sizeOf199
 v53:=Tryz.zeroValue199
 t55:=Tryz.underlying324
 a55:=Tryz.isAgg324
 z55:=Tryz.sizeOf324
 v55:=Tryz.zeroValue324
 t66:=Tryz.underlying368
 a66:=Tryz.isAgg368
 z66:=Tryz.sizeOf368
 v66:=Tryz.zeroValue368
 t70:=Tryz.underlying372
 a70:=Tryz.isAgg372
 z70:=Tryz.sizeOf372
 v70:=Tryz.zeroValue372
 t76:=Tryz.underlying404
 a76:=Tryz.isAgg404
 z76:=Tryz.sizeOf404
 v76:=Tryz.zeroValue404
 t77:=Tryz.underlying133
 a77:=Tryz.isAgg133
 z77:=Tryz.sizeOf133
 v77:=Tryz.zeroValue133}
end Go.Proofs
namespace Go.Proofs.YtahbdamijngmmaaGreat
open Go
set_option maxRecDepth 10000
theorem zhg{w w':World}(h:Ext w w'):w'=Go.Sort.grow (w.drewN (w'.drawn - w.drawn)) (w'.heap.extract w.heap.size w'.heap.size):=by
 have h1:=h.drawn
 have h2:=h.size
 cases w;cases w'
 obtain⟨e1,e2,e3,_,hb,_⟩:=h
 simp only at e1 e2 e3 hb h1 h2
 subst e1 e2 e3
 simp only[Go.Sort.grow,World.drewN,World.mk.injEq,true_and,and_true]
 refine⟨?_,by omega⟩
 apply Array.ext_getElem?
 intro i
 rw[Array.getElem?_append]
 split
 ·rename_i hi;exact hb i hi (fun h=>h)
 ·rename_i hi
  rw[Array.getElem?_extract]
  split
  ·congr 1;omega
  ·rw[Array.getElem?_eq_none (by omega)]
structure FLab where
 val:Lab
 fold:zaF val=val
 len:val.length≤9000000000000000000
instance:Inhabited FLab:=⟨⟨[],rfl,by decide⟩⟩
def encF(x:FLab):Value:=vs x.val
def cmpF(x y:FLab):Int:=cmpL x.val y.val
theorem FLab.eq{x y:FLab}(h:x.val=y.val):x=y:=by cases x;cases y;cases h;rfl
theorem ltF_t{x y:FLab}:Go.Proofs.ltOf cmpF x y=true↔cmpL x.val y.val<0:=by unfold Go.Proofs.ltOf;exact decide_eq_true_iff
theorem ziC{x y:FLab}:Go.Proofs.ltOf cmpF x y=false↔¬cmpL x.val y.val<0:=by unfold Go.Proofs.ltOf;exact decide_eq_false_iff_not
theorem swoF:Go.Sort.SWO (Go.Proofs.ltOf cmpF):=by
 refine⟨fun x=>?_,fun x y z h1 h2=>?_,fun x y z h1 h2=>?_⟩
 ·rw[ziC,zcW];omega
 ·rw[ltF_t]at*
  exact zcH h1 (by omega)
 ·rw[ziC]at*
  have b1:=zbp x.val y.val
  have b2:=zbp y.val z.val
  have b3:=zbp x.val z.val
  have:=zdg (a:=z.val) (b:=y.val) (c:=x.val) (by omega) (by omega)
  omega
theorem sortWorld_keep{α:Type}[Inhabited α]{enc:α→Value}{w:World}{blk off n:Nat}{d:Array α}{os:Array Obj}:Keep (fun b=>b=blk) w (sortWorld enc w blk off n d os):=by
 refine⟨rfl,rfl,rfl,?_,fun b hb hne=>?_,?_⟩
 ·show w.heap.size≤((w.heap.modify blk _)++os).size
  simp
 ·show((w.heap.modify blk _)++os)[b]? =_
  rw[Array.getElem?_append_left (by simpa using hb),Array.getElem?_modify,if_neg (Ne.symm hne)]
 ·show w.drawn≤w.drawn+n
  omega
theorem zeG{α:Type}[Inhabited α]{enc:α→Value}{w:World}{blk off n:Nat}{d:Array α}{os:Array Obj}{cur:Array Value}{e:TypeId}{fr:Nat×Nat}(h:w.heap[blk]? =some (.cells cur e fr)):
  (sortWorld enc w blk off n d os).heap[blk]? =some (.cells (Go.Sort.putCells enc off d cur) e fr):=by
 show((w.heap.modify blk _)++os)[blk]? =_
 have hlt:=(Array.getElem?_eq_some_iff.1 h).1
 rw[Array.getElem?_append_left (by simpa using hlt),Array.getElem?_modify,if_pos rfl,h]
 rfl
theorem zhx{w:World}{B:Nat}{v:Value}{xs:List Lab}(hown:w.ownsRow B 9 1 v xs.length (xs.map vs))(hfold:∀x∈xs,zaF x=x)(hlab:∀x∈xs,x.length≤9000000000000000000)(hlen:xs.length≤1000000000000):
  Fn Tryz.prog 273 #[v,.func (.func 176) #[] #[]] w (fun _ w'=>w'.ownsRow B 9 1 v xs.length ((zdn xs).map vs)∧Keep (fun b=>some b=v.ownBlock) w w'):=by
 obtain⟨hl,hcase⟩:=hown
 rcases hcase with ⟨rfl,h0⟩| ⟨g,cap,cur,rfl,hB,hg,hn,hcap,hcs,htake⟩
 ·refine Fn.of_calls (Calls.mono (AnyF.slices_SortFunc_none {Tryz.sortL with} Option.none 0 _ w) ?_)
  rintro _ _ ⟨rfl,rfl⟩
  have:xs=[]:=List.length_eq_zero_iff.1 h0
  subst this
  exact⟨_,rfl,⟨by simp[zdn],.inl ⟨rfl,rfl⟩⟩,Keep.refl _ _⟩
 ·obtain⟨ds,hds⟩:∃ds:List FLab,ds.map (·.val)=xs:=by
   refine⟨xs.pmap (fun x (h:zaF x=x∧x.length≤9000000000000000000)=>FLab.mk x h.1 h.2) (fun x hx=>⟨hfold x hx,hlab x hx⟩),?_⟩
   rw[List.map_pmap];simp
  have hdl:ds.length=xs.length:=by rw[←hds];simp
  have hto:∀x y:FLab,Go.Proofs.ltOf cmpF x y=false→Go.Proofs.ltOf cmpF y x=false→x=y:=fun x y h1 h2=>by
   rw[ziC]at h1 h2
   have:=zbp x.val y.val
   exact FLab.eq (zbz (by omega))
  have hcell:∀j (hj:j<ds.length),cur[j]? =some (encF ds[j]):=fun j hj=>by
   have h1:(xs.map vs)[j]? =some (vs (xs[j]'(by omega))):=by rw[List.getElem?_map,List.getElem?_eq_getElem (by omega)];rfl
   rw[←htake,List.getElem?_take,if_pos (by omega)]at h1
   have h2:xs[j]'(by omega)=ds[j].val:=by simp[←hds]
   rw[h2]at h1
   simpa [encF] using h1
  have key:=Any.slices_SortFunc_total Tryz.sortL encF (fun x=>rfl) cmpF swoF 176 #[] g 0 cap ds.toArray w
   (fun args w=>zbR rfl)
   (fun m os dk hdk x y=>by
    refine Calls.mono (Fn.calls (zfl _ x.val y.val x.len y.len)) ?_
    rintro _ w' ⟨_,rfl,rfl,hE⟩
    rw[x.fold,y.fold]
    exact⟨rfl,_,_,zhg hE⟩)
   (fun j hj=>by
    have hj':j<ds.length:=by simpa using hj
    rw[zaG hg,zeX hg,Nat.zero_add,hcell j hj',getElem!_pos _ j hj]
    simp)
   (Array.getElem?_eq_some_iff.1 hg).1 (by simp;omega) hto
  rw[show ds.toArray.size=xs.length from by simpa using hdl]at key
  refine Fn.of_calls (Calls.mono key ?_)
  rintro _ _ ⟨rfl,n,os,rfl⟩
  refine⟨_,rfl,?_,sortWorld_keep.mono (fun b _ hb=>by rw[hb];rfl)⟩
  have hsort:(ds.mergeSort fun x y=>!Go.Proofs.ltOf cmpF y x).map (·.val)=zdn xs:=by
   refine zgc ?_ (zcd _) ?_
   ·rw[List.pairwise_map]
    have:=List.pairwise_mergeSort (le:=fun x y:FLab=>!Go.Proofs.ltOf cmpF y x) (fun a b c h1 h2=>by
     rw[Bool.not_eq_true']at*
     exact swoF.ntrans c b a h2 h1) (fun a b=>by
     rw[Bool.or_eq_true,Bool.not_eq_true',Bool.not_eq_true',ziC,ziC]
     have:=zbp a.val b.val
     omega) ds
    refine this.imp (fun {a b} h=>?_)
    rw[Bool.not_eq_true',ziC]at h
    simp only[leL,decide_eq_true_eq]
    have:=zbp a.val b.val
    omega
   ·have h1:=(List.mergeSort_perm ds (fun x y=>!Go.Proofs.ltOf cmpF y x)).map (·.val)
    rw[hds]at h1
    exact h1.trans (zbH xs).symm
  obtain⟨es,hes⟩:∃es,(ds.mergeSort fun x y=>!Go.Proofs.ltOf cmpF y x)=es:=⟨_,rfl⟩
  have hesl:es.length=xs.length:=by rw[←hes,List.length_mergeSort,hdl]
  show World.ownsRow (sortWorld encF w g 0 n (ds.mergeSort fun x y=>!Go.Proofs.ltOf cmpF y x).toArray os) B _ _ _ _ _
  rw[hes]at hsort ⊢
  rw[←hsort]
  refine⟨by simp[hesl],.inr ⟨g,cap,_,rfl,hB,zeG hg,hn,hcap,by simpa [Go.Sort.putCells] using hcs,?_⟩⟩
  apply List.ext_getElem?
  intro j
  rw[List.getElem?_take]
  split
  ·rename_i hj
   simp only[Nat.mul_one]at hj
   rw[Array.getElem?_toList]
   unfold Go.Sort.putCells
   rw[Array.getElem?_mapIdx]
   have hj2:j<cur.size:=by rw[hcs];omega
   rw[Array.getElem?_eq_getElem hj2]
   simp only[Option.map_some,Nat.zero_le,true_and,Nat.zero_add,Nat.sub_zero]
   have hj3:j<es.toArray.size:=by simp[hesl];exact hj
   rw[if_pos hj3,getElem!_pos _ j hj3]
   simp[encF,hesl,hj]
  ·rename_i hj
   rw[List.getElem?_eq_none (by simp[hesl];omega)]
theorem zf5{w:World}{g:FuncId}{cap:Array Value}{own:Nat}{Pre:List Lab→Lab→Prop}{Full:List Lab→Prop}(hc:zao Tryz.prog g=true)
  (hit:∀n0 C,w.heap.size≤n0→(∀b,C b→w.heap.size≤b)→zhB Tryz.prog g cap w n0 C own Pre Full encT) (hlen:∀pre x,Pre pre x→pre.length<1000000000000)
  (hfull:∀xs,Full xs→xs.length≤1000000000000∧∀x∈xs,zaF x=x∧x.length≤9000000000000000000):
  Fn Tryz.prog 227 #[.func (.func g) #[] cap,.func (.func 176) #[] #[]] w (fun v w'=>Ext w w'∧∃xs,Full xs∧RowB w.heap.size w' v ((zdn xs).map vs)):=by
 refine enter Tryz.func227 Tryz.ntmps227 rfl rfl ?_
 repeat refine c_r ?_
 refine rg0 ?_
 repeat refine c_r ?_
 refine rq ?_;intro gd K hgd hK
 try simp only[go_sem]
 refine Fn.mono (zi2 hc hit hlen) ?_
 rintro v w1 ⟨hE,xs,hf,ho⟩
 have hvs:∃a n c,v= .slice a n c:=by
  rcases ho.2 with ⟨rfl,_⟩| ⟨g,cap,cur,rfl,_⟩
  ·exact⟨_,_,_,rfl⟩
  ·exact⟨_,_,_,rfl⟩
 obtain⟨sa,sn,sc,rfl⟩:=hvs
 try simp only[go_sem]
 refine hK _ _ ?_;clear hK hgd;clear K;try clear gd
 repeat refine c_r ?_
 refine rq ?_;intro gd K hgd hK
 try simp only[go_sem]
 refine Fn.mono (zhx ho (fun x hx=>((hfull xs hf).2 x hx).1) (fun x hx=>((hfull xs hf).2 x hx).2) (hfull xs hf).1) ?_
 rintro u w2 ⟨ho2,hk2⟩
 try simp only[go_sem]
 refine hK _ _ ?_;clear hK hgd;clear K;try clear gd
 repeat refine c_r ?_
 refine rg0 ?_
 repeat refine c_r ?_
 refine rt0 Tryz.ntmps227 ?_
 exact⟨Keep.to_ext hE rfl (fun b hb=>zhS ho hb) hk2,xs,hf,RowB.of_owns ho2⟩
--??end
end Go.Proofs.YtahbdamijngmmaaGreat
namespace Go.Proofs.YtahbdamijngmmaaGreat.T_bool
open Go Go.Proofs.YtahbdamijngmmaaGreat
set_option maxRecDepth 10000
structure Small(s:TS):Prop where
 fold:∀g∈s.names,zag g=g
 lb:∀g∈s.names,LB g
 many:s.names.length≤1000000000
theorem zgv{names:List Nm}(h:names.Nodup)(f:Nm):(zaS names f).Nodup:=by
 unfold zaS
 rw[List.nodup_iff_pairwise_ne]at h ⊢
 rw[List.pairwise_filterMap]
 refine h.imp (fun {a b} hab x hx y hy e=>?_)
 subst e
 apply hab
 cases a with
 |nil=>cases hx
 |cons p t=>
  cases b with
  |nil=>cases hy
  |cons q t'=>
   simp only at hx hy
   split at hx
   ·split at hy
    ·cases hx;cases hy;rename_i h1 h2;rw[h1,h2]
    ·cases hy
   ·cases hx
theorem zbV(s:TS)(f:Nm):(za6 s f).map (·.1)=zaS s.names f:=by
 unfold za6;rw[List.map_map];simp[Function.comp_def]
theorem zeU{w:World}{tb:Nat}{s:TS}{f:Nm}(hT:TAt w tb s)(hs:TOk s)(hS:Small s)(hf:f∈s.names):
  Fn Tryz.prog 179 #[zav (s.nb f)] w (fun v w'=>RowB w.heap.size w' v ((zdn (zaS s.names f)).map vs)∧Ext w w'):=by
 have hc:zah w (some ⟨s.nb f,0,Option.none⟩)=some (.map (some (s.mb f))):=by
  show w.cell? _=_
  rw[zaG (hT.node _ hf)];rfl
 have hnd:=zgv hs.nd f
 have hkl:(zaS s.names f).length≤s.names.length:=by unfold zaS;exact List.length_filterMap_le _ _
 have hmany:=hS.many
 refine enter Tryz.func179 Tryz.ntmps179 rfl rfl ?_
 repeat refine c_r ?_
 refine rg0 ?_
 repeat refine c_r ?_
 refine rq ?_;intro gd K hgd hK
 try simp (disch:=first|omega|assumption|rfl) only[go_sem,zav,hc]
 refine Fn.mono (Keys_ok (hT.map f hf) (by rw[zbV];exact hnd)) ?_
 rintro _ w1 ⟨hE1,cap,rfl,hit⟩
 try simp only[go_sem]
 refine Fn.mono (zf5 (own:=1) (by rfl) (fun n0 C h1 h2=>hit n0 C h1 h2) ?_ ?_) ?_
 ·rintro pre x ⟨h1,h2,h3,h4⟩
  rw[zbV]at h4
  have:=zb5 h3 h4
  omega
 ·intro xs hp
  unfold fullK at hp
  rw[zbV]at hp
  refine⟨by rw[hp.length_eq];omega,fun x hx=>?_⟩
  have hx':=za1.1 (hp.mem_iff.1 hx)
  refine⟨?_,hS.lb _ hx' _ (List.mem_cons_self ..)⟩
  have:=hS.fold _ hx'
  simp only[zag,List.map_cons,List.cons.injEq]at this
  exact this.1
 rintro v w2 ⟨hE2,xs,hp,hrow⟩
 try simp only[go_sem]
 refine hK _ _ ?_;clear hK hgd;clear K;try clear gd
 repeat refine c_r ?_
 refine rt0 Tryz.ntmps179 ?_
 unfold fullK at hp
 rw[zbV]at hp
 refine⟨?_,hE1.trans hE2⟩
 rw[←zg2 hp];exact hrow.mono hE1.size
theorem all_ok{W00 W:World}{n0:Nat}{C:Nat→Prop}{tb B0:Nat}{s:TS}{lp:Nat}{full:List Nm}{J:List Nm→(Nat→Prop)→World→Prop}{Jx:List Nm→World→Prop}
  (hT:TAt W00 tb s) (hs:TOk s) (hS:Small s) (hdeep:∀g∈s.names,g.length≤100000000000) (hE:Ext W00 W) (hC:∀b,C b→W00.heap.size≤b∧b<W.heap.size) (hn0:W00.heap.size≤n0) (hnW:n0≤W.heap.size) (hB0:B0≤W.heap.size)
  (hJ:∀pre U A B,J pre U A→Ext A B→J pre U B)
  (hY:∀pre U x suf A args,full=pre++x::suf→J pre U A→W.heap.size≤A.heap.size→KeepB n0 C W A→encN B0 x U A args→Yld Tryz.prog lp args A (fun v B=>
   (v= .bool true∧∃U',J (pre++ [x]) U' B∧(∀b,U' b→U b∨(A.heap.size≤b∧b<B.heap.size))∧KeepR n0 W.heap.size (fun b=>C b∨U b) A B)∨(v= .bool false∧Jx (pre++ [x]) B))):
  ∀(fuel:Nat) (f:Nm) (A:World) (U:Nat→Prop) (pre suf:List Nm) (nv:Value),f∈s.names→(∀g∈s.names,g.length<f.length+fuel)→full=pre++allN s.names fuel f++suf→J pre U A→
   (∀b,U b→W.heap.size≤b∧b<A.heap.size)→W.heap.size≤A.heap.size→KeepB n0 C W A→RowZ W.heap.size U A nv (f.map vs)→
   Fn Tryz.prog 136 #[zav (s.nb f),nv,.func (.yield lp) #[] #[]] A (fun v B=>
    (v= .bool true∧∃U',J (pre++allN s.names fuel f) U' B∧(∀b,U' b→U b∨(A.heap.size≤b∧b<B.heap.size))∧KeepR n0 W.heap.size (fun b=>C b∨U b) A B)∨(v= .bool false∧∃p x q,full=p++x::q∧Jx (p++ [x]) B)):=by
 have fact:∀X,KeepB n0 C W X→TAt X tb s:=fun X hX=>hT.ext (KeepB.to_ext hE hX hn0 (fun b hb=>(hC b hb).1))
 have hCW:∀b,C b→b<W.heap.size:=fun b hb=>(hC b hb).2
 intro fuel
 induction fuel with
 |zero=>
  intro f A U pre suf nv hf hlen
  have:=hlen f hf
  omega
 |succ fuel ih=>
  intro f A U pre suf nv hf hlen hfull hj hU hWA hKB hrow
  have hhead:full=pre++f::(((zdn (zaS s.names f)).map fun l=>allN s.names fuel (l::f)).flatten++suf):=by rw[hfull];simp[allN]
  have hnvs:∃na nn nc,nv= .slice na nn nc:=by obtain⟨a,c,h,_⟩:=hrow.1;exact⟨_,_,_,h⟩
  obtain⟨na,nn,nc,rfl⟩:=hnvs
  refine enter Tryz.func136 Tryz.ntmps136 rfl rfl ?_
  repeat refine c_r ?_
  refine rg0 ?_
  repeat refine c_r ?_
  refine rq ?_;intro gd K hgd hK
  try simp only[go_sem]
  refine Yld.mono (hY pre U f _ A _ hhead hj hWA hKB ⟨_,rfl,hrow.low hB0⟩) ?_
  rintro v B (⟨rfl,U1,hj1,hU1,hk1⟩| ⟨rfl,hjx⟩)
  ·try simp only[go_sem]
   refine hK _ _ ?_;clear hK hgd;clear K;try clear gd
   have hs1:=hk1.size
   have hU1':∀b,U1 b→W.heap.size≤b∧b<B.heap.size:=fun b hb=>by
    rcases hU1 b hb with h|h
    ·have:=hU b h;omega
    ·omega
   have hKB1:=hk1.toB hKB (by omega) (fun b hb=>by have:=(hU b hb).1;omega)
   have hrow1:=hrow.keep hk1 hCW hU1
   repeat refine c_r ?_
   refine wc0 ?_ ?_
   ·intro h;simp at h
   ·intro _
    repeat refine c_r ?_
    refine rq ?_;intro gd K hgd hK
    try simp only[go_sem]
    refine Fn.mono (zeU (fact B hKB1) hs hS hf) ?_
    rintro lv B2 ⟨hlv,hE2⟩
    have hlz:=RowZ.of_base (n1:=W.heap.size) hlv (by omega) (fun b hb=>(hU1' b hb).2)
    have hlen2:(zdn (zaS s.names f)).length≤1000000000:=by
     rw[(zbH _).length_eq]
     exact Nat.le_trans (List.length_filterMap_le _ _) hS.many
    generalize hks:zdn (zaS s.names f)=ks at*
    obtain⟨la,lc,rfl,hlc,hll⟩:=id hlz.1
    rw[List.length_map]at*
    try simp only[go_sem]
    refine hK _ _ ?_;clear hK hgd;clear K;try clear gd
    repeat refine c_r ?_
    refine zai (fun m σ ds v=>ds=[]∧∃i U',i+m=ks.length∧σ 16=vi i∧σ 15=vi ks.length∧σ 14= .slice la ks.length lc∧σ 0=zav (s.nb f)∧σ 1= .slice na nn nc∧σ 2= .func (.yield lp) #[] #[]∧
     J (pre++f::((ks.take i).map fun l=>allN s.names fuel (l::f)).flatten) U' v∧(∀b,U' b→U b∨(A.heap.size≤b∧b<v.heap.size))∧KeepR n0 W.heap.size (fun b=>C b∨U b) A v∧
     RowZ W.heap.size U' v (.slice na nn nc) (f.map vs)∧RowZ W.heap.size U' v (.slice la ks.length lc) (ks.map vs)) ks.length ?_ ?_
    ·refine⟨rfl,0,U1,by omega,by simp only[go_sem];rfl,vq0,vq0,vq0,vq0,vq0,?_,?_,?_,hrow1.ext hE2,hlz⟩
     ·simpa using hJ _ _ _ _ hj1 hE2
     ·intro b hb
      have:=hE2.size
      rcases hU1 b hb with h|h
      ·exact .inl h
      ·exact .inr ⟨h.1,by omega⟩
     ·exact hk1.next hU1 (KeepR.of_ext hE2)
    ·rintro m σ ds v ⟨rfl,i,U',him,h16,h15,h14,h0,h1,h2,hji,hUi,hki,hni,hli⟩
     have hKBv:=hki.toB hKB (by omega) (fun b hb=>by have:=(hU b hb).1;omega)
     have hsv:=hki.size
     have hUv:∀b,U' b→W.heap.size≤b∧b<v.heap.size:=fun b hb=>by
      rcases hUi b hb with h|h
      ·have:=hU b h;omega
      ·omega
     repeat refine c_r ?_
     refine rg2 h16 h15 ?_
     repeat refine c_r ?_
     refine wc0 ?_ ?_
     ·intro hlt
      simp only[decide_eq_true_eq]at hlt
      have hi:i<ks.length:=by omega
      obtain⟨la',lc',hle,_,hll'⟩:=id hli.1
      simp only[List.length_map]at hle hll'
      cases hle
      have hsa:la.isSome=true:=zad (hll' i hi)
      have hkid:ks[i]::f∈s.names:=za1.1 ((zbH _).mem_iff.1 (by rw[hks];exact List.getElem_mem hi))
      repeat refine c_r ?_
      refine rq ?_;intro gd K hgd hK;simp (disch:=first|omega|assumption|rfl) only[go_sem,h16,h14,hll',List.getElem_map];refine hK _ _ ?_;clear hK hgd;clear K gd
      repeat refine c_r ?_
      refine zaL (fun i=>i==10||i==11) [(0,true),(1,true),(2,true),(3,true),(4,true),(5,true),(6,true),(7,true),(9,true),(8,false),(10,false),(11,false)] NoS mixed (by kernel_rfl) ?_;intro gd K x hgd hx hxe hK;clear hxe
      have hTx:=(fact v hKBv).ext hx
      have hmb:zah x (some ⟨s.nb f,0,Option.none⟩)=some (.map (some (s.mb f))):=by
       show x.cell? _=_
       rw[zaG (hTx.node _ hf)];rfl
      have hlk:=(hTx.map _ hf).lk (P:=Tryz.prog) (t:=301) (kt:=9) (et:=235) (z:= .pointer Option.none) rfl rfl rfl ks[i]
      rw[zd5,if_pos hkid,Option.getD_some]at hlk
      unfold zav at h0
      simp (disch:=first|omega|assumption|rfl) only[go_sem,h0,h1,h2,hmb,hlk]
      refine⟨fun _ _ h=>h,?_⟩
      refine Fn.mono (zim x _ _ f (hni.1.ext hx) (by have:=hdeep f hf;omega)) ?_
      rintro cv y ⟨hcv,hy⟩
      refine⟨.inr hy,?_⟩
      simp (disch:=first|omega|assumption|rfl) only[go_sem,h0,h1,h2]
      have hxs:=hx.size
      have hys:=hy.size
      have hEy:=hx.trans hy
      have hki2:=hki.next hUi (KeepR.of_ext hEy)
      have hsplit:((ks.take (i+1)).map fun l=>allN s.names fuel (l::f)).flatten=((ks.take i).map fun l=>allN s.names fuel (l::f)).flatten++allN s.names fuel (ks[i]::f):=by
       rw[zak hi,List.map_append,List.flatten_append]
       simp only[List.map_cons,List.map_nil,List.flatten_cons,List.flatten_nil,List.append_nil]
      have hall:(ks.map fun l=>allN s.names fuel (l::f)).flatten=((ks.take i).map fun l=>allN s.names fuel (l::f)).flatten++allN s.names fuel (ks[i]::f)++((ks.drop (i+1)).map fun l=>allN s.names fuel (l::f)).flatten:=by
       conv=>lhs;rw[zcc hi]
       rw[List.map_append,List.map_cons,List.flatten_append,List.flatten_cons,List.append_assoc]
      have hfull2:full=(pre++f::((ks.take i).map fun l=>allN s.names fuel (l::f)).flatten)++allN s.names fuel (ks[i]::f)++(((ks.drop (i+1)).map fun l=>allN s.names fuel (l::f)).flatten++suf):=by
       rw[hhead,hall];simp
      refine Fn.mono (ih (ks[i]::f) y U' _ _ cv hkid (fun g hg=>by have:=hlen g hg;simp;omega) hfull2 (hJ _ _ _ _ hji hEy) (fun b hb=>by have:=hUv b hb;omega) (by omega) (hki2.toB hKB (by omega) (fun b hb=>by have:=(hU b hb).1;omega))
       (RowZ.of_base hcv (by omega) (fun b hb=>by have:=(hUv b hb).2;omega))) ?_
      rintro r D hres
      refine⟨.inl rfl,?_⟩
      rcases hres with ⟨rfl,U2,hj2,hU2,hk2⟩| ⟨rfl,hbad⟩
      ·simp (disch:=first|omega|assumption|rfl) only[go_sem]
       refine⟨.inl rfl,?_⟩
       refine hK _ _ ?_;clear hK hgd;clear K;try clear gd
       have hDs:=hk2.size
       have hUD:∀b,U2 b→U' b∨(v.heap.size≤b∧b<D.heap.size):=fun b hb=>by
        rcases hU2 b hb with h|h
        ·exact .inl h
        ·exact .inr (by omega)
       have hU2':∀b,U2 b→U b∨(A.heap.size≤b∧b<D.heap.size):=fun b hb=>by
        rcases hUD b hb with h|h
        ·rcases hUi b h with h'|h'
         ·exact .inl h'
         ·exact .inr (by omega)
        ·exact .inr (by omega)
       have hkv:KeepR n0 W.heap.size (fun b=>C b∨U' b) v D:=(KeepR.of_ext hEy).next (U':=U') (fun b hb=> .inl hb) hk2
       repeat refine c_r ?_
       refine wc0 ?_ ?_
       ·intro h;simp at h
       ·intro _
        repeat refine c_r ?_
        refine rg1 h16 ?_
        repeat refine c_r ?_
        refine⟨m - 1,by omega,rfl,i+1,U2,by omega,by simp only[go_sem];rfl,(vq1 h15),(vq1 h14),(vq1 h0),(vq1 h1),(vq1 h2),?_,hU2',hki.next hUi hkv,hni.keep hkv hCW hUD,hli.keep hkv hCW hUD⟩
        rw[hsplit,←List.cons_append,←List.append_assoc];exact hj2
      ·simp (disch:=first|omega|assumption|rfl) only[go_sem]
       refine⟨.inl rfl,?_⟩
       refine hK _ _ ?_;clear hK hgd;clear K;try clear gd
       repeat refine c_r ?_
       refine wc0 ?_ ?_
       ·intro _
        repeat refine c_r ?_
        refine rg0 ?_
        repeat refine c_r ?_
        refine rt0 Tryz.ntmps136 ?_
        exact .inr ⟨rfl,hbad⟩
       ·intro h;simp at h
     ·intro hge
      simp only[decide_eq_false_iff_not]at hge
      repeat refine c_r ?_
      refine rg0 ?_
      repeat refine c_r ?_
      refine rt0 Tryz.ntmps136 ?_
      rw[List.take_of_length_le (by omega)]at hji
      refine .inl ⟨rfl,U',?_,hUi,hki⟩
      rw[allN,hks];exact hji
  ·try simp only[go_sem]
   refine hK _ _ ?_;clear hK hgd;clear K;try clear gd
   repeat refine c_r ?_
   refine wc0 ?_ ?_
   ·intro _
    repeat refine c_r ?_
    refine rg0 ?_
    repeat refine c_r ?_
    refine rt0 Tryz.ntmps136 ?_
    exact .inr ⟨rfl,_,_,_,hhead,hjx⟩
   ·intro h;simp at h
theorem bsC_nil{P:Program}{t e:TypeId}{z:Value}(hu:tyU P t=some (.slice e))(hz:tyZ P e=some z)(hs:z.cells.size=tyS P e):bsC P t 0 []=some (e,#[]):=by
 simp[bsC,hu,hz,hs,Instr.fill]
theorem zjL{W00 W0:World}{n0:Nat}{C:Nat→Prop}{b1 tb:Nat}{s:TS}{fuel:Nat}(hT:TAt W00 tb s)(hs:TOk s)(hS:Small s)(hdeep:∀g∈s.names,g.length≤100000000000)(hfuel:∀g∈s.names,g.length<fuel)
  (hE:Ext W00 W0) (hC:∀b,C b→W00.heap.size≤b∧b<W0.heap.size) (hn0:W00.heap.size≤n0) (h1:W0.cell? ⟨b1,0,Option.none⟩=some (zav tb)):
  IterU Tryz.prog 135 #[zav b1] W0 n0 C 0 (fun pre x=>∃suf,allN s.names fuel []=pre++x::suf) (fun l=>l=allN s.names fuel []) encN:=by
 intro lp J Jx W hW hnW hJ hJx hY h0
 have hEW:=hE.trans hW
 have hc1:zah W (some ⟨b1,0,Option.none⟩)=some (zav tb):=zdR hW h1
 have hroot:zah W (some ⟨tb,0,Option.none⟩)=some (zav (s.nb [])):=by
  show W.cell? _=_
  rw[zaG (hT.ext hEW).root];rfl
 unfold zav at hc1 hroot
 have hJ':∀pre U A B,J pre U A→Ext A B→J pre U B:=fun pre U A B hj hk=>hJ pre U A B hj (hk.mono (fun _ _ h=>h.elim))
 refine enter Tryz.func135 Tryz.ntmps135 rfl rfl ?_
 repeat refine c_r ?_
 refine rq ?_;intro gd K hgd hK
 try simp (disch:=first|omega|assumption|rfl) only[go_sem,zav,hc1,hroot]
 have hbs:bsC Tryz.prog 27 0 []=some (9,#[]):=bsC_nil (z:=vs []) rfl rfl rfl
 unfold bsL bsK
 rw[hbs]
 simp only[]
 have hbn:=zam W (.cells #[] 9 (0,0))
 have hEn:=Ext.alloc W (.cells #[] 9 (0,0))
 have hsn:=zap W (.cells #[] 9 (0,0))
 revert hbn hEn hsn
 generalize W.alloc (.cells #[] 9 (0,0))=W1
 intro hbn hEn hsn
 try simp only[go_sem]
 refine Fn.mono (all_ok (J:=J) (Jx:=Jx) (full:=allN s.names fuel []) (B0:=W.heap.size) hT hs hS hdeep hEW (fun b hb=>⟨(hC b hb).1,by have:=(hC b hb).2;have:=hW.size;omega⟩) hn0 hnW (Nat.le_refl _) hJ'
  (fun pre U x suf A args e hj hsz hkb hen=>hY pre U x A args ⟨suf,e⟩ hj (by omega) hkb hen) fuel [] W1 NoS [] [] _ hs.nil (fun g hg=>by have:=hfuel g hg;simpa using this) (by simp) (hJ' _ _ _ _ h0 hEn) (fun _ h=>h.elim) (by omega)
  (hEn.toB hnW (fun _ _ h=>h.elim)) ⟨⟨some ⟨W.heap.size,0,Option.none⟩,0,rfl,Nat.le_refl _,fun j h=>by simp at h⟩,fun a n c hv=>by cases hv;exact⟨Nat.le_refl _,by show W.heap.size<_;omega,fun h=>h⟩⟩) ?_
 intro v B hres
 try simp only[go_sem]
 refine hK _ _ ?_;clear hK hgd;clear K;try clear gd
 repeat refine c_r ?_
 refine zat (by simp) rfl ?_
 rcases hres with ⟨_,U',hj,_⟩| ⟨_,p,x,q,e,hjx⟩
 ·exact .inl ⟨_,U',rfl,by simpa using hj⟩
 ·exact .inr ⟨p,x,⟨q,e⟩,hjx⟩
def NRows(B:Nat)(U:Nat→Prop)(A:World)(vals:List Value)(ns:List Nm):Prop:=vals.length=ns.length∧∀i (h:i<vals.length) (h':i<ns.length),RowZ B U A vals[i] (ns[i].map vs)
theorem NRows.keep{B:Nat}{U U' X:Nat→Prop}{A D:World}{vals:List Value}{ns:List Nm}(h:NRows B U A vals ns)(hk:Keep X A D)(hX:∀b,X b→B≤b→b<A.heap.size→U b)(hU:∀b,U' b→U b∨A.heap.size≤b):NRows B U' D vals ns:=by
 refine⟨h.1,fun i h1 h2=>?_⟩
 obtain⟨hr,hz⟩:=h.2 i h1 h2
 refine⟨hr.blocks (fun a n c hv=>?_),fun a n c hv=>?_⟩
 ·obtain⟨k1,k2,k3⟩:=hz a n c hv
  exact hk.block _ k2 (fun hx=>k3 (hX _ hx k1 k2))
 ·obtain⟨k1,k2,k3⟩:=hz a n c hv
  have:=hk.size
  refine⟨k1,by omega,fun hu=>?_⟩
  rcases hU _ hu with h'|h'
  ·exact k3 h'
  ·omega
theorem zkF{w:World}{tb:Nat}{s:TS}{fuel:Nat}(hT:TAt w tb s)(hs:TOk s)(hS:Small s)(hdeep:∀g∈s.names,g.length≤100000000000)(hfuel:∀g∈s.names,g.length<fuel)(hlen:(allN s.names fuel []).length≤1000000000):
  Fn Tryz.prog 80 #[zav tb] w (fun v w'=>Ext w w'∧∀S:Nat→Prop,(∀b,S b→b<w.heap.size)→NamesZ S w' v (allN s.names fuel [])):=by
 refine enter Tryz.func80 Tryz.ntmps80 rfl rfl ?_
 repeat refine c_r ?_
 refine rg0 ?_
 repeat refine c_r ?_
 refine rg0 ?_
 repeat refine c_r ?_
 refine rg0 ?_
 repeat refine c_r ?_
 refine rg0 ?_
 repeat refine c_r ?_
 have hb1:=zam w (.cells #[zav tb] 147 (0,0))
 have hE1:=(Ext.alloc w (.cells #[zav tb] 147 (0,0))).trans (Ext.alloc _ (.cells #[.slice Option.none 0 0] 57 (0,0)))
 have hb1':=(RowKit.Below.heap_alloc _ (.cells #[.slice Option.none 0 0] 57 (0,0)) _ (by simp)).trans hb1
 have hb3:=zam (w.alloc (.cells #[zav tb] 147 (0,0))) (.cells #[.slice Option.none 0 0] 57 (0,0))
 have hs1:((w.alloc (.cells #[zav tb] 147 (0,0))).alloc (.cells #[.slice Option.none 0 0] 57 (0,0))).heap.size=w.heap.size+2:=by simp
 rw[zap]at hb3
 rw[zap]
 unfold zav at hb1' hE1 hb3 hs1
 revert hb1' hE1 hb3 hs1
 generalize (w.alloc (.cells #[.pointer (some ⟨tb,0,Option.none⟩)] 147 (0,0))).alloc (.cells #[.slice Option.none 0 0] 57 (0,0))=w1
 intro hE1 hb1' hb3 hs1
 refine zid (own:=0) (n0:=w1.heap.size) (C:=fun b=>b=w.heap.size+1) (vq0) (by rfl) (zjL (b1:=w.heap.size) hT hs hS hdeep hfuel hE1 (fun b hb=>by omega) hE1.size (by rw[zaG hb1'];rfl)) (Keep.refl _ _) (Nat.le_refl _) (fun b hb=>by omega)
  (fun x U A args h=>by obtain⟨nv,rfl,_⟩:=h;rfl)
  (fun pre U A=>Ext w A∧∃v vals,A.heap[w.heap.size+1]? =some (.cells #[v] 57 (0,0))∧A.ownsRow (w1.heap.size+2) 27 1 v pre.length vals∧NRows (w1.heap.size+2) U A vals pre∧(∀b,some b=v.ownBlock→U b))
  (fun _ _ _=>False) ?_ (fun _ _ _ _ h _=>h.elim) ?_ ?_ ?_ (fun _ _ _ _ _ _ h _=>h.elim)
 ·rintro pre U A B ⟨h1,v,vals,h2,h3,h4,h5⟩ hU hk
  refine⟨Keep.to_ext h1 rfl (fun b hb=>by unfold span at hb;omega) hk,v,vals,(hk.block _ (Array.getElem?_eq_some_iff.1 h2).1 (by unfold span;omega)).trans h2,zby h3 hk (fun b hb=>by unfold span;omega),h4.keep hk (fun b hb h1 _=>by unfold span at hb;omega) (fun b hb=> .inl hb),h5⟩
 ·exact⟨hE1,_,[],hb3,⟨rfl,.inl ⟨rfl,rfl⟩⟩,⟨rfl,fun i h=>by simp at h⟩,fun b hb=>by cases hb⟩
 ·rintro lp pre U x A args hpx hszA ⟨hEA,v,vals,hbx,hown,hrows,hUv⟩ hU ⟨nv,rfl,hnv⟩
  have hnvs:∃xa xn xc,nv= .slice xa xn xc:=by obtain⟨a,c,h,_⟩:=hnv.1;exact⟨_,_,_,h⟩
  obtain⟨xa,xn,xc,rfl⟩:=hnvs
  repeat (first|refine c_r ?_|refine rg0 ?_)
  refine⟨rfl,Keep.refl _ _,fun A2 hA2=>?_⟩
  have hEA2:Ext w A2:=Keep.to_ext hEA rfl (fun b hb=>by unfold two at hb;omega) hA2
  have hb2:=(hA2.block _ (Array.getElem?_eq_some_iff.1 hbx).1 (by unfold two;omega)).trans hbx
  have hown2:=zby hown hA2 (fun b hb=>by unfold two;omega)
  have hrows2:NRows (w1.heap.size+2) U A2 vals pre:=hrows.keep hA2 (fun b hb h1 _=>by unfold two at hb;omega) (fun b hb=> .inl hb)
  have hs2:=hA2.size
  have hcell:zah A2 (some ⟨w.heap.size+1,0,Option.none⟩)=some v:=by
   show A2.cell? _=_
   rw[zaG hb2];rfl
  have hpl:pre.length≤1000000000:=by obtain⟨q,e⟩:=hpx;have:=congrArg List.length e;simp at this;omega
  have hvs:∃a n c,v= .slice a n c:=by
   rcases hown2.2 with ⟨rfl,_⟩| ⟨g,cap,cur,rfl,_⟩
   ·exact⟨_,_,_,rfl⟩
   ·exact⟨_,_,_,rfl⟩
  obtain⟨sa,sn,sc,rfl⟩:=hvs
  repeat refine c_r ?_
  refine rq ?_;intro gd K hgd hK
  try simp (disch:=first|omega|assumption|rfl) only[go_sem,hcell]
  have hbs:bsC Tryz.prog 57 1 [(0,Value.slice xa xn xc)]=some (27,#[Value.slice xa xn xc]):=zf1 (z:= .slice Option.none 0 0) rfl rfl rfl rfl rfl
  unfold bsL bsK
  rw[hbs]
  simp only[]
  have hbn:=zam A2 (.cells #[Value.slice xa xn xc] 27 (0,0))
  have hE3:=Ext.alloc A2 (.cells #[Value.slice xa xn xc] 27 (0,0))
  have hs3:=zap A2 (.cells #[Value.slice xa xn xc] 27 (0,0))
  revert hbn hE3 hs3
  generalize A2.alloc (.cells #[Value.slice xa xn xc] 27 (0,0))=A3
  intro hbn hE3 hs3
  try simp only[go_sem]
  refine zcS (P:=Tryz.prog) (e:=27) (size:=1) (bytes:=24) (m:=1) (news:=[Value.slice xa xn xc]) rfl rfl rfl rfl rfl rfl (by decide) (vr0) (vr0) (zby hown2 hE3 (fun _ _ h=>h)) ?_ ?_ ?_ ?_ (by omega) ?_
  ·refine⟨_,_,rfl,rfl,fun j hj=>?_⟩
   have:j=0:=by simpa using hj
   subst this
   rw[zaU]
   show A3.cell? _=_
   rw[zaG hbn];rfl
  ·intro q hq
   rw[List.mem_singleton.1 hq];rfl
  ·simp[maxLen];omega
  ·omega
  intro v' A4 hown4 hk4 ⟨_,hwhere⟩
  have hge:∀b,some b=(Value.slice sa sn sc).ownBlock→w1.heap.size+2≤b:=fun b hb=>zhS hown2 hb
  have hb4:=(hk4.block _ (by have:=(Array.getElem?_eq_some_iff.1 hb2).1;omega) (fun h=>by have:=hge _ h;omega)).trans ((hE3.block _ (Array.getElem?_eq_some_iff.1 hb2).1 (fun h=>h)).trans hb2)
  have hov:one v'=true:=by
   rcases hown4.2 with ⟨rfl,_⟩| ⟨g,cap,cur,rfl,_⟩<;>rfl
  try simp only[go_sem]
  refine zbj rfl rfl hov hb4 (by simp) (by simp) ?_
  intro A5 hs5 hb5 hk5
  refine hK _ _ ?_;clear hK hgd;clear K;try clear gd
  repeat refine c_r ?_
  have hs4:=hk4.size
  have hrows4:NRows (w1.heap.size+2) (fun b=>U b∨some b=v'.ownBlock) A5 (vals++ [Value.slice xa xn xc]) (pre++ [x]):=by
   have hA4:Keep (fun b=>b=w.heap.size+1∨some b=(Value.slice sa sn sc).ownBlock) A2 A5:=((hE3.keep).trans (hk4.mono (fun b _ hb=> .inr hb))).trans (hk5.mono (fun b _ hb=> .inl hb))
   have hnv2:RowZ (w1.heap.size+2) U A2 (.slice xa xn xc) (x.map vs):=by
    refine⟨hnv.1.blocks (fun a n c hv=>?_),fun a n c hv=>?_⟩
    ·obtain⟨k1,k2,k3⟩:=hnv.2 a n c hv
     exact hA2.block _ k2 (by unfold two;omega)
    ·obtain⟨k1,k2,k3⟩:=hnv.2 a n c hv
     exact⟨k1,by omega,k3⟩
   have hall:NRows (w1.heap.size+2) U A2 (vals++ [Value.slice xa xn xc]) (pre++ [x]):=by
    refine⟨by simp[hrows2.1],fun i h1 h2=>?_⟩
    by_cases hi:i<vals.length
    ·have hi':i<pre.length:=by rw[←hrows2.1];exact hi
     rw[List.getElem_append_left hi,List.getElem_append_left hi']
     exact hrows2.2 i hi hi'
    ·have e1:i=vals.length:=by simp at h1;omega
     have e2:i=pre.length:=by rw[e1,hrows2.1]
     have g1:(vals++ [Value.slice xa xn xc])[i]= .slice xa xn xc:=by subst e1;simp
     have g2:(pre++ [x])[i]=x:=by subst e2;simp
     rw[g1,g2];exact hnv2
   refine hall.keep hA4 (fun b hb h1 _=>?_) (fun b hb=>?_)
   ·rcases hb with hb|hb
    ·omega
    ·exact hUv b hb
   ·rcases hb with hb|hb
    ·exact .inl hb
    ·rcases hwhere b hb with h|h
     ·exact .inl (hUv b h)
     ·exact .inr (by omega)
  refine⟨fun b=>U b∨some b=v'.ownBlock,⟨?_,v',_,hb5,?_,hrows4,fun b hb=> .inr hb⟩,?_,?_⟩
  ·exact Keep.to_ext (Keep.to_ext (hEA2.trans hE3) rfl (fun b hb=>by have:=hge _ hb;omega) hk4) rfl (fun b hb=>by omega) hk5
  ·have:=zby hown4 hk5 (fun b hb=>by omega)
   simpa using this
  ·intro b hb
   rcases hb with hb|hb
   ·exact .inl hb
   ·rcases hwhere b hb with h|h
    ·exact .inl (hUv b h)
    ·refine .inr ⟨by omega,?_⟩
     rcases hown4.2 with ⟨rfl,_⟩| ⟨g,cap,cur,rfl,_,hg,_⟩
     ·cases hb
     ·cases hb
      have:=(Array.getElem?_eq_some_iff.1 hg).1
      show g<_
      omega
  ·exact((hE3.keep).trans (hk4.mono (fun b _ hb=> .inr (hUv b hb)))).trans (hk5.mono (fun b _ hb=> .inl hb))
 ·rintro xs U w4 rfl hsz4 hU ⟨hE4,v,vals,hb4,hown4,hrows,hUv⟩ hD
  have hcell:zah w4 (some ⟨w.heap.size+1,0,Option.none⟩)=some v:=by
   show w4.cell? _=_
   rw[zaG hb4];rfl
  repeat refine c_r ?_
  refine rq ?_;intro gd K hgd hK
  try simp (disch:=first|omega|assumption|rfl) only[go_sem,hcell]
  refine Fn.mono (ClipN_ok (Row.of_owns hown4)) ?_
  rintro u w5 ⟨⟨hu,hE5⟩,huv⟩
  have hv4:∀a n c,v= .slice (some a) n c→w1.heap.size+2≤a.block∧a.block<w4.heap.size:=by
   have hge:∀b,some b=v.ownBlock→w1.heap.size+2≤b:=fun b hb=>zhS hown4 hb
   intro a n c hv
   rcases hown4.2 with ⟨h,_⟩| ⟨g,cap,cur,h,_,hg,_⟩
   ·rw[h]at hv;cases hv
   ·rw[h]at hv hge;cases hv
    exact⟨hge _ rfl,(Array.getElem?_eq_some_iff.1 hg).1⟩
  try simp only[go_sem]
  refine hK _ _ ?_;clear hK hgd;clear K;try clear gd
  repeat refine c_r ?_
  refine zdF (by simp) rfl Tryz.ntmps80 (by simp only[go_sem];rfl) ((hE5.block _ (Array.getElem?_eq_some_iff.1 hD).1 (fun h=>h)).trans hD) ?_
  intro w6 hk6 _
  have hD5:=(hE5.block _ (Array.getElem?_eq_some_iff.1 hD).1 (fun h=>h)).trans hD
  have hs5:=hE5.size
  have hs6':=hk6.size
  refine⟨Keep.to_ext (hE4.trans hE5) rfl (fun b hb=>by omega) hk6,fun S hS=>⟨vals,⟨hu.shut hD5 hk6,fun a n c h=>?_⟩,hrows.1,fun i h1 h2=>⟨((hrows.2 i h1 h2).1.ext hE5).shut hD5 hk6,fun a n c h=>?_⟩⟩⟩
  ·obtain⟨n',c',h'⟩:=huv _ _ _ h
   obtain⟨k1,k2⟩:=hv4 _ _ _ h'
   exact⟨Nat.zero_le _,by omega,fun h=>by have:=hS _ h;omega⟩
  ·obtain⟨k1,k2,k3⟩:=(hrows.2 i h1 h2).2 _ _ _ h
   exact⟨Nat.zero_le _,by omega,fun h=>by have:=hS _ h;omega⟩
structure TI(w0 w:World)(tb:Nat)(s:TS)(ps:List (Nm×Value)):Prop where
 lies:TAt w tb s
 ok:TOk s
 hist:Hist (.bool false) s ps
 new:∀b,tblk tb s b→w0.heap.size≤b
 ext:Ext w0 w
theorem TI.on{w0 w x:World}{tb:Nat}{s:TS}{ps:List (Nm×Value)}(h:TI w0 w tb s ps)(hE:Ext w x):TI w0 x tb s ps:=
 ⟨h.lies.ext hE,h.ok,h.hist,h.new,h.ext.trans hE⟩
theorem TI.lt{w0 w:World}{tb:Nat}{s:TS}{ps:List (Nm×Value)}(h:TI w0 w tb s ps):∀b,tblk tb s b→b<w.heap.size:=fun _ hb=>h.lies.lt hb
theorem New_ti(w0 w:World)(hE:Ext w0 w):Fn Tryz.prog 126 #[] w (fun v w'=>Ext w w'∧∃tb s,v=zav tb∧TI w0 w' tb s []∧∀b,tblk tb s b→w.heap.size≤b):=by
 refine Fn.mono (New_ok w) ?_
 rintro _ w' ⟨rfl,hE',hok,hat⟩
 refine⟨hE',_,_,rfl,⟨hat,hok,⟨fun g=>?_,fun g=>rfl,fun g=>rfl⟩,fun b hb=>?_,hE.trans hE'⟩,fun b hb=>?_⟩
 ·simp[ts0]
 ·have:=hE.size
  rcases hb with rfl| ⟨g,_,rfl|rfl⟩<;>(try simp only[ts0])<;>omega
 ·rcases hb with rfl| ⟨g,_,rfl|rfl⟩<;>(try simp only[ts0])<;>omega
def Still(tb:Nat)(s:TS)(w:World)(nv:Value)(l:List Value):Prop:=∀A,Keep (tblk tb s) w A→Row A nv l
theorem TI.still{w0 w:World}{tb:Nat}{s:TS}{ps:List (Nm×Value)}(h:TI w0 w tb s ps){nv:Value}{l:List Value}(hr:Row w0 nv l):Still tb s w nv l:=fun _ hA=>hr.ext (Keep.to_ext h.ext rfl h.new hA)
theorem Still.of_row{tb:Nat}{s:TS}{w:World}{nv:Value}{l:List Value}(h:RowZ 0 (tblk tb s) w nv l):Still tb s w nv l:=fun _ hA=>(h.turn hA (fun _ h=> .inl h)).1
theorem Put_ti{w0 w:World}{tb:Nat}{s:TS}{ps:List (Nm×Value)}{n:Nm}{nv v:Value}(h:TI w0 w tb s ps)(hr:Still tb s w nv (n.map vs))(hn:LB n)(hlen:n.length≤9000000000000000000)(hv:one v=true):
  Fn Tryz.prog 128 #[zav tb,nv,v] w (fun _ w'=>∃s',TI w0 w' tb s' (ps++ [(n,v)])∧Keep (tblk tb s) w w'∧(∀b,tblk tb s' b→tblk tb s b∨w.heap.size≤b)):=by
 refine Fn.mono (Put_ok h.lies h.ok hr hn hlen hv) ?_
 rintro _ w' ⟨s',hok,hat,hput,hk,hb⟩
 refine⟨s',⟨hat,hok,⟨fun g=>?_,fun g=>?_,fun g=>?_⟩,fun b hb'=>?_,Keep.to_ext h.ext rfl h.new hk⟩,hk,hb⟩
 ·rw[hput.names,h.hist.names]
  constructor
  ·rintro((rfl| ⟨p,hp,hs⟩)|hs)
   ·exact .inl rfl
   ·exact .inr ⟨p,List.mem_append_left _ hp,hs⟩
   ·exact .inr ⟨(n,v),by simp,hs⟩
  ·rintro(rfl| ⟨p,hp,hs⟩)
   ·exact .inl (.inl rfl)
   ·rcases List.mem_append.1 hp with hp|hp
    ·exact .inl (.inr ⟨p,hp,hs⟩)
    ·rw[List.mem_singleton.1 hp]at hs;exact .inr hs
 ·rw[hput.val,zfw]
  by_cases e:zag n=g
  ·rw[if_pos e.symm,if_pos e];rfl
  ·rw[if_neg (fun x=>e x.symm),if_neg e];exact h.hist.val g
 ·rw[hput.has,zfw]
  by_cases e:zag n=g
  ·rw[if_pos e.symm,if_pos e];rfl
  ·rw[if_neg (fun x=>e x.symm),if_neg e];exact h.hist.has g
 ·rcases hb b hb' with h'|h'
  ·exact h.new b h'
  ·have:=h.ext.size;omega
theorem TI.other{w0 w w':World}{tb:Nat}{s:TS}{ps:List (Nm×Value)}{S:Nat→Prop}(h:TI w0 w tb s ps)(hk:Keep S w w')(hS:∀b,tblk tb s b→¬S b)(hE:Ext w0 w'):TI w0 w' tb s ps:=
 ⟨h.lies.keep (fun b hb=>hk.block b (h.lt b hb) (hS b hb)),h.ok,h.hist,h.new,hE⟩
theorem Names_tiZ{w0 w:World}{tb:Nat}{s:TS}{ps:List (Nm×Value)}(h:TI w0 w tb s ps){k:Nat}(hk:zjf k ps)(hk1:k≤1000)(hl:s.names.length≤900000000):
  Fn Tryz.prog 80 #[zav tb] w (fun v w'=>Ext w w'∧∃L,(∀S:Nat→Prop,(∀b,S b→b<w.heap.size)→NamesZ S w' v L)∧Rise L∧(∀g,g∈L↔g∈s.names)∧L.length=s.names.length):=by
 have hd:=h.hist.deep hk
 obtain⟨h1,h2,h3⟩:=zkq h.ok.tail h.ok.nd (k:=k+1) h.ok.nil (fun g hg=>by have:=(hd g hg).1;omega)
 refine Fn.mono (zkF (fuel:=k+1) h.lies h.ok ⟨fun g hg=>(hd g hg).2.2,fun g hg=>(hd g hg).2.1,by omega⟩ (fun g hg=>by have:=(hd g hg).1;omega) (fun g hg=>by have:=(hd g hg).1;omega) (by omega)) ?_
 rintro v w' ⟨hE,hN⟩
 exact⟨hE,_,hN,h1,h2,h3⟩
end Go.Proofs.YtahbdamijngmmaaGreat.T_bool
namespace Go.Proofs.YtahbdamijngmmaaGreat
open Go
set_option maxRecDepth 10000
def putB(ps:List Nm):List (Nm×Value):=ps.map fun p=>(p,.bool true)
theorem putB_app{ps:List Nm}{n:Nm}:putB ps++ [(n,.bool true)]=putB (ps++ [n]):=by simp[putB]
theorem putB_k{ps:List Nm}(h:∀p∈ps,NmK p):zjf 255 (putB ps):=fun p hp=>by
 unfold putB at hp
 obtain⟨q,hq,rfl⟩:=List.mem_map.1 hp
 exact⟨(h q hq).LB,(h q hq).len⟩
theorem tb_mem{w0 w:World}{tb:Nat}{s:TS}{ps:List Nm}(h:T_bool.TI w0 w tb s (putB ps))(g:Nm):g∈s.names↔inS ps g:=by
 rw[h.hist.names]
 unfold putB inS
 constructor
 ·rintro(h| ⟨p,hp,hs⟩)
  ·exact .inl h
  ·obtain⟨q,hq,rfl⟩:=List.mem_map.1 hp
   exact .inr ⟨q,hq,hs⟩
 ·rintro(h| ⟨p,hp,hs⟩)
  ·exact .inl h
  ·exact .inr ⟨_,List.mem_map_of_mem hp,hs⟩
theorem tb_len{w0 w:World}{tb:Nat}{s:TS}{ps:List Nm}(h:T_bool.TI w0 w tb s (putB ps)):s.names.length=(canN ps).length:=canN_len h.ok.nd (tb_mem h)
theorem zkE{w0 w:World}{tb:Nat}{s:TS}{ps:List Nm}{n:Nm}{nv:Value}(h:T_bool.TI w0 w tb s (putB ps))(hr:T_bool.Still tb s w nv (n.map vs))(hn:NmK n):
  Fn Tryz.prog 128 #[zav tb,nv,.bool true] w (fun _ w'=>∃s',T_bool.TI w0 w' tb s' (putB (ps++ [n]))∧Keep (tblk tb s) w w'∧∀b,tblk tb s' b→tblk tb s b∨w.heap.size≤b):=by
 have hl:=hn.len
 refine Fn.mono (T_bool.Put_ti h hr hn.LB (by omega) rfl) ?_
 rintro _ w' ⟨s',h1,h2,h3⟩
 rw[putB_app]at h1
 exact⟨s',h1,h2,h3⟩
theorem zdz{w0 w:World}{tb:Nat}{s:TS}{ps:List Nm}(h:T_bool.TI w0 w tb s (putB ps))(hl:(canN ps).length≤1000000000000):
  Fn Tryz.prog 77 #[zav tb] w (fun v w'=>v=vi (canN ps).length∧Ext w w'):=by
 refine Fn.mono (T_bool.Len_ok h.lies) ?_
 rintro _ w' ⟨rfl,hE⟩
 rw[tb_len h]
 refine⟨?_,hE⟩
 rw[show IntKind.i64.wrap ((canN ps).length:Int)=((canN ps).length:Int) from wrap_i64 (by omega) (by omega)]
theorem zgV{w0 w:World}{tb:Nat}{s:TS}{ps:List Nm}(h:T_bool.TI w0 w tb s (putB ps))(hk:∀p∈ps,NmK p)(hl:(canN ps).length≤900000000):
  Fn Tryz.prog 80 #[zav tb] w (fun v w'=>Ext w w'∧∀S:Nat→Prop,(∀b,S b→b<w.heap.size)→NamesZ S w' v (canN ps)):=by
 refine Fn.mono (T_bool.Names_tiZ h (putB_k hk) (by decide) (by rw[tb_len h];exact hl)) ?_
 rintro v w' ⟨hE,L,h1,h2,h3,h4⟩
 have:=zht h2 fun g=>(h3 g).trans (tb_mem h g)
 subst this
 exact⟨hE,h1⟩
end Go.Proofs.YtahbdamijngmmaaGreat
