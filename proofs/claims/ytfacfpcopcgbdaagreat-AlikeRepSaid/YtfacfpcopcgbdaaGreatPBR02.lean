/-
  Texts of a proof, joined.
  Conditions: none.
-/
import Derived.Test.YtfacfpcopcgbdaaGreatPBR01
import Derived.Lib.Bytealg
import Derived.Maps.RangeRun
import Derived.Maps.Range
import Derived.Lib.Builder
import Derived.Lib.AppendStr
import Derived.Lib.UnsafeStr
import Derived.WideKeyMaps
import Derived.DeepKeys3
import Derived.Shelf.Small.Strs
import Derived.CallsIn
import Derived.Laws.Externs
set_option linter.all false
set_option maxRecDepth 20000
set_option maxHeartbeats 8000000
namespace Go.Proofs.YtfacfpcopcgbdaaGreat
open Go Tryz
variable {w w0 w1 W0 x A:World}{v u lv nv:Value}{cs l:List Value}{B k b i j c m cap:Nat}{t e:TypeId}{a:Option Addr}{S C:Nat->Prop}
theorem flat_set{D:List (List Value)}(h:∀x∈D,x.length=k)(hj:j<D.length)(hi:i<k)(v:Value):(D.set j (D[j].set i v)).flatten=D.flatten.set (j*k+i) v:=by
 obtain⟨e1,e2⟩:=zh4 h hj;have hk:=h D[j] (yac hj);have e3:(D.set j (D[j].set i v)).flatten=(D.take j).flatten++D[j].set i v++(D.drop (j+1)).flatten:=by
  rw[ycL,if_pos hj];simp
 rw[e3,e1,yla,yla,ybL _ _ oM,e2,show j*k+i - j*k=i from by omega,List.set_append_left _ _ oM]
theorem SD.setAt{D:List (List Value)}(h:SD k w b e cap D){P:Program}{K:Value->World->Prop}(hj:j<D.length)(hi:i<k)(hv:one v=true)
  (hs:tyS P t=1) (hin:(P.info? t).isSome=true) (hK:∀w',w'.heap.size=w.heap.size->SD k w' b e cap (D.set j (D[j].set i v))->Keep (λ i=>i=b) w w'->K undef w'):
  stK P t (.pointer (some ⟨b,j*k+i,.none⟩)) v w K:=by
 obtain⟨cur,R,hb,hc,hsz⟩:=h.lies;have hfl:=zbN h.len;have hlt:j*k+i<D.flatten.length:=by
  rw[hfl];have:(j+1)*k<=D.length*k:=Nat.mul_le_mul_right k hj;rw[ydw]at this;omega
 have hcl:cur.size=D.flatten.length+R.length:=by
  have:=congrArg List.length hc;simpa using this
 refine zbx hs hin hv hb oM sM ?_;intro w' hs' hb' hk';refine hK w' hs' ⟨⟨_,R,hb',?_,by simpa using hsz⟩,?_,?_⟩ hk'
 ·rw[ybr,hc,flat_set h.len hj hi,List.set_append_left _ _ hlt]
 ·intro y hy;rcases ybK hy with hy|rfl
  ·exact h.len y hy
  ·rw[ybA];exact h.len _ (yac hj)
 ·intro y hy;rcases ybK hy with hy|rfl
  ·exact h.ones y hy
  ·intro q hq;rcases ybK hq with hq|rfl
   ·exact h.ones _ (yac hj) q hq
   ·exact hv
theorem zc9{w:World}{a:Addr}{v:Value}(h:w.cell? a=some v):a.block<w.heap.size:=by
 apply Classical.byContradiction;intro hn;unfold World.cell? at h;rw[yck oM]at h;cases h
theorem zk2{p:Option Addr}(h:zat w p k=some l)(hk:0<k){a:Addr}(ha:p=some a):a.block<w.heap.size:=by
 subst ha;have hl:=zlY h;have h1:zaS w a 0 k=some l:=h;have:=zc9 (zfu h1 0 oM);have e:(a.add (0+0)).block=a.block:=by unfold Addr.add;split<;>rfl
 rwa [e]at this
theorem Rows.cut{α:Type}{k:Nat}{C:List Value->α->Prop}{w:World}{xs:List α}{a:Option Addr}{c n:Nat}(h:Rows k C w (.slice a n c) xs){lo hi:Nat}(h1:lo<=hi)(h2:hi<=n):
  Rows k C w (.slice (if c=lo then a else adr a (lo*k)) (hi - lo) (c - lo)) ((xs.drop lo).take (hi - lo)):=by
 have hl:=h.len;exact(h.drop (m:=lo) oM).take oM oM
section
variable {P : Program} {w : World} {K : Value -> World -> Prop} {α : Type} {k : Nat} {C : List Value -> α -> Prop}
theorem zib{t e:TypeId}{z:Value}(hu:tyU P t=some (.slice e))(hz:tyZ P e=some z)(hs:tyS P e=k)(hz1:z.cells.size=k)
  (h:∀w1,Ext w w1->w1.heap.size=w.heap.size+1->Owns k C w.heap.size w1 e (.slice (some ⟨w.heap.size,0,.none⟩) 0 0) ([]:List α)->K (.slice (some ⟨w.heap.size,0,.none⟩) 0 0) w1):bsL P t 0 [] w K .mk:=
 zj8 hu hz hs hz1 λ w1 h1 h2 h3=>h w1 h1 h2 ⟨[],h3,rfl,λ i h=>absurd h sM⟩
theorem zgM{b n:Nat}{cur:Array Value}{e:TypeId}{fr:Nat×Nat}(h:w.heap[b]? =some (.cells cur e fr))(hn:n=cur.size):zat w (some ⟨b,0,.none⟩) n=some cur.toList:=by
 rw[zaK h oM,ycT,yaf (by simp[hn])]
end
theorem u8_le(u:UInt8):(65<=u↔(65:Int)<=u.toNat)/\(u<=90↔(u.toNat:Int)<=90):=by
 rw[ybo,ybo];constructor
 ·show 65<=u.toNat↔_;omega
 ·show u.toNat<=90↔_;omega
theorem byteV_up{cc:UInt8}(h65:(65:Int)<=cc.toNat)(h90:(cc.toNat:Int)<=90):zae (zez cc)= .int .u8 (cc.toNat+32):=by
 rw[zh2 ⟨(u8_le cc).1.2 h65,(u8_le cc).2.2 h90⟩];unfold zae
 congr 1
 have:(cc+32).toNat=cc.toNat+32:=by
  rw[ydb];show(cc.toNat+32) % 256=_;omega
 rw[this];push_cast;omega
theorem zlL{l:List UInt8}(hk:k<l.length):(zbf l k)[k]? =some l[k]:=by
 unfold zbf;have e:(zaJ (l.take k)).length=k:=by simp[zaJ];omega
 rw[yaH oM,e];simp[hk]
theorem zb6(w:World)(l:List UInt8)(hl:l.length<=9000000000000000000):Fn prog 108 #[vs l] w (λ v w'=>v=vs (zaJ l)/\Ext w w'):=by
 refine enx func108 ntmps108 ?_;refine gz0 ?_;refine rq ?_;intro gd K hgd hK;refine sg0 ?_;refine zkV rfl rfl rfl vq0 ?_;intro c cur w1 hlc hcur htake hE1 hsz1 hb1;refine sg0 ?_;apply hK;refine gz0 ?_;refine zan (λ m σ ds A=>ds=[]/\∃i,i+m=l.length/\σ 4=vi i/\σ 3= .slice (some ⟨w.heap.size,0,.none⟩) l.length c/\Ext w A/\
  ∃cur:Array Value,cur.size=c/\cur.toList.take l.length=(zbf l i).map zae/\A.heap[w.heap.size]? =some (.cells cur 5 (c,c+1))) l.length ?_ ?_
 ·refine⟨rfl,0,oM,?_,?_,hE1,cur,hcur,by simpa [zbf,zaJ] using htake,hb1⟩<;>simp only[go_sem]<;>rfl
 ·rintro m σ ds A ⟨rfl,i,him,h4,h3,hE,cu,hcu,hpre,hrow⟩;refine gz (az2 h4 h3) ?_;refine wc0 ?_ ?_
  ·intro hlt;simp only[ydT]at hlt;have hk:i<l.length:=oM;generalize hcc:l[i]=cc;have hcell:zad A (some ⟨w.heap.size,i,.none⟩)=some (.int .u8 cc.toNat):=by
    show A.cell? _=_;rw[zaM hrow];have:(cu.toList.take l.length)[i]? =some (zae cc):=by rw[hpre,ybP,zlL hk,hcc];rfl
    rw[ybM,if_pos hk]at this;simpa [zae] using this
   repeat (with_reducible first|refine zfI ?_|refine zig ?_|refine zew ?_|refine zao ?_|refine zb9 ?_|refine zcG ?_|refine za8 ?_|refine zcj ?_|refine zbj ?_|refine zbg rfl ?_)
   refine W_mid (λ σ ds B=>ds=[]/\σ 4=vi i/\σ 3= .slice (some ⟨w.heap.size,0,.none⟩) l.length c/\Ext w B/\
    ∃cur:Array Value,cur.size=c/\cur.toList.take l.length=(zbf l (i+1)).map zae/\B.heap[w.heap.size]? =some (.cells cur 5 (c,c+1))) ?_ ?_
   ·refine cZ ?_;refine rq ?_;intro gd K hgd hK;have hg5:=gk 5 18 hgd rfl;have hno:¬(65<=cc/\cc<=90)->cu.toList.take l.length=(zbf l (i+1)).map zae:=λ h=>by rw[hpre,zgC hk (by rw[hcc];exact h)]
    by_cases h65:(65:Int)<=cc.toNat
    ·try simp (disch:=first|omega|assumption|rfl) only[go_sem,h4,h3,hcell,yet h65,↓hg5]
     apply hK;refine wcz ?_ ?_
     ·intro h90;simp only[ydT]at h90;refine rqz ?_;intro gd K hgd hK;refine sgz (az3 h4 h3 hcell) ?_;refine zbx rfl rfl rfl hrow oM (by simp;omega) ?_;intro w5 hsz5 hb5 hk5;apply hK;repeat (with_reducible first|refine zfI ?_|refine zig ?_|refine zew ?_|refine zao ?_|refine zb9 ?_|refine zcG ?_|refine za8 ?_|refine zcj ?_|refine zbj ?_|refine zbg rfl ?_)
      have hset:((zbf l i).map zae).set i (.int .u8 (↑cc.toNat+32))=(zbf l (i+1)).map zae:=by
       rw[←zey hk,hcc,ybp,byteV_up h65 h90]
      refine⟨rfl,?_,?_,ykt hE rfl (λ b hb=>oM) hk5,cu.setIfInBounds i (.int .u8 (↑cc.toNat+32)),by simpa using hcu,?_,hb5⟩
      ·simp only[go_sem,h4]
      ·simp only[go_sem,h3]
      ·rw[ybr,ydq,hpre,hset]
     ·intro h90;simp only[ydF]at h90;repeat (with_reducible first|refine zfI ?_|refine zig ?_|refine zew ?_|refine zao ?_|refine zb9 ?_|refine zcG ?_|refine za8 ?_|refine zcj ?_|refine zbj ?_|refine zbg rfl ?_)
      exact⟨rfl,vq1 h4,vq1 h3,hE,cu,hcu,hno (λ h=>h90 ((u8_le cc).2.1 h.2)),hrow⟩
    ·try simp (disch:=first|omega|assumption|rfl) only[go_sem,h4,h3,hcell,yef h65,↓hg5]
     apply hK;refine wcz ?_ ?_
     ·intro h;simp at h
     ·intro _;repeat (with_reducible first|refine zfI ?_|refine zig ?_|refine zew ?_|refine zao ?_|refine zb9 ?_|refine zcG ?_|refine za8 ?_|refine zcj ?_|refine zbj ?_|refine zbg rfl ?_)
      exact⟨rfl,vq1 h4,vq1 h3,hE,cu,hcu,hno (λ h=>h65 ((u8_le cc).1.1 h.1)),hrow⟩
   ·rintro σ' ds B ⟨rfl,h4',h3',hE',hex⟩;refine rg1 h4' ?_;refine zao ?_;exact⟨m - 1,oM,rfl,i+1,oM,by simp only[go_sem];rfl,vq1 h3',hE',hex⟩
  ·intro hge;simp only[ydF]at hge;have hfull:zbf l i=zaJ l:=by unfold zbf;rw[yaf oM,yat oM];simp
   rw[hfull]at hpre;have hlen:(zaJ l).length=l.length:=by simp[zaJ]
   refine rqz ?_;intro gd K hgd hK;refine sgz h3 ?_;rw[←hlen];refine zcv rfl rfl rfl ((vq2 h3 hlen)) ?_ ?_
   ·intro j hj;rw[hlen]at hj;rw[zaY];show A.cell? _=_;rw[zaM hrow];have:(cu.toList.take l.length)[j]? =some (zae ((zaJ l)[j]'(oM))):=by
     rw[hpre,ybP,yam oM];rfl
    rw[ybM,if_pos hj]at this;simpa using this
   refine sg0 ?_;refine en hK ?_;refine rt0 ntmps108 ?_;exact⟨rfl,hE⟩
abbrev Nm:=List (List UInt8)
def LB(n:Nm):Prop:=∀l∈n,l.length<=9000000000000000000
theorem LB.get{n:Nm}(h:LB n)(hi:i<n.length):n[i].length<=9000000000000000000:=h _ (yac hi)
def zag(n:Nm):Nm:=n.map zaJ
theorem zax(n:Nm):(zag n).length=n.length:=by simp[zag]
theorem zcA{n:Nm}(h:i<n.length):zag (n.take (i+1))=zag (n.take i)++ [zaJ n[i]]:=by
 rw[zal h];simp only[zag,yaC,yaU,ycp]
theorem zdP{a b:Nm}(h:a.length≠b.length):zag a≠zag b:=λ e=>h (by rw[←zax a,e,zax])
theorem zgD{a b:Nm}(ha:i<a.length)(hb:i<b.length)(h:zaJ a[i]≠zaJ b[i]):zag a≠zag b:=by
 intro e;apply h;have:=congrArg (λ l:Nm=>l[i]?) e;simpa [zag,ha,hb] using this
theorem zii(w:World)(a b:Value)(xs ys:List (List UInt8))(ha:Row w a (xs.map vs))(hb:Row w b (ys.map vs))(hx:LB xs)(hy:LB ys)(hxl:xs.length<=9000000000000000000)(hyl:ys.length<=9000000000000000000):
  Fn prog 72 #[a,b] w (λ v w'=>v= .bool (decide (zag xs=zag ys))/\Ext w w'):=by
 obtain⟨a,ca,rfl,hca,hla⟩:=ha;obtain⟨b,cb,rfl,hcb,hlb⟩:=hb;simp only[ylm]at*;refine enx func72 ntmps72 ?_;refine gz0 ?_;refine zaG (t:=!decide ((xs.length:Int)=ys.length)) (by simp only[go_sem]) ?_ ?_
 ·intro ht;refine gz0 ?_;refine rt0 ntmps72 ?_;exact⟨by rw[yef (zdP (by simp at ht;omega))],Keep.refl _ _⟩
 ·intro ht;refine gz0 ?_;refine zan (λ m σ ds v=>ds=[]/\∃i,i+m=xs.length/\σ 5=vi i/\σ 0= .slice a xs.length ca/\σ 1= .slice b ys.length cb/\Ext w v/\zag (xs.take i)=zag (ys.take i)) xs.length ?_ ?_
  ·refine⟨rfl,0,oM,?_,?_,?_,Keep.refl _ _,by simp[zag]⟩<;>simp only[go_sem]<;>rfl
  ·rintro m σ ds v ⟨rfl,i,him,h5,h0,h1,hE,hpre⟩;refine zg7 ?_;refine zg7 ?_;refine rq ?_;intro gd K hgd hK;simp only[go_sem,h5,h0,h1];apply hK;refine zaG (t:=decide ((i:Int)<xs.length)) (by simp only[go_sem]) ?_ ?_
   ·intro hlt;simp only[ydT]at hlt;refine cZ ?_;refine zaF (λ _=>false) [(0,true),(1,true),(2,true),(3,true),(5,true),(6,true),(7,true),(8,true),(4,false),(9,false),(10,true)] NoS mixed kR ?_;intro gd K x hgd hx hxe hK;have hsa:a.isSome=true:=zaf (hla i oM);have hsb:b.isSome=true:=zaf (hlb i (by simp at ht;omega));have hla':=λ j h=>zaa (hE.trans hx) (hla j h);have hlb':=λ j h=>zaa (hE.trans hx) (hlb j h);have hxy:xs.length=ys.length:=by simp at ht;omega
    clear ht;simp (disch:=first|omega|assumption) only[go_sem,h5,h0,h1,hla',hlb',yaA];refine yfm (zb6 _ _ (LB.get ‹LB _› _)) ?_;rintro _ x1 ⟨rfl,hx1⟩;refine⟨.inr hx1,?_⟩;refine sg0 ?_;refine yfm (zb6 _ _ (LB.get ‹LB _› _)) ?_;rintro _ x2 ⟨rfl,hx2⟩;refine⟨.inr hx2,?_⟩;simp only[go_sem];refine en hK ?_;refine zaG (by simp only[go_sem];rfl) ?_ ?_
    ·intro hne;simp only[yao,ydF]at hne;refine gz0 ?_;refine rt0 ntmps72 ?_;exact⟨by rw[yef (zgD (i:=i) oM oM hne)],((hE.trans hx).trans hx1).trans hx2⟩
    ·intro heq;simp only[yaw,ydT]at heq;refine rqz ?_;intro gd K hgd hK;simp (disch:=first|omega|assumption) only[go_sem,h5,h0,h1];apply hK;refine zao ?_;refine⟨m - 1,oM,rfl,i+1,oM,?_,?_,?_,((hE.trans hx).trans hx1).trans hx2,?_⟩
     ·simp only[go_sem];rfl
     ·simp only[go_sem,h0]
     ·simp only[go_sem,h1]
     ·rw[zcA oM,zcA oM,hpre,heq]
   ·intro hge;simp only[ydF]at hge;refine gz0 ?_;refine rt0 ntmps72 ?_;refine⟨?_,hE⟩;rw[yaf oM,yaf (by simp at ht;omega)]at hpre;rw[yet hpre]
theorem Row.cut{n:Nat}(hn:n=l.length)(hc:n<=c)(hl:∀j (h:j<l.length),zad w (adr a j)=some l[j]){lo hi:Nat}(h1:lo<=hi)(h2:hi<=n):
  Row w (.slice (if c=lo then a else adr a lo) (hi - lo) (c - lo)) ((l.drop lo).take (hi - lo)):=by
 have hlen:((l.drop lo).take (hi - lo)).length=hi - lo:=by simp;omega
 refine⟨_,_,by rw[hlen],oM,λ j hj=>?_⟩;rw[hlen]at hj;rw[if_neg oM,zie,hl (lo+j) oM];simp
theorem Row.tail{n:Nat}(hn:n=l.length)(hc:n<=c)(hl:∀j (h:j<l.length),zad w (adr a j)=some l[j]){lo:Nat}(h2:lo<=n):
  Row w (.slice (if c=lo then a else adr a lo) (n - lo) (c - lo)) (l.drop lo):=by
 have:=Row.cut hn hc hl h2 (ynl _)
 rwa [yaf (by simp;omega)]at this
def zaN(n z:Nm):Bool:=decide (z.length<=n.length) && decide (zag (n.drop (n.length - z.length))=zag z)
theorem LB.drop{n:Nm}(h:LB n)(k:Nat):LB (n.drop k):=λ l hl=>h l (yds _ _ hl)
theorem zjm(w:World)(a b:Value)(xs ys:Nm)(ha:Row w a (xs.map vs))(hb:Row w b (ys.map vs))(hx:LB xs)(hy:LB ys)(hxl:xs.length<=9000000000000000000)(hyl:ys.length<=9000000000000000000):
  Fn prog 88 #[a,b] w (λ v w'=>v= .bool (zaN xs ys)/\Ext w w'):=by
 have hb0:=hb;obtain⟨a,ca,rfl,hca,hla⟩:=ha;obtain⟨b,cb,rfl,hcb,hlb⟩:=hb;simp only[ylm]at*;refine enx func88 ntmps88 ?_;refine gz0 ?_;refine rq ?_;intro gd K hgd hK;have hg5:=gk 5 10 hgd rfl;by_cases h:(ys.length:Int)<=xs.length
 ·try simp (disch:=first|omega|assumption|rfl) only[go_sem,yet h,↓hg5]
  have hd:((xs.length:Int) - ys.length).toNat=xs.length - ys.length:=oM;have hcut:=Row.tail (l:=xs.map vs) sM hca (λ j hj=>by rw[hla j (sU hj)]) (lo:=xs.length - ys.length) oM;rw[←ycM]at hcut;rw[hd];refine yfm (zii w _ _ _ _ hcut hb0 (hx.drop _) hy (by simp;omega) hyl) ?_;rintro _ w1 ⟨rfl,hE⟩;try simp (disch:=first|omega|assumption|rfl) only[go_sem,yet h,↓hg5]
  refine en hK ?_;refine rt0 ntmps88 ?_;exact⟨by simp[zaN];omega,hE⟩
 ·try simp (disch:=first|omega|assumption|rfl) only[go_sem,yef h,↓hg5]
  refine en hK ?_;refine rt0 ntmps88 ?_;exact⟨by simp[zaN];omega,Keep.refl _ _⟩
theorem LSame_ok(w:World)(a b:List UInt8)(ha:a.length<=9000000000000000000)(hb:b.length<=9000000000000000000):Fn prog 34 #[vs a,vs b] w (λ v w'=>v= .bool (decide (zaJ a=zaJ b))/\Ext w w'):=by
 refine enx func34 ntmps34 ?_;refine gz0 ?_;refine rq ?_;intro gd K hgd hK;refine sg0 ?_;refine yfm (zc4 _ _ ha) ?_;rintro _ w1 ⟨rfl,hE1⟩;refine sg0 ?_;refine yfm (zc4 _ _ hb) ?_;rintro _ w2 ⟨rfl,hE2⟩;refine sg0 ?_;refine en hK ?_;refine rt0 ntmps34 ?_;exact⟨rfl,hE1.trans hE2⟩
theorem EqualFunc_ok(w:World)(a b:Value)(xs ys:Nm)(ha:Row w a (xs.map vs))(hb:Row w b (ys.map vs))(hx:LB xs)(hy:LB ys)(hxl:xs.length<=9000000000000000000)(hyl:ys.length<=9000000000000000000):
  Fn prog 33 #[a,b,.func (.func 34) #[] #[]] w (λ v w'=>v= .bool (decide (zag xs=zag ys))/\Ext w w'):=by
 obtain⟨a,ca,rfl,hca,hla⟩:=ha;obtain⟨b,cb,rfl,hcb,hlb⟩:=hb;simp only[ylm]at*;refine enx func33 ntmps33 ?_;repeat (first|refine c_r ?_|refine rg0 ?_)
 refine zaG (t:=!decide ((xs.length:Int)=ys.length)) (by simp only[go_sem]) ?_ ?_
 ·intro ht;repeat (first|refine c_r ?_|refine rg0 ?_)
  refine rt0 ntmps33 ?_;exact⟨by rw[yef (zdP (by simp at ht;omega))],Keep.refl _ _⟩
 ·intro ht;have hxy:xs.length=ys.length:=by simp at ht;omega
  clear ht;repeat (first|refine c_r ?_|refine rg0 ?_)
  refine zan (λ m σ ds v=>ds=[]/\∃i,i+m=xs.length/\σ 17=vi i/\σ 16=vi xs.length/\σ 15= .slice a xs.length ca/\σ 1= .slice b ys.length cb/\σ 2= .func (.func 34) #[] #[]/\Ext w v/\zag (xs.take i)=zag (ys.take i)) xs.length ?_ ?_
  ·refine⟨rfl,0,oM,?_,?_,?_,?_,?_,Keep.refl _ _,by simp[zag]⟩<;>simp only[go_sem]<;>rfl
  ·rintro m σ ds v ⟨rfl,i,him,h17,h16,h15,h1,h2,hE,hpre⟩;repeat refine c_r ?_
   refine rg2 h17 h16 ?_;repeat refine c_r ?_
   refine wc0 ?_ ?_
   ·intro hlt;simp only[ydT]at hlt;have hsa:a.isSome=true:=zaf (hla i oM);have hsb:b.isSome=true:=zaf (hlb i oM);have hla':=λ j h=>zaa hE (hla j h);have hlb':=λ j h=>zaa hE (hlb j h);repeat (first|refine c_r ?_| (refine zcx (by rfl) ?_;intro gd K hgd hK;simp (disch:=first|omega|assumption|rfl) only[go_sem,h17,h15,h1,hla',hlb',yaA];refine hK _ _ ?_;clear hK hgd;clear K gd))
    refine rq ?_;intro gd K hgd hK;try simp (disch:=first|omega|assumption|rfl) only[go_sem,h2]
    refine yfm (LSame_ok _ _ _ (LB.get hx _) (LB.get hy _)) ?_;rintro _ x1 ⟨rfl,hx1⟩;try simp only[go_sem]
    refine hK _ _ ?_;clear hK hgd;clear K;try clear gd
    repeat refine c_r ?_
    refine wc0 ?_ ?_
    ·intro hne;simp only[yao,ydF]at hne;repeat refine c_r ?_
     refine rg0 ?_;repeat refine c_r ?_
     refine rt0 ntmps33 ?_;exact⟨by rw[yef (zgD (i:=i) oM oM hne)],hE.trans hx1⟩
    ·intro heq;simp only[yaw,ydT]at heq;repeat refine c_r ?_
     refine rg1 h17 ?_;refine zao ?_;refine⟨m - 1,oM,rfl,i+1,oM,?_,?_,?_,?_,?_,hE.trans hx1,?_⟩
     ·simp only[go_sem];rfl
     ·simp only[go_sem,h16]
     ·simp only[go_sem,h15]
     ·simp only[go_sem,h1]
     ·simp only[go_sem,h2]
     ·rw[zcA oM,zcA oM,hpre,heq]
   ·intro hge;simp only[ydF]at hge;repeat (first|refine c_r ?_|refine rg0 ?_)
    refine rt0 ntmps33 ?_;refine⟨?_,hE⟩;rw[yaf oM,yaf oM]at hpre;rw[yet hpre]
theorem zdx(w:World)(a b:Value)(xs ys:Nm)(ha:Row w a (xs.map vs))(hb:Row w b (ys.map vs))(hx:LB xs)(hy:LB ys)(hxl:xs.length<=9000000000000000000)(hyl:ys.length<=9000000000000000000):
  Fn prog 15 #[a,b] w (λ v w'=>v= .bool (decide (zag xs=zag ys))/\Ext w w'):=by
 refine enx func15 ntmps15 ?_;refine gz0 ?_;refine rq ?_;intro gd K hgd hK;refine sg0 ?_;refine yfm (EqualFunc_ok w _ _ _ _ ha hb hx hy hxl hyl) ?_;rintro _ w1 ⟨rfl,hE⟩;refine sg0 ?_;refine en hK ?_;refine rt0 ntmps15 ?_;exact⟨rfl,hE⟩
theorem zbF(w:World)(a b:Value)(xs ys:Nm)(ha:Row w a (xs.map vs))(hb:Row w b (ys.map vs))(hx:LB xs)(hy:LB ys)(hxl:xs.length<=9000000000000000000)(hyl:ys.length<=9000000000000000000):
  Fn prog 59 #[a,b] w (λ v w'=>v= .bool (zaN xs ys)/\Ext w w'):=by
 have hb0:=hb;obtain⟨a,ca,rfl,hca,hla⟩:=ha;obtain⟨b,cb,rfl,hcb,hlb⟩:=hb;simp only[ylm]at*;refine enx func59 ntmps59 ?_;refine gz0 ?_;refine rq ?_;intro gd K hgd hK;have hg5:=gk 5 10 hgd rfl;by_cases h:(ys.length:Int)<=xs.length
 ·try simp (disch:=first|omega|assumption|rfl) only[go_sem,yet h,↓hg5]
  have hd:((xs.length:Int) - ys.length).toNat=xs.length - ys.length:=oM;have hcut:=Row.tail (l:=xs.map vs) sM hca (λ j hj=>by rw[hla j (sU hj)]) (lo:=xs.length - ys.length) oM;rw[←ycM]at hcut;rw[hd];refine yfm (zdx w _ _ _ _ hcut hb0 (hx.drop _) hy (by simp;omega) hyl) ?_;rintro _ w1 ⟨rfl,hE⟩;try simp (disch:=first|omega|assumption|rfl) only[go_sem,yet h,↓hg5]
  refine en hK ?_;refine rt0 ntmps59 ?_;exact⟨by simp[zaN];omega,hE⟩
 ·try simp (disch:=first|omega|assumption|rfl) only[go_sem,yef h,↓hg5]
  refine en hK ?_;refine rt0 ntmps59 ?_;exact⟨by simp[zaN];omega,Keep.refl _ _⟩
theorem zik(w:World)(a:Value)(xs:Nm)(ha:Row w a (xs.map vs))(hx:LB xs)(hxl:xs.length<=1000000000000):
  Fn prog 77 #[a] w (λ v w'=>RowB w.heap.size w' v ((zag xs).map vs)/\Ext w w'):=by
 obtain⟨a,ca,rfl,hca,hla⟩:=ha;simp only[ylm]at*;refine enx func77 ntmps77 ?_;refine gz0 ?_;refine rq ?_;intro gd K hgd hK;refine sg0 ?_;refine ziF (n:=xs.length) rfl rfl rfl rfl vq0 vq0 (by show 16*_<=_;omega) oM rfl ?_;refine sg0 ?_;apply hK;have hb1:=zam w (.cells (madeCells #[vs []] xs.length) 9 (0,0));have hE1:=yea w (.cells (madeCells #[vs []] xs.length) 9 (0,0));have hs1:=size_madeCells #[vs []] xs.length;revert hb1 hE1 hs1;generalize (madeCells #[vs []] xs.length)=cur1;intro hb1 hE1 hs1;refine gz0 ?_;refine zan (λ m σ ds A=>ds=[]/\∃i,i+m=xs.length/\σ 11=vi i/\σ 10=vi xs.length/\σ 9= .slice a xs.length ca/\σ 3= .slice (some ⟨w.heap.size,0,.none⟩) xs.length xs.length/\Ext w A/\
  ∃cur:Array Value,cur.size=xs.length/\cur.toList.take i=(zag (xs.take i)).map vs/\A.heap[w.heap.size]? =some (.cells cur 9 (0,0))) xs.length ?_ ?_
 ·refine⟨rfl,0,oM,?_,?_,?_,?_,hE1,cur1,hs1,by simp[zag],hb1⟩<;>simp only[go_sem]<;>rfl
 ·rintro m σ ds A ⟨rfl,i,him,h11,h10,h9,h3,hE,cu,hcu,hpre,hrow⟩;refine rqz ?_;intro gd K hgd hK;simp (disch:=first|omega|assumption|rfl) only[go_sem,h11,h10];apply hK;refine wcz ?_ ?_
  ·intro hlt;simp only[ydT]at hlt;have hsa:a.isSome=true:=zaf (hla i oM);have hla':=λ j h=>zaa hE (hla j h);refine rqz ?_;intro gd K hgd hK;simp (disch:=first|omega|assumption|rfl) only[go_sem,h11,h9,hla',yaA];apply hK;refine rqz ?_;intro gd K hgd hK;refine sgz h3 ?_;refine yfm (zc4 _ _ (LB.get hx _)) ?_;rintro _ w5 ⟨rfl,hE5⟩;refine sgz h3 ?_;refine zbx rfl rfl rfl ((hE5.block _ (by have:=hE.size;have:=(yaa.1 hrow).1;omega) (λ h=>h)).trans hrow) oM sM ?_;intro w6 hsz6 hb6 hk6;apply hK;refine rqz ?_;intro gd K hgd hK;simp (disch:=first|omega|assumption|rfl) only[go_sem,h11];apply hK;refine cZ ?_;refine⟨m - 1,oM,rfl,i+1,oM,by simp only[go_sem];rfl,vq1 h10,vq1 h9,vq1 h3,ykt (hE.trans hE5) rfl (λ b hb=>oM) hk6,_,by simpa using hcu,?_,hb6⟩;rw[zcA oM,ybr,zal (by simp;omega),List.take_set_of_le oM,hpre,yaC];simp
  ·intro hge;simp only[ydF]at hge;refine gz h3 ?_;refine rt0 ntmps77 ?_;refine⟨?_,hE⟩;rw[yaf (l:=xs) oM,yaf (by simp;omega)]at hpre;refine⟨⟨_,_,by rw[ylm,zax],by simp[zax],λ j hj=>?_⟩,λ a n c hv=>?_⟩
   ·rw[zaY];show A.cell? _=_;rw[zaM hrow,yn0,←ybV,hpre,yam hj]
   ·cases hv;exact⟨ynl _,(yaa.1 hrow).1⟩
theorem zor(w:World)(a:Value)(xs:Nm)(ha:Row w a (xs.map vs))(hx:LB xs)(hxl:xs.length<=1000000000000):
  Fn prog 77 #[a] w (λ v w'=>Row w' v ((zag xs).map vs)/\Ext w w'):=
 yfm (zik w a xs ha hx hxl) (λ _ _ h=>⟨h.1.1,h.2⟩)
theorem zf4(w:World)(b:Value)(l:List UInt8)(xs:Nm)(hb:Row w b (xs.map vs))(hxl:xs.length<=8796093022207):
  Fn prog 12 #[vs l,b] w (λ v w'=>RowB w.heap.size w' v ((l::xs).map vs)/\Ext w w'):=by
 have hb0:=hb;obtain⟨b,cb,rfl,hcb,hlb⟩:=hb;simp only[ylm]at*;refine enx func12 ntmps12 ?_;refine gz0 ?_;refine rq ?_;intro gd K hgd hK;refine sg0 ?_;have hbs:bsC prog 27 1 [(0,vs l)]=some (9,#[vs l]):=zic (z:=vs []) rfl rfl rfl rfl rfl;unfold bsL bsK;rw[hbs];simp only[];have hown:(w.alloc (.cells #[vs l] 9)).ownsRow w.heap.size 9 1 (.slice (some ⟨w.heap.size,0,.none⟩) 1 1) 1 [vs l]:=
  ⟨rfl,.inr ⟨w.heap.size,1,#[vs l],rfl,ynl _,zam w _,ynl _,by decide,rfl,rfl⟩⟩
 refine sg0 ?_;refine zdL (P:=prog) (e:=9) (size:=1) (bytes:=16) (m:=xs.length) rfl rfl rfl rfl rfl rfl (by decide) vq0 (by simp only[go_sem];rfl) hown (by simpa using Src1.of_row (hb0.ext (yea w _))) ?_ ?_ ?_ sM ?_
 ·intro q hq;obtain⟨s,_,rfl⟩:=yaq.1 hq
  rfl
 ·simp[maxLen];omega
 ·omega
 intro v' w' hown' hgr _;refine sg0 ?_;refine en hK ?_;refine rt0 ntmps12 ?_;exact⟨by simpa using RowB.of_owns hown',ykt (yea w _) rfl (λ b hb=>by simp[Value.ownBlock]at hb;omega) hgr⟩
def sfx(f:Nm)(k:Nat):Nm:=f.drop (f.length - k)
theorem zko(f:Nm):sfx f 0=[]:=by simp[sfx]
theorem zhF(f:Nm):sfx f f.length=f:=by simp[sfx]
theorem zkq{l:Lab}{f:Nm}(h:k<=f.length):sfx (l::f) k=sfx f k:=by
 unfold sfx;rw[yah,show f.length+1 - k=(f.length - k)+1 from by omega,List.drop_succ_cons]
theorem zkp{f:Nm}(h:k<f.length):sfx f (k+1)=f[f.length - 1 - k]::sfx f k:=by
 unfold sfx;rw[yag oM]
 congr 1
 ·congr 1;omega
 ·congr 1;omega
theorem zmt{f:Nm}(h:k<=f.length):(sfx f k).length=k:=by simp[sfx];omega
def dep(names:List Nm):Nm->Nat
 | []=>0
 |l::f=>if l::f∈names then f.length+1 else dep names f
theorem zi8(names:List Nm):∀f,dep names f<=f.length
 | []=>ynl _
 |l::f=>by
  unfold dep
  split
  ·simp
  ·have:=zi8 names f;simp;omega
theorem zmN{x:Nat}{pre suf:List Nat}(h:List.range m=pre++x::suf):x=pre.length:=by
 have h1:(List.range m)[pre.length]? =some x:=by rw[h];simp
 rw[yaj]at h1;obtain⟨h2,e⟩:=h1;simpa using e.symm
structure TS where
 names:List Nm
 val:Nm->Value
 has:Nm->Bool
 nb:Nm->Nat
 mb:Nm->Nat
structure TSok(z:Value)(s:TS):Prop where
 nil:[]∈s.names
 tail:∀l f,l::f∈s.names->f∈s.names
 nd:s.names.Nodup
 injn:∀f∈s.names,∀g∈s.names,s.nb f=s.nb g->f=g
 injm:∀f∈s.names,∀g∈s.names,s.mb f=s.mb g->f=g
 one:∀f,one (s.val f)=true
 out:∀f,f∉s.names->s.val f=z/\s.has f=false
theorem znP{z:Value}{s:TS}(hs:TSok z s):∀f,sfx f (dep s.names f)∈s.names
 | []=>by simpa [sfx,dep] using hs.nil
 |l::f=>by
  unfold dep
  split
  ·rename_i h;have:sfx (l::f) (f.length+1)=l::f:=zhF (l::f);rw[this];exact h
  ·rw[zkq (zi8 _ _)];exact znP hs f
theorem zmh{z:Value}{s:TS}(hs:TSok z s){f:Nm}(h:f∈s.names):∀k,f.drop k∈s.names
 |0=>sU h
 |k+1=>by
  have:=zmh hs h k;rw[←ycA];rcases hd:f.drop k with _| ⟨l,g⟩
  ·simpa [hd] using hs.nil
  ·rw[hd]at this;simpa [hd] using hs.tail _ _ this
theorem zmu{z:Value}{s:TS}(hs:TSok z s){f:Nm}(h:k<=dep s.names f):sfx f k∈s.names:=by
 have:=zmh hs (znP hs f) (dep s.names f - k);have hl:=zi8 s.names f
 rwa [show (sfx f (dep s.names f)).drop (dep s.names f - k)=sfx f k from by
  unfold sfx;rw[ycA];congr 1;omega]at this
theorem zjG{z:Value}{s:TS}(hs:TSok z s):∀{f:Nm} {k:Nat},dep s.names f<k->k<=f.length->sfx f k∉s.names
 | [],k,h,h2=>by simp at h2;omega
 |l::f,k,h,h2=>by
  unfold dep at h
  split at h
  ·simp at h2;omega
  ·rename_i hn;by_cases hk:k=f.length+1
   ·subst hk;have:=zhF (l::f);rw[yah]at this;rw[this];exact hn
   ·simp at h2;rw[zkq oM];exact zjG hs h oM
def za2(names:List Nm)(f:Nm):List Lab:=
 names.filterMap λ g=>match g with
  |l::h=>if h=f then some l else .none
  | []=> .none
theorem zbc{names:List Nm}{f:Nm}{l:Lab}:l∈za2 names f↔l::f∈names:=by
 simp only[za2,yaZ];constructor
 ·rintro⟨g,hg,h⟩;cases g with
  |nil=>cases h
  |cons a t=>
   simp only at h
   split at h
   ·rename_i e;cases h;subst e;exact hg
   ·cases h
 ·intro h;exact⟨_,h,sM⟩
abbrev zaA(b:Nat):Value:= .pointer (some ⟨b,0,.none⟩)
def zbh(s:TS)(f:Nm):List (Lab×Value):=(za2 s.names f).map λ l=>(l,zaA (s.nb (l::f)))
theorem zlA{l:List Lab}{g:Lab->Value}{k:Lab}:(l.map λ x=>(x,g x)).lookup k=if k∈l then some (g k) else .none:=by
 induction l with
 |nil=>simp
 |cons a l ih=>
  rw[yaU,ybU,ih];by_cases h:k=a
  ·subst h;simp
  ·have:(k==a)=false:=sU h;rw[this];simp[h]
theorem zfn(s:TS)(f:Nm)(l:Lab):(zbh s f).lookup l=if l::f∈s.names then some (zaA (s.nb (l::f))) else .none:=by
 unfold zbh;rw[zlA];simp only[zbc]
structure TreeAt(tt nt:TypeId)(w:World)(tb:Nat)(s:TS):Prop where
 root:w.heap[tb]? =some (.cells #[zaA (s.nb []),.int .i64 (IntKind.i64.wrap s.names.length)] tt (0,0))
 node:∀f∈s.names,w.heap[s.nb f]? =some (.cells #[.map (some (s.mb f)),s.val f,.bool (s.has f)] nt (0,0))
 map:∀f∈s.names,MapAt w (s.mb f) (zbh s f)
theorem TreeAt.ext{tt nt:TypeId}{tb:Nat}{s:TS}(h:TreeAt tt nt w tb s)(hE:Ext w x):TreeAt tt nt x tb s:=by
 have hb:∀{b:Nat} {o:Obj},w.heap[b]? =some o->x.heap[b]? =some o:=fun {b o} h=>(hE.block b (yaa.1 h).1 (λ h=>h)).trans h;refine⟨hb h.root,λ f hf=>hb (h.node f hf),λ f hf=>?_⟩;obtain⟨es,clk,h1,_⟩:=h.map f hf;exact(h.map f hf).block (by rw[hb h1,h1])
def tblk(tb:Nat)(s:TS):Nat->Prop:=λ b=>b=tb\/∃g∈s.names,b=s.nb g\/b=s.mb g
theorem TreeAt.lt{tt nt:TypeId}{tb:Nat}{s:TS}(h:TreeAt tt nt w tb s)(hb:tblk tb s b):b<w.heap.size:=by
 rcases hb with rfl| ⟨g,hg,rfl|rfl⟩
 ·exact(yaa.1 h.root).1
 ·exact(yaa.1 (h.node g hg)).1
 ·obtain⟨es,clk,h1,_⟩:=h.map g hg;exact(yaa.1 h1).1
theorem TreeAt.keep{tt nt:TypeId}{tb:Nat}{s:TS}(h:TreeAt tt nt w tb s)(hE:∀b,tblk tb s b->x.heap[b]? =w.heap[b]?):TreeAt tt nt x tb s:=
 ⟨(hE _ (.inl rfl)).trans h.root,λ f hf=>(hE _ (.inr ⟨f,hf,.inl rfl⟩)).trans (h.node f hf),λ f hf=>(h.map f hf).block (hE _ (.inr ⟨f,hf,.inr rfl⟩))⟩
def TS.add(s:TS)(g:Nm)(B:Nat)(z:Value):TS:=
 {names:=s.names++ [g],val:=λ f=>if f=g then z else s.val f,has:=λ f=>if f=g then false else s.has f,
  nb:=λ f=>if f=g then B+1 else s.nb f,mb:=λ f=>if f=g then B else s.mb f}
theorem TSok.add{z:Value}{s:TS}(hs:TSok z s){l:Lab}{h:Nm}(hz:_root_.Go.Proofs.YtfacfpcopcgbdaaGreat.one z=true)(hh:h∈s.names)(hg:l::h∉s.names)(hn:∀f∈s.names,s.nb f<B)(hm:∀f∈s.names,s.mb f<B):TSok z (s.add (l::h) B z):=by
 have hmem:∀f,f∈(s.add (l::h) B z).names↔f∈s.names\/f=l::h:=λ f=>by simp[TS.add]
 refine⟨by rw[hmem];exact .inl hs.nil,?_,?_,?_,?_,?_,?_⟩
 ·intro l' f hf;rw[hmem]at hf ⊢;rcases hf with hf|hf
  ·exact .inl (hs.tail _ _ hf)
  ·cases hf;exact .inl hh
 ·simp only[TS.add,List.nodup_append];refine⟨hs.nd,sM,λ a ha b hb=>?_⟩;simp at hb;subst hb;rintro rfl;exact hg ha
 ·intro f hf g' hg' he;rw[hmem]at hf hg';simp only[TS.add]at he
  split at he<;>split at he
  ·simp_all
  ·rename_i h1 h2;have:=hn g' (hg'.resolve_right h2);omega
  ·rename_i h1 h2;have:=hn f (hf.resolve_right h1);omega
  ·rename_i h1 h2;exact hs.injn f (hf.resolve_right h1) g' (hg'.resolve_right h2) he
 ·intro f hf g' hg' he;rw[hmem]at hf hg';simp only[TS.add]at he
  split at he<;>split at he
  ·simp_all
  ·rename_i h1 h2;have:=hm g' (hg'.resolve_right h2);omega
  ·rename_i h1 h2;have:=hm f (hf.resolve_right h1);omega
  ·rename_i h1 h2;exact hs.injm f (hf.resolve_right h1) g' (hg'.resolve_right h2) he
 ·intro f;simp only[TS.add]
  split
  ·exact hz
  ·exact hs.one f
 ·intro f hf;rw[hmem]at hf;have h1:f≠l::h:=λ e=>hf (.inr e);simp only[TS.add,if_neg h1];exact hs.out f (λ e=>hf (.inl e))
theorem zec(names:List Nm)(l:Lab)(h f:Nm):za2 (names++ [l::h]) f=if f=h then za2 names f++ [l] else za2 names f:=by
 unfold za2;rw[ybD];by_cases e:f=h
 ·subst e;simp
 ·have e':¬h=f:=λ x=>e x.symm;simp[e,e']
theorem TreeAt.add{tt nt:TypeId}{w x:World}{tb:Nat}{z:Value}{s:TS}(ht:TreeAt tt nt w tb s)(hs:TSok z s){l:Lab}{h:Nm}{B:Nat}(hh:h∈s.names)(hg:l::h∉s.names)(hB:w.heap.size<=B)
  (hroot:x.heap[tb]? =some (.cells #[zaA (s.nb []),.int .i64 (IntKind.i64.wrap (s.names.length+1))] tt (0,0)))
  (hnew:x.heap[B+1]? =some (.cells #[.map (some B),z,.bool false] nt (0,0))) (hnm:MapAt x B [])
  (hmap:MapAt x (s.mb h) (zbh s h++ [(l,zaA (B+1))]))
  (hrest:∀b,tblk tb s b->b≠tb->b≠s.mb h->x.heap[b]? =w.heap[b]?):TreeAt tt nt x tb (s.add (l::h) B z):=by
 have hmem:∀f,f∈(s.add (l::h) B z).names↔f∈s.names\/f=l::h:=λ f=>by simp[TS.add]
 have hne:∀{f},f∈s.names->f≠l::h:=λ hf e=>hg (e▸hf);have hnt:∀{f},f∈s.names->s.nb f≠tb:=fun {f} hf e=>by
  have h1:=ht.node f hf;rw[e,ht.root]at h1;simp at h1
 have hnm':∀{f g},f∈s.names->g∈s.names->s.nb f≠s.mb g:=fun {f g} hf hg e=>by
  have h1:=ht.node f hf;obtain⟨es,clk,h2,_⟩:=ht.map g hg;rw[e,h2]at h1;cases h1
 have hmt:∀{f},f∈s.names->s.mb f≠tb:=fun {f} hf e=>by
  obtain⟨es,clk,h2,_⟩:=ht.map f hf;rw[e,ht.root]at h2;cases h2
 have hkc:∀f,f∈s.names->f≠h->zbh (s.add (l::h) B z) f=zbh s f:=λ f hf e=>by
  unfold zbh;rw[show (s.add (l::h) B z).names=s.names++ [l::h] from rfl,zec,if_neg e];refine ycF λ k hk=>?_;rw[zbc]at hk;simp only[TS.add,if_neg (hne hk)]
 refine⟨?_,?_,?_⟩
 ·have e:(s.add (l::h) B z).names.length=s.names.length+1:=by simp[TS.add]
  have e2:(s.add (l::h) B z).nb []=s.nb []:=by simp[TS.add]
  rw[e,e2,hroot];push_cast;rfl
 ·intro f hf;rw[hmem]at hf;rcases hf with hf|rfl
  ·have h1:=hne hf;simp only[TS.add,if_neg h1];exact(hrest _ (.inr ⟨f,hf,.inl rfl⟩) (hnt hf) (hnm' hf hh)).trans (ht.node f hf)
  ·simp only[TS.add,if_pos];exact hnew
 ·intro f hf;rw[hmem]at hf;rcases hf with hf|rfl
  ·have h1:=hne hf;have e3:(s.add (l::h) B z).mb f=s.mb f:=by simp[TS.add,h1]
   rw[e3];by_cases e:f=h
   ·subst e;have:zbh (s.add (l::f) B z) f=zbh s f++ [(l,zaA (B+1))]:=by
     unfold zbh;rw[show (s.add (l::f) B z).names=s.names++ [l::f] from rfl,zec,if_pos rfl,yaC]
     congr 1
     ·refine ycF λ k hk=>?_;rw[zbc]at hk;simp only[TS.add,if_neg (hne hk)]
     ·simp[TS.add]
    rw[this];exact hmap
   ·rw[hkc f hf e];exact(ht.map f hf).block (hrest _ (.inr ⟨f,hf,.inr rfl⟩) (hmt hf) (λ e'=>e (hs.injm _ hf _ hh e')))
  ·have e3:(s.add (l::h) B z).mb (l::h)=B:=by simp[TS.add]
   have e4:zbh (s.add (l::h) B z) (l::h)=[]:=by
    unfold zbh;rw[show (s.add (l::h) B z).names=s.names++ [l::h] from rfl,zec,if_neg sM];have:za2 s.names (l::h)=[]:=by
     rw[List.eq_nil_iff_forall_not_mem];intro k hk;rw[zbc]at hk;exact hg (hs.tail _ _ hk)
    rw[this];rfl
   rw[e3,e4];exact hnm
def TS.set(s:TS)(g:Nm)(v:Value):TS:={s with val:=λ f=>if f=g then v else s.val f,has:=λ f=>if f=g then true else s.has f}
theorem TSok.set{z:Value}{s:TS}(hs:TSok z s){g:Nm}(hg:g∈s.names)(hv:_root_.Go.Proofs.YtfacfpcopcgbdaaGreat.one v=true):TSok z (s.set g v):=by
 refine⟨hs.nil,hs.tail,hs.nd,hs.injn,hs.injm,?_,?_⟩
 ·intro f;simp only[TS.set];split
  ·exact hv
  ·exact hs.one f
 ·intro f hf;have hne:f≠g:=λ e=>hf (e▸hg);simp only[TS.set,if_neg hne];exact hs.out f hf
theorem TreeAt.set{tt nt:TypeId}{tb:Nat}{z:Value}{s:TS}(ht:TreeAt tt nt w tb s)(hs:TSok z s){g:Nm}(hg:g∈s.names)
  (hnew:x.heap[s.nb g]? =some (.cells #[.map (some (s.mb g)),v,.bool true] nt (0,0))) (hrest:∀b,tblk tb s b->b≠s.nb g->x.heap[b]? =w.heap[b]?):TreeAt tt nt x tb (s.set g v):=by
 refine⟨?_,?_,?_⟩
 ·refine(hrest tb (.inl rfl) (λ e=>?_)).trans ht.root;have h1:=ht.node g hg;rw[←e,ht.root]at h1;simp at h1
 ·intro f hf;by_cases e:f=g
  ·subst e;simp only[TS.set,if_pos];exact hnew
  ·simp only[TS.set,if_neg e];exact(hrest _ (.inr ⟨f,hf,.inl rfl⟩) (λ e'=>e (hs.injn _ hf _ hg e'))).trans (ht.node f hf)
 ·intro f hf;refine(ht.map f hf).block (hrest _ (.inr ⟨f,hf,.inr rfl⟩) (λ e=>?_));obtain⟨es,clk,h2,_⟩:=ht.map f hf;have h1:=ht.node g hg;have e':s.mb f=s.nb g:=e;rw[←e',h2]at h1;cases h1
theorem KeepB.to_ext{n0:Nat}{C:Nat->Prop}{w0 w x:World}(h0:Ext w0 w)(h:KeepB n0 C w x)(hn:w0.heap.size<=n0)(hC:∀b,C b->w0.heap.size<=b):Ext w0 x:=
  ⟨h.os.trans h0.os,h.tape.trans h0.tape,h.output.trans h0.output,yaD h0.size h.size,
   λ b hb _=>(h.block b oM (λ hc=>by have:=hC b hc;omega)).trans (h0.block b hb (λ x=>x)),yaD h0.drawn h.drawn⟩
abbrev cmpL:Lab->Lab->Int:=Lib.compareBytes
theorem zcE{a b:UInt8}:a<b↔a.toNat<b.toNat:=UInt8.lt_iff_toNat_lt
theorem zdV:∀a:Lab,cmpL a a=0
 | []=>rfl
 |a::l=>by
  show(if a<a then _ else if a<a then _ else cmpL l l)=0;have h:¬a<a:=by rw[zcE];omega
  rw[if_neg h,if_neg h];exact zdV l
theorem zbE:∀a b:Lab,cmpL b a= - cmpL a b
 | [],[]=>rfl
 | [],_::_=>rfl
 |_::_,[]=>rfl
 |a::l,b::m=>by
  show(if b<a then _ else if a<b then _ else cmpL m l)= - (if a<b then(-1:Int) else if b<a then 1 else cmpL l m);by_cases h1:a<b
  ·have h2:¬b<a:=by rw[zcE]at*;omega
   rw[if_neg h2,if_pos h1,if_pos h1];rfl
  ·by_cases h2:b<a
   ·rw[if_pos h2,if_neg h1,if_pos h2]
   ·rw[if_neg h2,if_neg h1,if_neg h1,if_neg h2];exact zbE l m
theorem zb4:∀{a b:Lab},cmpL a b=0->a=b
 | [],[],_=>rfl
 | [],_::_,h=>by cases h
 |_::_,[],h=>by cases h
 |a::l,b::m,h=>by
  change (if a<b then(-1:Int) else if b<a then 1 else cmpL l m)=0 at h
  by_cases h1:a<b
  ·rw[if_pos h1]at h;cases h
  ·by_cases h2:b<a
   ·rw[if_neg h1,if_pos h2]at h;cases h
   ·rw[if_neg h1,if_neg h2]at h;have e:a=b:=by
     apply ydd.1;rw[zcE]at*;omega
    rw[e,zb4 h]
theorem zeg:∀{a b c:Lab},cmpL a b<=0->cmpL b c<=0->cmpL a c<=0
 | [],_,[],_,_=>ydp _
 | [],_,_::_,_,_=>by show(-1:Int)<=0;omega
 |a::l,[],_,h,_=>by exact absurd h (by show¬(1:Int)<=0;omega)
 |a::l,b::m,[],_,h=>by exact absurd h (by show¬(1:Int)<=0;omega)
 |a::l,b::m,c::n,h1,h2=>by
  change (if a<b then(-1:Int) else if b<a then 1 else cmpL l m)<=0 at h1
  change (if b<c then(-1:Int) else if c<b then 1 else cmpL m n)<=0 at h2
  show(if a<c then(-1:Int) else if c<a then 1 else cmpL l n)<=0;by_cases e1:a<b
  ·have e3:¬c<b\/c<b:=by by_cases h:c<b<;>simp[h]
   by_cases e2:c<b
   ·have e4:¬b<c:=by rw[zcE]at*;omega
    rw[if_neg e4,if_pos e2]at h2;omega
   ·have:a<c:=by rw[zcE]at*;omega
    rw[if_pos this];omega
  ·by_cases e2:b<a
   ·rw[if_neg e1,if_pos e2]at h1;omega
   ·have e:a=b:=by
     apply ydd.1;rw[zcE]at*;omega
    subst e;rw[if_neg e1,if_neg e2]at h1;by_cases e3:a<c
    ·rw[if_pos e3];omega
    ·by_cases e4:c<a
     ·rw[if_neg e3,if_pos e4]at h2;omega
     ·rw[if_neg e3,if_neg e4]at h2;rw[if_neg e3,if_neg e4];exact zeg h1 h2
def leL(a b:Lab):Bool:=decide (cmpL a b<=0)
def zen(l:List Lab):List Lab:=l.mergeSort leL
theorem zne(a b c:Lab)(h1:leL a b=true)(h2:leL b c=true):leL a c=true:=by
 simp only[leL,ydT]at*;exact zeg h1 h2
theorem znf(a b:Lab):(leL a b||leL b a)=true:=by
 simp only[leL,yda,ydT];have:=zbE a b;omega
theorem leL_anti{a b:Lab}(h1:leL a b=true)(h2:leL b a=true):a=b:=by
 simp only[leL,ydT]at*;have:=zbE a b;exact zb4 oM
theorem zcb(l:List Lab):(zen l).Perm l:=List.mergeSort_perm _ _
theorem zcX(l:List Lab):(zen l).Pairwise (λ a b=>leL a b=true):=List.pairwise_mergeSort zne znf l
theorem zit{l m:List Lab}(h1:l.Pairwise (λ a b=>leL a b=true))(h2:m.Pairwise (λ a b=>leL a b=true))(hp:l.Perm m):l=m:=
 List.Perm.eq_of_pairwise (λ _ _ _ _=>leL_anti) h1 h2 hp
theorem zjE{l m:List Lab}(h:l.Perm m):zen l=zen m:=
 zit (zcX l) (zcX m) ((zcb l).trans (h.trans (zcb m).symm))
def MapIt(w:World)(r m:Nat)(l:List (Lab×Value))(pre:List Lab):Prop:=
 ∃es clk,∃ds:List MapEntry,w.heap[m]? =some (.map es clk)/\es.toList.map (λ e=>(e.key,e.val))=l.map (λ p=>(vs p.1,p.2))/\(es.toList.map (·.born)).Pairwise (·≠·)/\(∀e∈es.toList,e.born<clk)/\
  w.heap[r]? =some (.mapIter (some m) clk (ds.map (·.born)).toArray clk)/\(∀d∈ds,d∈es.toList)/\ds.map (·.key)=pre.map vs
theorem MapIt.map{r:Nat}{l:List (Lab×Value)}{pre:List Lab}(h:MapIt w r m l pre):MapAt w m l:=by
 obtain⟨es,clk,ds,h1,h2,h3,h4,_⟩:=h;exact⟨es,clk,h1,h2,h3,h4⟩
theorem MapIt.block{r:Nat}{l:List (Lab×Value)}{pre:List Lab}(h:MapIt w r m l pre)(h1:x.heap[m]? =w.heap[m]?)(h2:x.heap[r]? =w.heap[r]?):MapIt x r m l pre:=by
 obtain⟨es,clk,ds,a,b,c,d,e,f⟩:=h;exact⟨es,clk,ds,h1.trans a,b,c,d,h2.trans e,f⟩
theorem zme{a b:List UInt8}(h:vs a=vs b):a=b:=by
 simpa [vs] using h
theorem zlF{es:List MapEntry}{l:List (Lab×Value)}(h:es.map (λ e=>(e.key,e.val))=l.map (λ p=>(vs p.1,p.2)))(hn:(l.map (·.1)).Nodup):es.Pairwise (λ x y=>x.key≠y.key):=by
 have h1:es.map (·.key)=l.map (λ p=>vs p.1):=by
  have:=congrArg (List.map Prod.fst) h;simpa [ycq,Function.comp_def] using this
 have h2:(l.map (λ p=>vs p.1)).Pairwise (·≠·):=by
  rw[ycu];have:=ycu.1 hn;exact this.imp (λ hne e=>hne (zme e))
 rw[←h1,ycu]at h2;exact h2
section
variable {P : Program} {d : Option Tmp} {ty : TypeId} {ps : String} {af : Array Edge} {g : Option (Nat × Bool)} {ρ : Operand -> Value} {w : World} {K : Value -> World -> Prop}
theorem op_range{kt et:TypeId}{x:Operand}{l:List (Lab×Value)}(ht:tyU P t=some (.map kt et))(hx:ρ x= .map (some m))(hm:MapAt w m l)
  (h:∀w',MapIt w' w.heap.size m l []->Ext w w'->w'.heap.size=w.heap.size+1->K (.pointer (some ⟨w.heap.size,0,.none⟩)) w'):
  opW P ⟨d,.range t x,ty,ps,af,g⟩ ρ w K:=by
 obtain⟨es,clk,h1,h2,h3,h4⟩:=hm;have hrun:(Instr.range t (.map (some m))).run P w= .ok (.pointer (some ⟨w.heap.size,0,.none⟩)) (w.alloc (.mapIter (some m) clk #[] clk)):=by
  simp[Instr.range,run_underlying (show P.underlying t=_ from ht),MapKept.run_getObj_map h1,newObj,Sem.run,Result.andThen]
 have hlt:=(yaa.1 h1).1;show opR P K _;refine zaI (s:=Instr.range t (ρ x)) (by rw[hx];exact hrun) (h _ ⟨es,clk,[],?_,h2,h3,h4,?_,sM,rfl⟩ (yea w _) sM)
 ·exact(yaE _ _ _ hlt).trans h1
 ·exact zam w _
theorem op_next{x:Operand}{r:Nat}{l:List (Lab×Value)}{pre:List Lab}(hx:ρ x= .pointer (some ⟨r,0,.none⟩))(hit:MapIt w r m l pre)(hn:(l.map (·.1)).Nodup)
  (h1:(∀k∈l.map (·.1),k∈pre)->K (.tuple #[.bool false]) w)
  (h2:∀k v w',(k,v)∈l->k∉pre->MapIt w' r m l (pre++ [k])->Keep (λ b=>b=r) w w'->w'.heap.size=w.heap.size->K (.tuple #[.bool true,vs k,v]) w'):
  opW P ⟨d,.next x false,ty,ps,af,g⟩ ρ w K:=by
 obtain⟨es,clk,ds,e1,e2,e3,e4,e5,e6,e7⟩:=hit;have hap:=zlF e2 hn;have hmem:∀e:MapEntry,e∈es.toList->∃k v,(k,v)∈l/\e.key=vs k/\e.val=v:=λ e he=>by
  have:(e.key,e.val)∈l.map (λ p=>(vs p.1,p.2)):=by rw[←e2];exact yaq.2 ⟨e,he,rfl⟩
  obtain⟨⟨k,v⟩,hp,heq⟩:=yaq.1 this;simp only[Prod.mk.injEq]at heq;exact⟨k,v,hp,heq.1.symm,heq.2.symm⟩
 rcases run_next_at (P:=P) w ty r m clk clk (ds.map (·.born)).toArray es clk e5 e1 e4 (ynl _) with ⟨h0,hrun⟩| ⟨e,he,w1,hw1,hrun⟩
 ·show opR P K _;refine zaI (s:=Instr.next (ρ x) false ty) (by rw[hx];exact hrun) (h1 λ k hk=>?_);obtain⟨⟨k,v⟩,hp,rfl⟩:=yaq.1 hk;have:(vs k,v)∈es.toList.map (λ e=>(e.key,e.val)):=by rw[e2];exact yaq.2 ⟨_,hp,rfl⟩
  obtain⟨e,he,heq⟩:=yaq.1 this;simp only[Prod.mk.injEq]at heq;have hin:(ds.map (·.born)).toArray.contains e.born=true:=by
   cases hc:(ds.map (·.born)).toArray.contains e.born with
   |true=>rfl
   |false=>
    have:e∈(leftOf es (ds.map (·.born)).toArray).toList:=by
     unfold leftOf;simp only[Array.toList_filter,ycf];exact⟨he,by rw[hc];rfl⟩
    rw[Array.size_eq_length_toList,yan]at h0;rw[h0]at this;cases this
  simp only[List.contains_toArray,yco,yaq]at hin;obtain⟨d',hd,hb⟩:=hin;have hde:d'=e:=by
   exact born_inj e3 (e6 _ hd) he hb
  subst hde;have:d'.key∈pre.map vs:=by rw[←e7];exact yaq.2 ⟨_,hd,rfl⟩
  rw[heq.1]at this;obtain⟨k',hk',hkk⟩:=yaq.1 this;rw[zme hkk]at hk';exact hk'
 ·have hel:e∈es.toList/\(ds.map (·.born)).toArray.contains e.born=false:=by
   unfold leftOf at he;simp only[Array.toList_filter,ycf]at he;exact⟨he.1,by simpa using he.2⟩
  obtain⟨k,v,hkv,hk,hv⟩:=hmem e hel.1;have hlt:r<w1.heap.size:=by
   have:=(yaa.1 e5).1;rcases hw1 with rfl|rfl<;>exact this
  have hrm:r≠m:=λ e=>by rw[e,e1]at e5;cases e5
  have hk1:Keep (λ b=>b=r) w w1:=by rcases hw1 with rfl|rfl<;>first|exact Keep.refl _ _|exact Keep.drew _ _
  have hput:ChangeMaps.setBlock w1 r (.mapIter (some m) clk ((ds.map (·.born)).toArray.push e.born) clk)=w1.putObj r (.mapIter (some m) clk ((ds.map (·.born)).toArray.push e.born) clk):=rfl;rw[hput]at hrun;show opR P K _;rw[hk,hv]at hrun;refine zaI (s:=Instr.next (ρ x) false ty) (by rw[hx];exact hrun) (h2 k v _ hkv ?_ ⟨es,clk,ds++ [e],?_,e2,e3,e4,?_,?_,?_⟩ (hk1.trans (zaB rfl)) ?_)
  ·intro hkp;have:vs k∈ds.map (·.key):=by rw[e7];exact yaq.2 ⟨_,hkp,rfl⟩
   obtain⟨d',hd,hdk⟩:=yaq.1 this;have hde:d'=e:=entry_eq_of_key hap (e6 _ hd) hel.1 (by rw[hdk,hk]);subst hde;have:=hel.2;simp only[List.contains_toArray]at this;have h3:(ds.map (·.born)).contains d'.born=true:=by rw[yco];exact yaq.2 ⟨_,hd,rfl⟩
   rw[h3]at this;cases this
  ·refine(yax (λ e=>hrm e.symm)).trans ?_;rcases hw1 with rfl|rfl<;>exact e1
  ·rw[yaX hlt];simp
  ·intro d' hd;rcases yai.1 hd with hd|hd
   ·exact e6 _ hd
   ·rw[yae.1 hd];exact hel.1
  ·rw[yaC,e7,yaC];simp[hk]
  ·rcases hw1 with rfl|rfl<;>simp
theorem op_entry{x:Operand}{r:Nat}{l:List (Lab×Value)}{pre:List Lab}{k:Lab}(hx:ρ x= .pointer (some ⟨r,0,.none⟩))(hit:MapIt w r m l (pre++ [k]))
  (h:∀v,K (.tuple #[vs k,v]) w):
  opW P ⟨d,.entry x,ty,ps,af,g⟩ ρ w K:=by
 obtain⟨es,clk,ds,e1,e2,e3,e4,e5,e6,e7⟩:=hit;rcases ybk ds with rfl| ⟨ds',e,rfl⟩
 ·simp at e7
 ·rw[ybq,yaC,yaC]at e7;have e7':=yci e7 rfl;have hk:e.key=vs k:=by simpa using e7'.2
  have hrun:=run_entry_at (P:=P) w r m clk (ds'.map (·.born)).toArray es clk e (by rw[e5];simp) e1 (e6 _ sM) e3;rw[hk]at hrun;show opR P K _;exact zaI (s:=Instr.entry (ρ x)) (by rw[hx];exact hrun) (h _)
end
theorem zbX(w:World)(r:Nat)(o:Obj):(w.putObj r o).heap.size=w.heap.size:=sM
structure KeepR(n0 n1:Nat)(X:Nat->Prop)(A B:World):Prop where
 os:B.os=A.os
 tape:B.tape=A.tape
 output:B.output=A.output
 size:A.heap.size<=B.heap.size
 block:∀b,b<A.heap.size->(b<n0\/n1<=b)->¬X b->B.heap[b]? =A.heap[b]?
 drawn:A.drawn<=B.drawn
def zon{α:Type}(P:Program)(g:FuncId)(cap:Array Value)(W0:World)(n0:Nat)(C:Nat->Prop)(own:Nat)(Pre:List α->α->Prop)(Full:List α->Prop)(enc:Nat->α->(Nat->Prop)->World->Array Value->Prop):Prop:=
 ∀(l:Nat) (J:List α->(Nat->Prop)->World->Prop) (Jx:List α->World->Prop) (W:World),Ext W0 W->n0<=W.heap.size->
  (∀pre U A B,J pre U A->Keep (span W.heap.size own) A B->J pre U B)->(∀pre A B,Jx pre A->Keep (span W.heap.size own) A B->Jx pre B)->
  (∀pre U x A args,Pre pre x->J pre U A->W.heap.size+own<=A.heap.size->KeepB n0 C W A->enc W.heap.size x U A args->Yld P l args A (λ v B=>
   (v= .bool true/\∃U',J (pre++ [x]) U' B/\(∀b,U' b->U b\/(A.heap.size<=b/\b<B.heap.size))/\KeepR n0 W.heap.size (λ b=>C b\/U b) A B)\/(v= .bool false/\Jx (pre++ [x]) B)))->
  J [] NoS W->Fn P g (#[.func (.yield l) #[] #[]]++cap) W (λ _ B=>(∃xs U,Full xs/\J xs U B)\/∃pre x,Pre pre x/\Jx (pre++ [x]) B)
def roundU{α:Type}(I:List α->(Nat->Prop)->World->Prop)(Ix:Code->List α->World->Prop)(C U:Nat->Prop)(pre':List α)(A:World):Post
 | .normal,_,_,B=>∃U',I pre' U' B/\(∀b,U' b->U b\/(A.heap.size<=b/\b<B.heap.size))/\Keep (λ b=>C b\/U b) A B
 | .ret,_,_,B=>Ix .ret pre' B/\Keep (λ b=>C b\/U b) A B
 | .exit id,_,_,B=>Ix (.exit id) pre' B/\Keep (λ b=>C b\/U b) A B
 | .goto t,_,_,B=>Ix (.goto t) pre' B/\Keep (λ b=>C b\/U b) A B
 |_,_,_,_=>False
theorem ze6{α:Type}{P:Program}{n:Nat}{f:Operand}{ps:Array Tmp}{assign body:Code}{Q:Post}{σ:Sto}{ds:List Deferred}
  {g:FuncId} {cap:Array Value} {n0:Nat} {own:Nat} {Pre:List α->α->Prop} {Full:List α->Prop} {enc:Nat->α->(Nat->Prop)->World->Array Value->Prop}
  (hf:ev n σ f= .func (.func g) #[] cap) (hc:zaD P g=true) (hit:zon P g cap W0 n0 C own Pre Full enc) (hW0:Ext W0 w) (hn0:n0<=w.heap.size) (hCn:∀b,C b->b<w.heap.size)
  (henc:∀x U A args,enc (w.heap.size+2) x U A args->args.size=ps.size)
  (I:List α->(Nat->Prop)->World->Prop) (Ix:Code->List α->World->Prop)
  (hI:∀pre U A B,I pre U A->(∀b,U b->w.heap.size+2+own<=b)->Keep (span w.heap.size (2+own)) A B->I pre U B)
  (hIx:∀c pre A B,Ix c pre A->Keep (span w.heap.size (2+own)) A B->Ix c pre B)
  (h0:I [] NoS w)
  (hround:∀(l:Nat) (pre:List α) (U:Nat->Prop) (x:α) (A:World) (args:Array Value),Pre pre x->w.heap.size+2+own<=A.heap.size->I pre U A->(∀b,U b->w.heap.size+2+own<=b/\b<A.heap.size)->enc (w.heap.size+2) x U A args->
   W P (some l) n assign (zdF (λ σ1 ds1 A1=>ds1=[]/\Keep (λ b=>C b\/U b) A A1/\∀A2,Keep (two w.heap.size) A1 A2->W P (some l) n body (roundU I Ix C U (pre++ [x]) A2) σ1 [] A2) (λ _ _ _ _=>False))
    (zdC σ (ps.zip args).toList) [] A)
  (hdone:∀xs U w',Full xs->w.heap.size+2<=w'.heap.size->(∀b,U b->w.heap.size+2+own<=b/\b<w'.heap.size)->I xs U w'->w'.heap[w.heap.size]? =some (.deferred (some []))->Q .normal σ ({target:= .collected w.heap.size,args:=#[]}::ds) w')
  (hstop:∀c pre x w',w.heap.size+2<=w'.heap.size->Pre pre x->Ix c (pre++ [x]) w'->w'.heap[w.heap.size]? =some (.deferred (some []))->
   W P .none n c Q σ ({target:= .collected w.heap.size,args:=#[]}::ds) w'):
  W P .none n (.rangeFunc f ps assign body) Q σ ds w:=by
 refine wpIn_rangeFunc ?_;intro fn _;generalize hrec:zeo fn (act n σ ds).tmps ps assign body w.heap.size=rec;obtain⟨W1,hW1⟩:∃W1,(w.alloc (.deferred (some []))).alloc (.loop (rec .ready .none))=W1:=⟨_,rfl⟩;have hsz1:W1.heap.size=w.heap.size+2:=by rw[←hW1];simp
 have hL1:W1.heap[w.heap.size+1]? =some (.loop (rec .ready .none)):=by
  rw[←hW1];have:=ybd (w.alloc (.deferred (some []))) (.loop (rec .ready .none));rwa [ybT]at this
 have hK1:W1.heap[w.heap.size]? =some (.deferred (some [])):=by
  rw[←hW1];exact(yaE _ _ _ sM).trans (ybd w _)
 have hE1:Ext w W1:=by rw[←hW1];exact(yea w _).trans (yea _ _)
 have hI1:I [] NoS W1:=hI _ _ _ _ h0 (λ _ h=>h.elim) (hE1.mono (λ _ _ h=>h.elim));have hl2:two w.heap.size (w.heap.size+1):= .inr rfl;have hl2':span w.heap.size (2+own) (w.heap.size+1):=by unfold span;omega
 refine⟨w.heap.size+1,[{target:= .collected w.heap.size,args:=#[]}],W1,{target:= .fn (.func g) cap,args:=#[.func (.yield (w.heap.size+1)) #[] #[]]},W1,g,
  #[.func (.yield (w.heap.size+1)) #[] #[]]++cap,W1,?_,?_,?_,?_,zdt,?_⟩
 ·rw[←hW1,←hrec];exact run_enterLoop_outer _ _ _ _ _
 ·simp only[resolve,zcw,hf];simp[Deferred.ofValue,ev]
 ·intro f' hf';trivial
 ·simp only[invoke];exact zbM hc
 ·-- the iterator's contract
  have hsp:∀{n:Nat} b,b<n->span W1.heap.size own b->span w.heap.size (2+own) b:=λ b _ h=>by unfold span at*;omega
  have hCl:∀b,two w.heap.size b->¬C b:=λ b hb hcb=>by have:=hCn b hcb;rcases hb with rfl|rfl<;>omega
  refine zcQ (CallsIn.mono (hit (w.heap.size+1)
   (λ pre U B=>(I pre U B/\∀b,U b->w.heap.size+2+own<=b/\b<B.heap.size)/\w.heap.size+2<=B.heap.size/\B.heap[w.heap.size+1]? =some (.loop (rec .ready .none))/\B.heap[w.heap.size]? =some (.deferred (some [])))
   (λ pre B=>∃c,Ix c pre B/\w.heap.size+2<=B.heap.size/\B.heap[w.heap.size+1]? =some (.loop (rec .done (some c)))/\B.heap[w.heap.size]? =some (.deferred (some [])))
   W1 (hW0.trans hE1) oM ?_ ?_ ?_ ⟨⟨hI1,λ _ h=>h.elim⟩,oM,hL1,hK1⟩) ?_)
  ·rintro pre U A B ⟨⟨hi,hu⟩,hs,hl,hk⟩ hAB;exact⟨⟨hI _ _ _ _ hi (λ b hb=>(hu b hb).1) (hAB.mono hsp),λ b hb=>⟨(hu b hb).1,ybE (hu b hb).2 hAB.size⟩⟩,yaD hs hAB.size,(hAB.block _ oM (by unfold span;omega)).trans hl,(hAB.block _ oM (by unfold span;omega)).trans hk⟩
  ·rintro pre A B ⟨c,hi,hs,hl,hk⟩ hAB;exact⟨c,hIx _ _ _ _ hi (hAB.mono hsp),yaD hs hAB.size,(hAB.block _ oM (by unfold span;omega)).trans hl,(hAB.block _ oM (by unfold span;omega)).trans hk⟩
  ·-- one round
   rintro pre U x A args hxs ⟨⟨hi,hu⟩,hs,hl,hk⟩ hsA _ hx;have hy:=run_yield (P:=P) (args:=args) hl (by rw[←hrec];exact henc x U A args (by rw[←hsz1];exact hx));unfold Yld zg6
   dsimp only
   rw[show (#[]++args:Array Value)=args from by simp];rw[hy,←hrec]
   dsimp only[zeo,opR]
   refine zcK (r:= .none) (n:=0) (roundIn_of_wpIn (F:=fw .none) (n:=0) trivial ?_);have hin:(fw .none).inRound (w.heap.size+1)=fw (some (w.heap.size+1)):=rfl;rw[hin];have hfold:(ps.zip args).foldl (λ t (x:Tmp×Value)=>t.setIfInBounds x.1 x.2) (act n σ ds).tmps=(act n (zdC σ (ps.zip args).toList) []).tmps:=by
    rw[←ybW];exact zcN n ds _ σ
   have hst:({tmps:=(ps.zip args).foldl (λ t (x:Tmp×Value)=>t.setIfInBounds x.1 x.2) (act n σ ds).tmps,defers:=[]}:Act)=act n (zdC σ (ps.zip args).toList) []:=by
    rw[hfold];rfl
   have hD1:=(yaa.1 hl).1;have hno:∀b,two w.heap.size b->¬(C b\/U b):=λ b hb h=>by
    rcases h with h|h
    ·exact hCl b hb h
    ·have:=(hu b h).1;rcases hb with rfl|rfl<;>omega
   have hr:=hround (w.heap.size+1) pre U x A args hxs oM hi hu (by rw[←hsz1];exact hx);unfold W at hr;rw[←hst]at hr;refine wpIn_mono hr ?_;rintro e a A1 ⟨σ1,ds1,rfl,hq⟩;cases e with
   |normal=>
    obtain⟨rfl,hA1,hbody⟩:=hq;have hlA1:A1.heap[w.heap.size+1]? =some (.loop (rec .ready .none)):=(hA1.block _ oM (hno _ hl2)).trans hl;have hkA1:A1.heap[w.heap.size]? =some (.deferred (some [])):=(hA1.block _ oM (hno _ (.inl rfl))).trans hk;have hlt1:w.heap.size+1<A1.heap.size:=(yaa.1 hlA1).1;refine⟨_,run_beginRound hlA1 (by rw[←hrec];rfl),?_⟩;have hb:=hbody _ (zaB (w:=A1) (r:=w.heap.size+1) (o:= .loop {rec .ready .none with state:= .busy}) hl2);refine wpIn_mono hb ?_;have hlA2:(A1.putObj (w.heap.size+1) (.loop {rec .ready .none with state:= .busy})).heap[w.heap.size+1]? =some (.loop {rec .ready .none with state:= .busy}):=yaX hlt1;have hkA2:(A1.putObj (w.heap.size+1) (.loop {rec .ready .none with state:= .busy})).heap[w.heap.size]? =some (.deferred (some [])):=(yax oM).trans hkA1;have fin:∀(jump:Option Code) (B:World),Keep (λ b=>C b\/U b) (A1.putObj (w.heap.size+1) (.loop {rec .ready .none with state:= .busy})) B->
      (Instr.endRound (w.heap.size+1) jump).run P B= .ok (.bool jump.isNone) (B.putObj (w.heap.size+1) (.loop (rec (if jump.isNone then .ready else .done) jump)))/\
      w.heap.size+2<=(B.putObj (w.heap.size+1) (.loop (rec (if jump.isNone then .ready else .done) jump))).heap.size/\
      (B.putObj (w.heap.size+1) (.loop (rec (if jump.isNone then .ready else .done) jump))).heap[w.heap.size+1]? =some (.loop (rec (if jump.isNone then .ready else .done) jump))/\
      (B.putObj (w.heap.size+1) (.loop (rec (if jump.isNone then .ready else .done) jump))).heap[w.heap.size]? =some (.deferred (some []))/\
      KeepR n0 W1.heap.size (λ b=>C b\/U b) A (B.putObj (w.heap.size+1) (.loop (rec (if jump.isNone then .ready else .done) jump))):=by
     intro jump B hB;have hlB:=(hB.block _ (by simp;omega) (hno _ hl2)).trans hlA2;have hkB:=(hB.block _ (by simp;omega) (hno _ (.inl rfl))).trans hkA2;have hltB:w.heap.size+1<B.heap.size:=(yaa.1 hlB).1;have hsB:=hB.size;simp only[zbX]at hsB;refine⟨?_,by simp;omega,yaX hltB,(yax oM).trans hkB,?_⟩
     ·have:=run_endRound (P:=P) jump hlB;rw[←hrec]at this ⊢;exact this
     ·refine⟨hB.os.trans hA1.os,hB.tape.trans hA1.tape,hB.output.trans hA1.output,?_,λ b hb hor hn=>?_,yaD hA1.drawn hB.drawn⟩
      ·have:=hA1.size;simp;omega
      ·have h1:=hA1.size;have hne:b≠w.heap.size+1:=oM;exact(yax hne).trans ((hB.block b (by simp;omega) hn).trans ((yax hne).trans (hA1.block b hb hn)))
    rintro e a B ⟨σ2,ds2,rfl,hq⟩;cases e with
    |normal=>
     obtain⟨U',hi',hU',hB⟩:=hq;obtain⟨h1,h2,h3,h4,h5⟩:=fin .none B hB;have hsA1:=hA1.size;have hsB:=hB.size;simp only[zbX]at hsB;have hU2:∀b,U' b->U b\/(A.heap.size<=b/\b<B.heap.size):=λ b hb=>by
      rcases hU' b hb with h| ⟨h,h'⟩
      ·exact .inl h
      ·simp only[zbX]at h;exact .inr ⟨oM,h'⟩
     have hu':∀b,U' b->w.heap.size+2+own<=b/\b<B.heap.size:=λ b hb=>by
      rcases hU2 b hb with h| ⟨h,h'⟩
      ·have:=hu b h;omega
      ·omega
     exact⟨_,_,h1,_,rfl,.inl ⟨rfl,U',⟨⟨hI _ _ _ _ hi' (λ b hb=>(hu' b hb).1) (zaB hl2'),λ b hb=>by rw[zbX];exact hu' b hb⟩,h2,h3.trans (by rw[←hrec];rfl),h4⟩,λ b hb=>by rw[zbX];exact hU2 b hb,h5⟩⟩
    |ret=>
     obtain⟨hi',hB⟩:=hq;obtain⟨h1,h2,h3,h4,_⟩:=fin (some .ret) B hB;exact⟨_,_,h1,_,rfl,.inr ⟨rfl,_,hIx _ _ _ _ hi' (zaB hl2'),h2,h3.trans (by rw[←hrec];rfl),h4⟩⟩
    |exit id=>
     obtain⟨hi',hB⟩:=hq;obtain⟨h1,h2,h3,h4,_⟩:=fin (some (.exit id)) B hB;exact⟨_,_,h1,_,rfl,.inr ⟨rfl,_,hIx _ _ _ _ hi' (zaB hl2'),h2,h3.trans (by rw[←hrec];rfl),h4⟩⟩
    |goto t=>
     obtain⟨hi',hB⟩:=hq;obtain⟨h1,h2,h3,h4,_⟩:=fin (some (.goto t)) B hB;exact⟨_,_,h1,_,rfl,.inr ⟨rfl,_,hIx _ _ _ _ hi' (zaB hl2'),h2,h3.trans (by rw[←hrec];rfl),h4⟩⟩
    |panic c=>exact hq.elim
    |outgrown=>exact hq.elim
   |ret=>exact hq.elim
   |exit id=>exact hq.elim
   |goto t=>exact hq.elim
   |panic c=>exact hq.elim
   |outgrown=>exact hq.elim
  ·rintro e B ⟨v,rfl,h⟩;rcases h with ⟨xs,U,hfull,⟨hi,hu⟩,hs,hl,hk⟩| ⟨pre,x,hxs,c,hi,hs,hl,hk⟩
   ·have hend:=run_endLoop (P:=P) hl (by rw[←hrec];simp[zeo]);have hp:(rec LoopState.ready .none).pending= .none:=by rw[←hrec];rfl
    rw[hp]at hend;refine⟨.none,_,hend,?_⟩;exact⟨σ,_,rfl,hdone xs U _ hfull (by simp;omega) (λ b hb=>by rw[zbX];exact hu b hb) (hI _ _ _ _ hi (λ b hb=>(hu b hb).1) (zaB hl2')) ((yax oM).trans hk)⟩
   ·have hend:=run_endLoop (P:=P) hl (by rw[←hrec];simp[zeo]);have hp:(rec LoopState.done (some c)).pending=some c:=by rw[←hrec];rfl
    rw[hp]at hend;refine⟨some c,_,hend,?_⟩;exact hstop c pre x _ (by simp;omega) hxs (hIx _ _ _ _ hi (zaB hl2')) ((yax oM).trans hk)
def allN(names:List Nm):Nat->Nm->List Nm
 |0,f=>[f]
 |k+1,f=>f::((zen (za2 names f)).map λ l=>allN names k (l::f)).flatten
def RowZ(n1:Nat)(U:Nat->Prop)(w:World)(v:Value)(l:List Value):Prop:=
 Row w v l/\∀a n c,v= .slice (some a) n c->n1<=a.block/\a.block<w.heap.size/\¬U a.block
def encN(B:Nat)(x:Nm)(U:Nat->Prop)(A:World)(args:Array Value):Prop:=∃nv,args=#[nv]/\RowZ B U A nv (x.map vs)
theorem RowZ.low{n1 n2:Nat}{U:Nat->Prop}(h:RowZ n1 U w v l)(hn:n2<=n1):RowZ n2 U w v l:=⟨h.1,λ a n c hv=>⟨yaD hn (h.2 a n c hv).1,(h.2 a n c hv).2⟩⟩
theorem KeepR.of_ext{n0 n1:Nat}{X:Nat->Prop}{B:World}(h:Ext A B):KeepR n0 n1 X A B:=⟨h.os,h.tape,h.output,h.size,λ b hb _ _=>h.block b hb (λ h=>h),h.drawn⟩
theorem KeepR.next{n0 n1:Nat}{U U':Nat->Prop}{B D:World}(h:KeepR n0 n1 (λ b=>C b\/U b) A B)(hU:∀b,U' b->U b\/(A.heap.size<=b/\b<B.heap.size))(k:KeepR n0 n1 (λ b=>C b\/U' b) B D):KeepR n0 n1 (λ b=>C b\/U b) A D:=
 ⟨k.os.trans h.os,k.tape.trans h.tape,k.output.trans h.output,yaD h.size k.size,λ b hb hor hn=>by
  refine(k.block b (ybE hb h.size) hor (λ hc=>?_)).trans (h.block b hb hor hn);rcases hc with hc|hc
  ·exact hn (.inl hc)
  ·rcases hU b hc with h'|h'
   ·exact hn (.inr h')
   ·omega,yaD h.drawn k.drawn⟩
theorem RowZ.keep{n0 n1:Nat}{U U':Nat->Prop}{B:World}(h:RowZ n1 U A v l)(hk:KeepR n0 n1 (λ b=>C b\/U b) A B)(hC:∀b,C b->b<n1)(hU:∀b,U' b->U b\/(A.heap.size<=b/\b<B.heap.size)):RowZ n1 U' B v l:=by
 refine⟨h.1.blocks (λ a n c hv=>?_),λ a n c hv=>?_⟩
 ·obtain⟨h1,h2,h3⟩:=h.2 a n c hv;exact hk.block _ h2 (.inr h1) (λ hc=>by
   rcases hc with hc|hc
   ·have:=hC _ hc;omega
   ·exact h3 hc)
 ·obtain⟨h1,h2,h3⟩:=h.2 a n c hv;have:=hk.size;refine⟨h1,oM,λ hc=>?_⟩;rcases hU _ hc with h'|h'
  ·exact h3 h'
  ·omega
theorem RowZ.of_base{n1:Nat}{U:Nat->Prop}(h:RowB B w v l)(hn:n1<=B)(hU:∀b,U b->b<B):RowZ n1 U w v l:=
 ⟨h.1,λ a n c hv=>by obtain⟨h1,h2⟩:=h.2 a n c hv;exact⟨oM,h2,λ h=>by have:=hU _ h;omega⟩⟩
theorem RowZ.ext{n1:Nat}{U:Nat->Prop}(h:RowZ n1 U w v l)(hE:Ext w x):RowZ n1 U x v l:=
 ⟨h.1.ext hE,λ a n c hv=>by obtain⟨h1,h2,h3⟩:=h.2 a n c hv;exact⟨h1,ybE h2 hE.size,h3⟩⟩
theorem KeepR.toB{n0 n1:Nat}{U:Nat->Prop}{W B:World}(h:KeepR n0 n1 (λ b=>C b\/U b) A B)(hW:KeepB n0 C W A)(hn:n0<=A.heap.size)(hU:∀b,U b->n0<=b):KeepB n0 C W B:=
 hW.trans ⟨h.os,h.tape,h.output,h.size,λ b hb hc=>h.block b oM (.inl hb) (λ hx=>by
  rcases hx with hx|hx
  ·exact hc hx
  ·have:=hU b hx;omega),h.drawn⟩
section
variable {α : Type} {k B : Nat} {C : List Value -> α -> Prop} {w x : World} {v : Value} {xs : List α} {e : TypeId}
theorem zbA(a:Addr)(i:Nat):(a.add i).block=a.block:=by unfold Addr.add;split<;>rfl
theorem znT{a:Addr}(h:x.heap[a.block]? =w.heap[a.block]?):x.cell? a=w.cell? a:=by unfold World.cell?;rw[h]
theorem zgO{a:Addr}(h:x.heap[a.block]? =w.heap[a.block]?):∀(k i:Nat),zaS x a i k=zaS w a i k
 |0,_=>rfl
 |k+1,i=>by
  have e1:x.cell? (a.add i)=w.cell? (a.add i):=znT (by rw[zbA];exact h);have e2:=zgO h k (i+1);unfold zaS;rw[e1,e2]
theorem zj3{p:Option Addr}(h:∀a,p=some a->x.heap[a.block]? =w.heap[a.block]?)(k:Nat):zat x p k=zat w p k:=by
 cases p with
 |none=>rfl
 |some a=>exact zgO (h a rfl) k 0
theorem Rows.blocks(h:Rows k C w v xs)(hb:∀a n c,v= .slice (some a) n c->x.heap[a.block]? =w.heap[a.block]?):Rows k C x v xs:=by
 obtain⟨L,⟨a,c,rfl,hc,hl⟩,h2,h3⟩:=h;refine⟨L,⟨a,c,rfl,hc,λ j hj=>?_⟩,h2,h3⟩;rw[←hl j hj];refine zj3 (λ p hp=>?_) k;cases a with
 |none=>cases hp
 |some a=>
  have:p.block=a.block:=by
   simp only[adr,ycn,Option.some.injEq]at hp;rw[←hp,zbA]
  rw[this];exact hb a _ _ rfl
def BlkB(B:Nat)(w:World)(v:Value):Prop:=∀a n c,v= .slice (some a) n c->B<=a.block/\a.block<w.heap.size
theorem BlkB.ext(h:BlkB B w v)(hs:w.heap.size<=x.heap.size):BlkB B x v:=λ a n c hv=>⟨(h a n c hv).1,ybE (h a n c hv).2 hs⟩
theorem BlkB.mono{B':Nat}(h:BlkB B w v)(hB:B'<=B):BlkB B' w v:=λ a n c hv=>⟨yaD hB (h a n c hv).1,(h a n c hv).2⟩
theorem BlkB.nil{n:Nat}:BlkB B w (.slice .none n c):=λ a n c hv=>by cases hv
theorem BlkB.same{a:Option Addr}{n c n' c':Nat}(h:BlkB B w (.slice a n c)):BlkB B w (.slice a n' c'):=λ b n2 c2 hv=>by
 injection hv with e1 e2 e3
 subst e1;exact h b n c rfl
theorem Owns.blk(h:Owns k C B w e v xs):BlkB B w v:=by
 intro a n c hv;rcases h.cases with ⟨h1,_⟩| ⟨b,cap,L,h1,hb,_,_,hD,_⟩
 ·rw[h1]at hv;cases hv
 ·rw[h1]at hv;injection hv with e1 e2 e3
  injection e1 with e1
  subst e1;exact⟨hb,hD.lt⟩
theorem Rows.keep(h:Rows k C w v xs)(hk:Keep S w x)(hB:BlkB B w v)(hS:∀b,B<=b->b<w.heap.size->¬S b):Rows k C x v xs:=
 h.blocks λ a n c hv=>hk.block _ (hB a n c hv).2 (hS _ (hB a n c hv).1 (hB a n c hv).2)
theorem zgP{w:World}{a:Addr}:∀(i m k:Nat) {l:List Value},zaS w a i (m+k)=some l->zaS w a (i+m) k=some (l.drop m)
 |i,0,k,l,h=>by rw[yn0]at h;simpa using h
 |i,m+1,k,l,h=>by
  rw[show m+1+k=(m+k)+1 from by omega]at h;unfold zaS at h
  split at h
  ·rename_i v l' h1 h2;cases h;have:=zgP (i+1) m k h2;rw[show i+1+m=i+(m+1) from by omega]at this;simpa using this
  ·cases h
theorem zjh{w:World}{a:Addr}{m:Nat}:∀(k i:Nat),zaS w (a.add m) i k=zaS w a (m+i) k
 |0,_=>rfl
 |k+1,i=>by
  have e:=zjh (w:=w) (a:=a) (m:=m) k (i+1)
  unfold zaS
  rw[zd3,e];rfl
theorem zaZ{p:Option Addr}(h:zat w p (m+k)=some l):zat w (adr p m) k=some (l.drop m):=by
 cases p with
 |none=>cases h
 |some a=>
  show zaS w (a.add m) 0 k=_;rw[zjh,yad];have:=zgP 0 m k (show zaS w a 0 (m+k)=some l from h)
  rwa [yn0]at this
theorem zml{lo:Nat}{y a:Addr}(h:(if c=lo then some y else adr (some y) m)=some a):a.block=y.block:=by
 split at h
 ·cases h;rfl
 ·simp only[adr,ycn,Option.some.injEq]at h;rw[←h,zbA]
theorem zdA{o n:Nat}(h:b<n):offS (zda n) (some ⟨b,o,.none⟩):=λ a ha hb=>by
 cases ha;unfold zda at hb;exact absurd (show n<=b from hb) oM
theorem off_adr{y:Addr}{n:Nat}(h:y.block<n):offS (zda n) (adr (some y) k):=λ a ha hb=>by
 simp only[adr,ycn,Option.some.injEq]at ha;rw[←ha]at hb;unfold zda at hb;rw[zbA]at hb;omega
theorem zgH(h:x=w.drew):Ext w x:=h▸Keep.drew NoS w
/-! ### a variable of several cells -/
variable {P : Program} {K : Value -> World -> Prop}
theorem zaL{cur:Array Value}(hb:w.heap[b]? =some (.cells cur e (0,0)))(hl:l.length=cur.size)(h1:∀v∈l,one v=true)(hs:tyS P t=l.length)(hi:(P.info? t).isSome=true)
  (hK:∀w',w'.heap.size=w.heap.size->w'.heap[b]? =some (.cells l.toArray e (0,0))->Keep (λ i=>i=b) w w'->K undef w'):stK P t (.pointer (some ⟨b,0,.none⟩)) (.agg l.toArray) w K:=by
 obtain⟨w',k1,k2,k3,cur',k4,k5⟩:=zgd (o:=0) l 0 w [] cur.toList [] cur hb sM rfl (by simp[hl]) h1;refine⟨by simp[Value.cells,hs],hi,w',by simpa [Value.cells] using k1,hK w' k2 ?_ k3⟩;rw[k4];have:cur'=l.toArray:=by
  apply Array.ext';simpa using k5
 rw[this]
theorem za6(hb:w.heap[b]? =some (.cells l.toArray e (0,0)))(hj:j<l.length)(h1:one u=true)(hs:tyS P t=1)(hi:(P.info? t).isSome=true)
  (hK:∀w',w'.heap.size=w.heap.size->w'.heap[b]? =some (.cells (l.set j u).toArray e (0,0))->Keep (λ i=>i=b) w w'->K undef w'):stK P t (.pointer (some ⟨b,j,.none⟩)) u w K:=by
 refine zbx hs hi h1 hb (sU hj) sM ?_;intro w' h1 h2 h3;refine hK w' h1 ?_ h3;rw[h2];simp
theorem zdc(hb:w.heap[b]? =some (.cells l.toArray e (0,0)))(hj:l[j]? =some u):zad w (some ⟨b,j,.none⟩)=some u:=by
 show w.cell? _=_;rw[zaM hb];simpa using hj
theorem zah{n:Nat}(hb:w.heap[b]? =some (.cells l.toArray e (0,0)))(hn:n=l.length):zat w (some ⟨b,0,.none⟩) n=some l:=by
 have:=zgM (n:=n) hb (by simp[hn]);simpa using this
end
theorem zek{P:Program}{f:Option Nat}{n:Nat}{c:Code}{Q:Post}{σ:Sto}{ds:List Deferred}{A B C:Obj}(h:∀w1,Ext w w1->w1.heap.size=w.heap.size+3->w1.heap[w.heap.size]? =some A->w1.heap[w.heap.size+1]? =some B->w1.heap[w.heap.size+1+1]? =some C->W P f n c Q σ ds w1):W P f n c Q σ ds (((w.alloc A).alloc B).alloc C):=by
 obtain⟨h1,h2,h3,h4,h5⟩:=zgU w A B C;exact h _ h1 h2 h3 h4 h5
section
variable {P : Program} {n : Nat} {σ : Sto} {w : World} {l : List ResultVar} {r : List Value}
theorem zas:resV P n σ w []=some []:=rfl
theorem zaj{t:Tmp}(hv:ev n σ (.tmp t)=v)(h:resV P n σ w l=some r):resV P n σ w (.tmp t::l)=some (v::r):=by
 unfold resV;rw[h,←hv];rfl
theorem za0{a:Tmp}{x:Addr}(hv:ev n σ (.tmp a)= .pointer (some x))(hA:tyA P t=true)(hk:tyS P t=k)(hc:zat w (some x) k=some cs)(h:resV P n σ w l=some r):resV P n σ w (.cell a t::l)=some (.agg cs.toArray::r):=by
 subst hk;unfold resV;rw[show (if a<n then σ a else undef)= .pointer (some x) from hv];have:ldV P w t x=some (.agg cs.toArray):=by
  unfold ldV;rw[hA,cond_true,show zaS w x 0 (tyS P t)=some cs from hc];rfl
 simp only[this,h]
theorem zff{a:Tmp}{x:Addr}(hv:ev n σ (.tmp a)= .pointer (some x))(hA:tyA P t=false)(hU:(tyU P t).isSome=true)(hc:zad w (some x)=some v)(h:resV P n σ w l=some r):resV P n σ w (.cell a t::l)=some (v::r):=by
 unfold resV;rw[show (if a<n then σ a else undef)= .pointer (some x) from hv];have:ldV P w t x=some v:=by
  unfold ldV;rw[hA,cond_false,hU,cond_true];exact hc
 simp only[this,h]
theorem zau{fn:Func}{R:Value->World->Prop}{e:Exit}(he:e= .normal\/e= .ret)(hm:fn.ntmps=n){rs:List ResultVar}(hl:fn.results.toList=rs)(hr:resV P n σ w rs=some r)(h:R (resT r) w):retQ P fn R e σ [] w:=by
 subst hm hl;exact⟨he,trivial,r,hr,h⟩
theorem zbC{fn:Func}{R:Value->World->Prop}{e:Exit}{D:Nat}(he:e= .normal\/e= .ret)(hm:fn.ntmps=n){rs:List ResultVar}(hl:fn.results.toList=rs)(hD:w.heap[D]? =some (.deferred (some [])))
  (h:∀w',Keep (λ b=>b=D) w w'->w'.heap.size=w.heap.size->∃r,resV P n σ w' rs=some r/\R (resT r) w'):retQ P fn R e σ [{target:= .collected D,args:=#[]}] w:=by
 subst hm hl;obtain⟨r,h1,h2⟩:=h (w.putObj D (.deferred .none)) (zaB rfl) sM;exact⟨he,⟨D,rfl,hD,trivial⟩,r,h1,h2⟩
end
section
variable {P : Program} {d : Option Tmp} {ty : TypeId} {ps : String} {af : Array Edge} {g : Option (Nat × Bool)} {ρ : Operand -> Value} {w : World} {K : Value -> World -> Prop}
theorem zmX{op:BinOp}{yt:TypeId}{x y:Operand}{r:Value}(hx:ρ x=u)(hy:ρ y=v)(hr:(do eqGuard op t x y u v;binOp op t u v:Sem Value).run P w= .ok r w)(h:K r w):
  opW P ⟨d,.binOp op t x y yt,ty,ps,af,g⟩ ρ w K:=by
 have:=zaI (P:=P) (K:=K) hr h;rw[←hx,←hy]at this;exact this
theorem ziJ{te yt:TypeId}{j:TypeInfo}{x y:Operand}{a:Addr}(ht:tyU P t=some (.pointer te))(hj:P.info? te=some j)(hx:ρ x= .pointer (some a))(hy:ρ y= .pointer (some a))(h:K (.bool false) w):
  opW P ⟨d,.binOp .neq t x y yt,ty,ps,af,g⟩ ρ w K:=by
 refine zmX hx hy ?_ h;simp[eqGuard,Lib.run_neq_ptr_same (P:=P) w a (show P.underlying t=_ from ht) hj]
theorem zm0{s:TypeId}{x:Operand}{w':World}(hx:ρ x=u)(hr:(convert s t u).run P w= .ok v w')(h:K v w'):opW P ⟨d,.convert s t x,ty,ps,af,g⟩ ρ w K:=by
 show opR P K ((do pure (.value (←convert s t (ρ x))):Sem Next).run P w);rw[hx];exact zaI hr h
theorem op_appS{s x:Operand}{tu:TypeId}{inf:TypeInfo}{bs:List UInt8}(hown:Own B w e v l)(ht:tyU P t=some (.slice e))(hu:tyU P tu=some .string)(hi:P.info? e=some inf)(hz:inf.zero=some (.int .u8 0))
  (hsize:inf.size=1) (hby:inf.bytes=1) (hv:ρ s=v) (hx:ρ x=vs bs) (hlen:l.length+bs.length<=100000000000) (hB:B<=w.heap.size)
  (h:∀v' w',Own B w' e v' (l++bs.map zae)->Keep (λ b=>some b=v.ownBlock) w w'->K v' w'):
  opW P ⟨d,.call ⟨.builtin .append,#[s,x],#[t,tu]⟩,ty,ps,af,g⟩ ρ w K:=by
 have hs:(⟨bs.toArray⟩:ByteArray).size=bs.length:=by simp[ByteArray.size]
 obtain⟨v',w',hr,h2,h3,h4⟩:=Lib.run_append_own_string (P:=P) w B t tu ty e inf (show P.underlying t=_ from ht) (show P.underlying tu=_ from hu) hi hz hsize hby v l.length l hown ⟨bs.toArray⟩ (by rw[hs];simp[maxLen];omega) (by rw[hs];omega) hB;have hc:Lib.strCells ⟨bs.toArray⟩=bs.map zae:=by simp[Lib.strCells,zae]
 rw[hs,hc]at h2;refine zcJ (b:= .append) (r:= .ok v' w') (λ v2 w2 h'=>?_) ⟨v',w',by rw[hv,hx];exact hr⟩;rw[hv,hx]at h';have e1:(Builtin.append_ #[t,tu] ty #[v,.string ⟨bs.toArray⟩]).run P w= .ok v2 w2:=h';rw[hr]at e1;cases e1;have hl:l.length+bs.length=(l++bs.map zae).length:=sM;rw[hl]at h2;exact h v' w' h2 (zhj h3 (zaW _ _ _ _ hr))
theorem zc1{x:Operand}{ts:Array TypeId}{w':World}(hx:ρ x=u)(hr:(Builtin.unsafeSliceData_ ts ty #[u]).run P w= .ok v w')(h:K v w'):
  opW P ⟨d,.call ⟨.builtin .unsafeSliceData,#[x],ts⟩,ty,ps,af,g⟩ ρ w K:=by
 simp only[opW,execOp,yaJ,resolve];simp only[yaR,yaz,invoke,builtin];exact zaI (s:=Builtin.unsafeSliceData_ ts ty (Array.map ρ #[x])) (by simpa [hx] using hr) h
theorem zbZ{x y:Operand}{ts:Array TypeId}{z:Value}{w':World}(hx:ρ x=u)(hy:ρ y=z)(hr:(Builtin.unsafeString_ ts ty #[u,z]).run P w= .ok v w')(h:K v w'):
  opW P ⟨d,.call ⟨.builtin .unsafeString,#[x,y],ts⟩,ty,ps,af,g⟩ ρ w K:=by
 simp only[opW,execOp,yaJ,resolve];simp only[yaR,yaz,invoke,builtin];exact zaI (s:=Builtin.unsafeString_ ts ty (Array.map ρ #[x,y])) (by simpa [hx,hy] using hr) h
end
theorem zkP{key:Lab}:∀(es:List MapEntry) (l:List (Lab×Value)) (i:Nat),es.map (λ e=>(e.key,e.val))=l.map (λ p=>(vs p.1,p.2))->l.lookup key=some v->∃j e,Instr.findNow .string (vs key) es i=some (some (i+j,v))/\es[j]? =some e/\e.key=vs key/\e.val=v
 | [],[],_,_,h=>by simp at h
 | [],_::_,_,h,_=>by simp at h
 |_::_,[],_,h,_=>by simp at h
 |e::es,(k,u)::l,i,h,hl=>by
  simp only[yaU,List.cons.injEq,Prod.mk.injEq]at h;obtain⟨⟨h1,h2⟩,h3⟩:=h;simp only[ybU]at hl
  split at hl
  ·rename_i heq;cases hl;have:key=k:=sU heq;subst this;exact⟨0,e,by simp only[Instr.findNow,h1,zdd,heq,h2,yad],rfl,h1,h2⟩
  ·rename_i hne;obtain⟨j,e',g1,g2,g3⟩:=zkP es l (i+1) h3 hl;exact⟨j+1,e',by simp only[Instr.findNow,h1,zdd,hne];rw[g1];congr 3;omega,by simpa using g2,g3⟩
section
variable {P : Program} {d : Option Tmp} {ty : TypeId} {ps : String} {af : Array Edge} {g : Option (Nat × Bool)} {ρ : Operand -> Value} {w : World} {K : Value -> World -> Prop}
theorem zeQ{m k:Operand}{ok:Bool}{mv kv:Value}(hm:ρ m=mv)(hk:ρ k=kv)(h:lkV P w t mv kv ok=some v)(hK:K v w):opW P ⟨d,.lookup t m k ok,ty,ps,af,g⟩ ρ w K:=by
 have:=zaI (P:=P) (K:=K) (znb h) hK;rw[←hm,←hk]at this;exact this
theorem zhe{kt et:TypeId}{m k x:Operand}{r:Nat}{l:List (Lab×Value)}{key:Lab}(ht:tyU P t=some (.map kt et))(hk:tyU P kt=some .string)
  (hm:ρ m= .map (some r)) (hkey:ρ k=vs key) (hx:ρ x=v) (hat:MapAt w r l) (hin:l.lookup key=some v)
  (h:∀w',MapAt w' r l->Keep (λ i=>i=r) w w'->w'.heap.size=w.heap.size->K undef w'):
  opW P ⟨d,.mapUpdate t m k x,ty,ps,af,g⟩ ρ w K:=by
 obtain⟨es,clk,h1,h2,h3,h4⟩:=hat;obtain⟨j,e,hf,hj,hek,hev⟩:=zkP es.toList l 0 h2 hin;rw[yn0]at hf;have hj':es[j]? =some e:=sU hj;have hrun:(Instr.mapUpdate t (.map (some r)) (vs key) v).run P w= .ok () (w.putObj r (.map (es.modify j λ e=>{e with key:=vs key,val:=v}) clk)):=by
  have hck:∀e,(Instr.checkKey e 10000 kt (vs key)).run P w= .ok () w:=λ e=>zcP hk 9999;have hst:(Instr.keyThatStays (vs key) (vs key)).run P w= .ok (vs key) w:=MapKept.run_keyThatStays (d:= .string) trivial;simp[Instr.mapUpdate,run_underlying (show P.underlying t=_ from ht),MapKept.run_getObj_map h1,hck,Instr.findKey,run_underlying (show P.underlying kt=_ from hk),hf,hj',hek,hst,MapKept.run_setObj_map _ h1,Result.andThen]
  rfl
 have hlt:r<w.heap.size:=(yaa.1 h1).1;have hsame:∀i:Nat,(es.modify j λ e=>{e with key:=vs key,val:=v})[i]? =es[i]?:=λ i=>by
  rw[ybX]
  split
  ·rename_i hi;rw[←hi,hj'];cases e;simp only at hek hev;subst hek hev
   rfl
  ·rfl
 have hmod:(es.modify j λ e=>{e with key:=vs key,val:=v})=es:=Array.ext_getElem? hsame;rw[hmod]at hrun;have hat':MapAt (w.putObj r (.map es clk)) r l:=⟨es,clk,yaX hlt,h2,h3,h4⟩;have hfin:=h _ hat' (zaB rfl) sM;show opR P K ((do Instr.mapUpdate t (ρ m) (ρ k) (ρ x);pure .skip:Sem Next).run P w);rw[hm,hkey,hx];simp only[yaJ,hrun,yaz,yaR];exact hfin
end
structure MKey(P:Program)(kt:TypeId)(good:Value->Prop):Prop where
 check:∀(w:World) (em:Bool) {v:Value},good v->(Instr.checkKey em 10000 kt v).run P w= .ok () w
 find:∀(w:World) {x:Value},good x->∀es:List MapEntry,(∀e∈es,good e.key)->
  ((Instr.findKey kt x es).run P w= .ok .none w/\∀e∈es,e.key≠x)\/∃j e,(Instr.findKey kt x es).run P w= .ok (some (j,e.val)) w/\es[j]? =some e/\e.key=x
theorem MKey.of{P:Program}{kt:TypeId}(h:WideMaps.KeyLaw P kt):MKey P kt λ v=>∃l,keyOf P kt v=some l:=
 ⟨λ w em v ⟨_,hl⟩=>h.check w em hl,λ w x ⟨_,hl⟩ es he=>h.find w hl es he⟩
theorem zgF{kd:IntKind}{x:Int}:∀(es:List MapEntry) (i:Nat),(∀e∈es,∃n,e.key= .int kd n)->
  (Instr.findNow (.int kd) (.int kd x) es i=some .none/\∀e∈es,e.key≠ .int kd x)\/∃j e,Instr.findNow (.int kd) (.int kd x) es i=some (some (i+j,e.val))/\es[j]? =some e/\e.key= .int kd x
 | [],i,_=> .inl ⟨rfl,λ e h=>by cases h⟩
 |e::es,i,h=>by
  obtain⟨n,hn⟩:=h e sM;by_cases hx:x=n
  ·refine .inr ⟨0,e,?_,rfl,by rw[hn,hx]⟩;simp[Instr.findNow,hn,Instr.sameNow,hx]
  ·have hs:Instr.sameNow (.int kd) (.int kd x) e.key=some false:=by rw[hn];simp[Instr.sameNow,hx]
   rcases zgF es (i+1) (λ y hy=>h y (by simp[hy])) with ⟨h1,h2⟩| ⟨j,e',h1,h2,h3⟩
   ·refine .inl ⟨by simp only[Instr.findNow,hs];exact h1,λ y hy=>?_⟩;rcases yay.1 hy with rfl|hy
    ·rw[hn];intro e2;injection e2 with _ e3;exact hx e3.symm
    ·exact h2 y hy
   ·exact .inr ⟨j+1,e',by simp only[Instr.findNow,hs];rw[h1];congr 3;omega,by simpa using h2,h3⟩
theorem zjf{P:Program}{kt:TypeId}{kd:IntKind}(h:P.underlying kt=some (.int kd))(em:Bool)(x:Int)(n:Nat):(Instr.checkKey em (n+1) kt (.int kd x)).run P w= .ok () w:=by
 simp[Instr.checkKey,underlying,program,Sem.run,h]
theorem MKey.int{P:Program}{kt:TypeId}{kd:IntKind}(h:P.underlying kt=some (.int kd)):MKey P kt λ v=>∃n,v= .int kd n:=
 ⟨λ w em v ⟨n,e⟩=>by subst e;exact zjf h em n 9999,λ w x ⟨n,e⟩ es he=>by
  subst e;rcases zgF (x:=n) es 0 he with ⟨h1,h2⟩| ⟨j,e,h1,h2,h3⟩
  ·exact .inl ⟨by simp[Instr.findKey,underlying,program,Sem.run,h,h1],h2⟩
  ·exact .inr ⟨j,e,by simp[Instr.findKey,underlying,program,Sem.run,h,h1],h2,h3⟩⟩
def GM(w:World)(r:Nat)(l:List (Value×Value)):Prop:=
 ∃es clk,w.heap[r]? =some (.map es clk)/\es.toList.map (λ e=>(e.key,e.val))=l
theorem GM.block{r:Nat}{l:List (Value×Value)}(h:GM w r l)(hb:x.heap[r]? =w.heap[r]?):GM x r l:=by
 obtain⟨es,clk,h1,h2⟩:=h;exact⟨es,clk,hb.trans h1,h2⟩
theorem GM.lt{r:Nat}{l:List (Value×Value)}(h:GM w r l):r<w.heap.size:=by
 obtain⟨es,clk,h1,_⟩:=h;exact(yaa.1 h1).1
section
variable {P : Program} {d : Option Tmp} {ty : TypeId} {ps : String} {af : Array Edge} {g : Option (Nat × Bool)} {ρ : Operand -> Value} {w : World} {K : Value -> World -> Prop} {good : Value -> Prop}
theorem zhP{kt et:TypeId}{m k:Operand}{ok:Bool}{r:Nat}{l:List (Value×Value)}{key z:Value}{inf:TypeInfo}(law:MKey P kt good)(ht:P.underlying t=some (.map kt et))(hi:P.info? et=some inf)(hz:inf.zero=some z)
  (hm:ρ m= .map (some r)) (hk:ρ k=key) (hat:GM w r l) (hg:good key) (hgl:∀p∈l,good p.1)
  (h1:(∀p∈l,p.1≠key)->K (if ok then .tuple #[z,.bool false] else z) w) (h2:∀v,(key,v)∈l->K (if ok then .tuple #[v,.bool true] else v) w):
  opW P ⟨d,.lookup t m k ok,ty,ps,af,g⟩ ρ w K:=by
 obtain⟨es,clk,e1,e2⟩:=hat;have hge:∀e∈es.toList,good e.key:=λ e he=>hgl (e.key,e.val) (by rw[←e2];exact yaq.2 ⟨e,he,rfl⟩);have hck:∀em,(Instr.checkKey em 10000 kt key).run P w= .ok () w:=λ em=>law.check w em hg;have hzv:(zeroValue et).run P w= .ok z w:=by simp[zeroValue,typeInfo,program,Sem.run,hi,hz]
 show opR P K _;rcases law.find w hg es.toList hge with ⟨hf,hno⟩| ⟨j,e,hf,hj,hke⟩
 ·refine zaI (s:=Instr.lookup t (ρ m) (ρ k) ok) (v:=if ok then .tuple #[z,.bool false] else z) (w':=w) ?_ (h1 λ p hp=>?_)
  ·rw[hm,hk];simp[Instr.lookup,run_underlying ht,MapKept.run_getObj_map e1,hck,hf,hzv,Result.andThen]
  ·rw[←e2]at hp;obtain⟨e,he,rfl⟩:=yaq.1 hp;exact hno e he
 ·refine zaI (s:=Instr.lookup t (ρ m) (ρ k) ok) (v:=if ok then .tuple #[e.val,.bool true] else e.val) (w':=w) ?_ (h2 e.val ?_)
  ·rw[hm,hk];simp[Instr.lookup,run_underlying ht,MapKept.run_getObj_map e1,hck,hf,Result.andThen]
  ·rw[←e2,←hke];exact yaq.2 ⟨e,List.mem_of_getElem? hj,rfl⟩
theorem zmY{kt et:TypeId}{m k x:Operand}{r:Nat}{l:List (Value×Value)}{key:Value}(law:MKey P kt good)(ht:P.underlying t=some (.map kt et))
  (hm:ρ m= .map (some r)) (hk:ρ k=key) (hx:ρ x=v) (hat:GM w r l) (hg:good key) (hgl:∀p∈l,good p.1) (hno:∀p∈l,p.1≠key)
  (h:∀w',GM w' r (l++ [(key,v)])->Keep (λ i=>i=r) w w'->w'.heap.size=w.heap.size->K undef w'):
  opW P ⟨d,.mapUpdate t m k x,ty,ps,af,g⟩ ρ w K:=by
 obtain⟨es,clk,e1,e2⟩:=hat;have hge:∀e∈es.toList,good e.key:=λ e he=>hgl (e.key,e.val) (by rw[←e2];exact yaq.2 ⟨e,he,rfl⟩);have hck:∀em,(Instr.checkKey em 10000 kt key).run P w= .ok () w:=λ em=>law.check w em hg;have hf:(Instr.findKey kt key es.toList).run P w= .ok .none w:=by
  rcases law.find w hg es.toList hge with ⟨hf,_⟩| ⟨j,e,hf,hj,hke⟩
  ·exact hf
  ·exact absurd hke (hno (e.key,e.val) (by rw[←e2];exact yaq.2 ⟨e,List.mem_of_getElem? hj,rfl⟩))
 have hrun:(Instr.mapUpdate t (.map (some r)) key v).run P w= .ok () (w.putObj r (.map (es.push {key:=key,val:=v,born:=clk}) (clk+1))):=by
  simp[Instr.mapUpdate,run_underlying ht,MapKept.run_getObj_map e1,hck,hf,MapKept.run_setObj_map _ e1,Result.andThen]
  rfl
 have hlt:r<w.heap.size:=(yaa.1 e1).1;have hfin:=h (w.putObj r (.map (es.push {key:=key,val:=v,born:=clk}) (clk+1))) ⟨_,_,yaX hlt,by simp[e2]⟩ (zaB rfl) sM;show opR P K ((do Instr.mapUpdate t (ρ m) (ρ k) (ρ x);pure .skip:Sem Next).run P w);rw[hm,hk,hx];simp only[yaJ,hrun,yaz,yaR];exact hfin
end
structure KeyL where
 name:Lab
 a:Int
 b:Int
 c:Int
 d:Int
 ref:Bool
def keyV(k:KeyL):Value:= .agg #[vs k.name,vi k.a,vi k.b,vi k.c,vi k.d,.bool k.ref]
theorem zkF{j k:KeyL}(h:keyV j=keyV k):j=k:=by
 obtain⟨n,a,b,c,d,r⟩:=j;obtain⟨n',a',b',c',d',r'⟩:=k;simp[keyV,vs]at h;obtain⟨rfl,rfl,rfl,rfl,rfl,rfl⟩:=h
 rfl
structure zl9(k:KeyL):Prop where
 n:k.name.length<=1000000000
 a:(Lit.int .i64 k.a).wf=true
 b:(Lit.int .i64 k.b).wf=true
 c:(Lit.int .i64 k.c).wf=true
 d:(Lit.int .i64 k.d).wf=true
theorem znm:WideMaps.KeyLaw prog 185:=deep_law (m:=3) (by decide) kR kR kR
theorem zhV{k:KeyL}(h:zl9 k):∃l,keyOf prog 185 (keyV k)=some l:=by
 have hs:(⟨k.name.toArray⟩:ByteArray).size<=maxLen:=by
  have:(⟨k.name.toArray⟩:ByteArray).size=k.name.length:=rfl;rw[this];have:=h.n;simp[maxLen];omega
 have h1:∀n,prog.keyLits (n+1) 9 [vs k.name]=some [.string k.name]:=λ n=>by
  show(if (⟨k.name.toArray⟩:ByteArray).size<=maxLen then some [Lit.string (⟨k.name.toArray⟩:ByteArray).data.toList] else .none)=_;rw[if_pos hs]
 have h2:∀n x,(Lit.int .i64 x).wf=true->prog.keyLits (n+1) 3 [vi x]=some [.int .i64 x]:=λ n x hx=>by
  show(if IntKind.i64=IntKind.i64/\(Lit.int .i64 x).wf=true then some [Lit.int .i64 x] else .none)=_;rw[if_pos ⟨rfl,hx⟩]
 have h3:∀n,prog.keyLits (n+2) 183 [vi k.a,vi k.b,vi k.c,vi k.d]=some [.int .i64 k.a,.int .i64 k.b,.int .i64 k.c,.int .i64 k.d]:=λ n=>by
  have e:prog.keyLits (n+2) 183 [vi k.a,vi k.b,vi k.c,vi k.d]=((List.range 4).mapM λ i=>prog.keyLits (n+1) 3 (([vi k.a,vi k.b,vi k.c,vi k.d].drop (i*1)).take 1)).map List.flatten:=by kernel_rfl
  rw[e];simp only[show List.range 4=[0,1,2,3] from rfl,ycS,List.mapM_nil];show(((prog.keyLits (n+1) 3 [vi k.a]).bind λ x0=>((prog.keyLits (n+1) 3 [vi k.b]).bind λ x1=>((prog.keyLits (n+1) 3 [vi k.c]).bind λ x2=>((prog.keyLits (n+1) 3 [vi k.d]).bind λ x3=>some [x3]).bind λ y=>some (x2::y)).bind λ y=>some (x1::y)).bind λ y=>some (x0::y)):Option (List (List Lit))).map List.flatten=_;rw[h2 n _ h.a,h2 n _ h.b,h2 n _ h.c,h2 n _ h.d];rfl
 have h4:∀n,prog.keyLits (n+1) 4 [.bool k.ref]=some [.bool k.ref]:=λ n=>rfl;have h5:∀n,prog.keyLits (n+3) 185 (keyV k).cells.toList=(((prog.keyLits (n+2) 9 [vs k.name]).bind λ x0=>((prog.keyLits (n+2) 183 [vi k.a,vi k.b,vi k.c,vi k.d]).bind λ x1=>((prog.keyLits (n+2) 4 [.bool k.ref]).bind λ x2=>some [x2]).bind λ y=>some (x1::y)).bind λ y=>some (x0::y)):Option (List (List Lit))).map List.flatten:=λ n=>by
  have e:prog.keyLits (n+3) 185 (keyV k).cells.toList=(([(9,0,1),(183,1,4),(4,5,1)]:List (Nat×Nat×Nat)).mapM λ p=>prog.keyLits (n+2) p.1 (([vs k.name,vi k.a,vi k.b,vi k.c,vi k.d,.bool k.ref].drop p.2.1).take p.2.2)).map List.flatten:=by kernel_rfl
  rw[e];simp only[ycS,List.mapM_nil]
  rfl
 have hn:2<=prog.types.size:=of_decide_eq_true kR;obtain⟨n,hn⟩:∃n,prog.types.size+1=n+3:=⟨prog.types.size - 2,oM⟩;have h6:keyOf prog 185 (keyV k)=(if (prog.keyType 185 && (keyV k).formed prog 185)=true then(prog.keyLits (prog.types.size+1) 185 (keyV k).cells.toList).map λ ls=>Lit.string (keyBytes ls) else .none):=by kernel_rfl
 rw[h6,if_pos kR,hn,h5,h1,h3,h4];exact⟨_,rfl⟩
def cmpI(a b:Int):Int:=if a<b then -1 else if b<a then 1 else 0
def orI:List Int->Int
 | []=>0
 |a::l=>if a=0 then orI l else a
def lexC{α:Type}(cf:α->α->Int):List α->List α->Int
 | [],[]=>0
 | [],_::_=> -1
 |_::_,[]=>1
 |x::l,y::m=>if cf x y=0 then lexC cf l m else cf x y
theorem orI_drop{l:List Int}(h:i<l.length):orI (l.drop i)=if l[i]=0 then orI (l.drop (i+1)) else l[i]:=by
 rw[yag h];rfl
theorem zdh{α:Type}{cf:α->α->Int}{a b:List α}(ha:i<a.length)(hb:i<b.length):lexC cf (a.drop i) (b.drop i)=if cf a[i] b[i]=0 then lexC cf (a.drop (i+1)) (b.drop (i+1)) else cf a[i] b[i]:=by
 rw[yag ha,yag hb];rfl
theorem zdr{α:Type}{cf:α->α->Int}:∀{a b:List α},a=[]\/b=[]->lexC cf a b=cmpI a.length b.length
 | [],[],_=>rfl
 | [],_::_,_=>by simp only[lexC,cmpI,yah,ybe];rw[if_pos oM]
 |_::_,[],_=>by simp only[lexC,cmpI,yah,ybe];rw[if_neg oM,if_pos oM]
 |_::_,_::_,h=>by simp at h
namespace N_int
theorem zeX(w:World)(a:Int):Fn prog 181 #[.int .i64 a] w (λ v w'=>v= .bool false/\w'=w):=by
 refine enx func181 ntmps181 ?_;repeat (first|refine c_r ?_| (refine zcx (by rfl) ?_;intro gd K hgd hK;simp (disch:=first|omega|assumption|rfl) only[go_sem,decide_true];refine hK _ _ ?_;clear hK hgd;clear K gd))
 refine rt0 ntmps181 ?_;exact⟨rfl,rfl⟩
theorem Compare_ok(w:World)(a b:Int):Fn prog 142 #[.int .i64 a,.int .i64 b] w (λ v w'=>v=vi (cmpI a b)/\w'=w):=by
 refine enx func142 ntmps142 ?_;refine gz0 ?_;refine rq ?_;intro gd K hgd hK;refine sg0 ?_;refine yfm (zeX _ _) ?_;rintro _ _ ⟨rfl,rfl⟩;refine sg0 ?_;apply hK;refine rqz ?_;intro gd K hgd hK;refine sg0 ?_;refine yfm (zeX _ _) ?_;rintro _ _ ⟨rfl,rfl⟩;refine sg0 ?_;apply hK;refine gz0 ?_;refine wc0 ?_ ?_
 ·intro h;cases h
 intro _;refine gz0 ?_;refine wc0 ?_ ?_
 ·intro h;cases h
 intro _;refine gz0 ?_;refine wc0 ?_ ?_
 ·intro h;simp only[ydT]at h;refine gz0 ?_;refine rt0 ntmps142 ?_;exact⟨by rw[cmpI,if_pos h],rfl⟩
 intro h;simp only[ydF]at h;refine gz0 ?_;refine wc0 ?_ ?_
 ·intro h2;simp only[ydT]at h2;refine gz0 ?_;refine rt0 ntmps142 ?_;exact⟨by rw[cmpI,if_neg h,if_pos h2],rfl⟩
 intro h2;simp only[ydF]at h2;refine gz0 ?_;refine rt0 ntmps142 ?_;exact⟨by rw[cmpI,if_neg h,if_neg h2],rfl⟩
end N_int
theorem zgR:∀a b:Lab,zdX a b=decide (cmpL a b<0)
 | [],[]=>rfl
 | [],_::_=>rfl
 |_::_,[]=>rfl
 |a::l,b::m=>by
  show(decide (a<b)|| (a==b && zdX l m))=decide ((if a<b then(-1:Int) else if b<a then 1 else cmpL l m)<0);by_cases h1:a<b
  ·simp[h1]
  ·by_cases h2:b<a
   ·have:¬a=b:=by rintro rfl;exact h1 h2
    simp[h1,h2,this]
   ·have:a=b:=by apply ydd.1;rw[zcE]at*;omega
    subst this;simp[h1,zgR l m]
theorem zhv:∀a b:Lab,cmpL a b= -1\/cmpL a b=0\/cmpL a b=1
 | [],[]=> .inr (.inl rfl)
 | [],_::_=> .inl rfl
 |_::_,[]=> .inr (.inr rfl)
 |a::l,b::m=>by
  show(if a<b then(-1:Int) else if b<a then 1 else cmpL l m)= -1\/(if a<b then(-1:Int) else if b<a then 1 else cmpL l m)=0\/(if a<b then(-1:Int) else if b<a then 1 else cmpL l m)=1;by_cases h1:a<b
  ·simp[h1]
  ·by_cases h2:b<a
   ·simp[h1,h2]
   ·simp only[h1,h2,if_false];exact zhv l m
theorem zdv{a b c:Lab}(h1:cmpL a b<0)(h2:cmpL b c<=0):cmpL a c<0:=by
 have h3:=zeg (Int.le_of_lt h1) h2;by_cases h:cmpL a c=0
 ·have:=zb4 h;subst this;have:=zbE a b;omega
 ·omega
theorem zgZ(w:World)(a b:Lab):Fn prog 190 #[vs a,vs b] w (λ v w'=>v=vi (cmpL a b)/\Ext w w'):=by
 have hc:=zhv a b;have h1:=zgR a b;have h2:cmpL a b=0↔a=b:=⟨zb4,λ h=>by rw[h];exact zdV _⟩;refine enx func190 ntmps190 ?_;refine gz0 ?_;refine wc0 ?_ ?_
 ·intro ht;rw[h1]at ht;simp only[ydT]at ht;refine gz0 ?_;refine rt0 ntmps190 ?_;exact⟨by congr 1;omega,Keep.refl _ _⟩
 ·intro hf;rw[h1]at hf;simp only[ydF]at hf;refine gz0 ?_;refine wc0 ?_ ?_
  ·intro ht;rw[h1]at ht;simp only[yao,Bool.or_eq_false_iff,ydF]at ht;refine gz0 ?_;refine rt0 ntmps190 ?_;refine⟨?_,Keep.refl _ _⟩;have:¬cmpL a b=0:=λ h=>ht.2 (h2.1 h)
   congr 1;omega
  ·intro hf2;rw[h1]at hf2;simp only[yaw,yda,ydT]at hf2;refine gz0 ?_;refine rt0 ntmps190 ?_;refine⟨?_,Keep.refl _ _⟩;have:cmpL a b=0:=h2.2 (hf2.resolve_left hf);rw[this]
theorem zfM(w:World)(a b:Lab)(ha:a.length<=9000000000000000000)(hb:b.length<=9000000000000000000):Fn prog 169 #[vs a,vs b] w (λ v w'=>v=vi (cmpL (zaJ a) (zaJ b))/\Ext w w'):=by
 refine enx func169 ntmps169 ?_;refine gz0 ?_;refine rq ?_;intro gd K hgd hK;refine sg0 ?_;refine yfm (zb6 _ _ ha) ?_;rintro _ w1 ⟨rfl,hE1⟩;refine sg0 ?_;refine yfm (zb6 _ _ hb) ?_;rintro _ w2 ⟨rfl,hE2⟩;refine sg0 ?_;refine yfm (zgZ _ _ _) ?_;rintro _ w3 ⟨rfl,hE3⟩;refine sg0 ?_;refine en hK ?_;refine rt0 ntmps169 ?_;exact⟨rfl,(hE1.trans hE2).trans hE3⟩
def sgn(n:Int):Int:=if n<0 then -1 else if 0<n then 1 else 0
theorem zel(w:World)(n:Int):Fn prog 170 #[vi n] w (λ v w'=>v=vi (sgn n)/\Ext w w'):=by
 refine enx func170 ntmps170 ?_;refine gz0 ?_;refine wc0 ?_ ?_
 ·intro ht;simp only[ydT]at ht;refine gz0 ?_;refine rt0 ntmps170 ?_;exact⟨by rw[sgn,if_pos ht],Keep.refl _ _⟩
 ·intro hf;simp only[ydF]at hf;refine gz0 ?_;refine wc0 ?_ ?_
  ·intro ht;simp only[ydT]at ht;refine gz0 ?_;refine rt0 ntmps170 ?_;exact⟨by rw[sgn,if_neg hf,if_pos ht],Keep.refl _ _⟩
  ·intro hf2;simp only[ydF]at hf2;refine gz0 ?_;refine rt0 ntmps170 ?_;exact⟨by rw[sgn,if_neg hf,if_neg hf2],Keep.refl _ _⟩
def cmpR:Nm->Nm->Int
 | [],[]=>0
 | [],_::_=> -1
 |_::_,[]=>1
 |a::l,b::m=>if cmpL a b=0 then cmpR l m else cmpL a b
def cmpN(a b:Nm):Int:=cmpR a.reverse b.reverse
theorem zkW:∀a b:Nm,a=[]\/b=[]->cmpR a b=sgn ((a.length:Int) - b.length)
 | [],[],_=>rfl
 | [],_::_,_=>by simp only[cmpR,sgn,yah,ybe];rw[if_pos oM]
 |_::_,[],_=>by simp only[cmpR,sgn,yah,ybe];rw[if_neg oM,if_pos oM]
 |_::_,_::_,h=>by simp at h
theorem zjc{a b:Nm}(ha:i<a.length)(hb:i<b.length):cmpR (a.drop i) (b.drop i)=if cmpL a[i] b[i]=0 then cmpR (a.drop (i+1)) (b.drop (i+1)) else cmpL a[i] b[i]:=by
 rw[yag ha,yag hb];rfl
theorem zcS(w:World)(a b:Value)(xs ys:Nm)(ha:Row w a (xs.map vs))(hb:Row w b (ys.map vs))(hx:LB xs)(hy:LB ys)(hxl:xs.length<=9000000000000000000)(hyl:ys.length<=9000000000000000000):
  Fn prog 123 #[a,b] w (λ v w'=>v=vi (cmpN (zag xs) (zag ys))/\Ext w w'):=by
 obtain⟨a,ca,rfl,hca,hla⟩:=ha;obtain⟨b,cb,rfl,hcb,hlb⟩:=hb;simp only[ylm]at*;refine enx func123 ntmps123 ?_;refine gz0 ?_;refine zan (λ m σ ds v=>ds=[]/\∃i:Nat,i+m=xs.length/\i<=ys.length/\σ 5=vi (i+1)/\σ 0= .slice a xs.length ca/\σ 1= .slice b ys.length cb/\Ext w v/\cmpN (zag xs) (zag ys)=cmpR ((zag xs).reverse.drop i) ((zag ys).reverse.drop i)) xs.length ?_ ?_
 ·refine⟨rfl,0,oM,oM,?_,?_,?_,Keep.refl _ _,by simp[cmpN]⟩<;>simp only[go_sem]<;>rfl
 ·rintro m σ ds v ⟨rfl,i,him,hiy,h5,h0,h1,hE,hinv⟩;refine rqz ?_;intro gd K hgd hK;have hg4:=gk 4 11 hgd rfl;have hstep:∀(c:Bool),(c=true↔i<xs.length/\i<ys.length)->c=false->cmpR ((zag xs).reverse.drop i) ((zag ys).reverse.drop i)=sgn ((xs.length:Int) - ys.length):=λ c hc hf=>by
   have hno:¬(i<xs.length/\i<ys.length):=λ h=>by rw[hc.2 h]at hf;cases hf
   have e1:((zag xs).reverse.drop i).length=xs.length - i:=by simp[zax]
   have e2:((zag ys).reverse.drop i).length=ys.length - i:=by simp[zax]
   rw[zkW _ _ (by
    rcases ydh i xs.length with h|h
    ·exact .inr (yan.1 oM)
    ·exact .inl (yan.1 oM)),e1,e2]
   congr 1;omega
  by_cases hlx:((i:Int)+1<=xs.length)
  ·try simp (disch:=first|omega|assumption|rfl) only[go_sem,h5,h0,h1,yet hlx,↓hg4]
   apply hK;refine wcz ?_ ?_
   ·intro hly;simp only[ydT]at hly;have hsa:a.isSome=true:=zaf (hla (xs.length - 1 - i) oM);have hsb:b.isSome=true:=zaf (hlb (ys.length - 1 - i) oM);repeat refine c_r ?_
    refine zaF (λ _=>false) [(0,true),(1,true),(2,true),(3,true),(4,true),(5,true),(6,true),(7,true),(8,true),(9,true),(10,true),(11,true),(12,true),(13,true),(14,false),(15,true)] NoS mixed kR ?_;intro gd K x hgd hx hxe hK;clear hxe;have hla':=λ j h=>zaa (hE.trans hx) (hla j h);have hlb':=λ j h=>zaa (hE.trans hx) (hlb j h);have e1:((xs.length:Int) - (i+1)).toNat=xs.length - 1 - i:=oM;have e2:((ys.length:Int) - (i+1)).toNat=ys.length - 1 - i:=oM;simp (disch:=first|omega|assumption) only[go_sem,h5,h0,h1,e1,e2,hla',hlb',yaA];refine yfm (zfM _ _ _ (LB.get ‹LB xs› _) (LB.get ‹LB ys› _)) ?_;rintro _ x1 ⟨rfl,hx1⟩;refine⟨.inr hx1,?_⟩;refine sg0 ?_;apply hK;have hst:=zjc (a:=(zag xs).reverse) (b:=(zag ys).reverse) (i:=i) (by simp[zax];omega) (by simp[zax];omega);have g1:(zag xs).reverse[i]'(by simp[zax];omega)=zaJ (xs[xs.length - 1 - i]'(oM)):=by
     rw[ycy];simp[zag]
    have g2:(zag ys).reverse[i]'(by simp[zax];omega)=zaJ (ys[ys.length - 1 - i]'(oM)):=by
     rw[ycy];simp[zag]
    rw[g1,g2]at hst;refine gz0 ?_;refine wc0 ?_ ?_
    ·intro hne;simp only[yao,ydF]at hne;refine gz0 ?_;refine rt0 ntmps123 ?_;refine⟨by rw[hinv,hst,if_neg hne],(hE.trans hx).trans hx1⟩
    ·intro heq;simp only[yaw,ydT]at heq;refine rqz ?_;intro gd K hgd hK;refine sgz h5 ?_;refine en hK ?_;refine⟨m - 1,oM,rfl,i+1,oM,oM,?_,?_,?_,(hE.trans hx).trans hx1,?_⟩
     ·simp only[go_sem];push_cast;rfl
     ·simp only[go_sem,h0]
     ·simp only[go_sem,h1]
     ·rw[hinv,hst,if_pos heq]
   ·intro hge;simp only[ydF]at hge;refine rqz ?_;intro gd K hgd hK;refine sgz (az2 h0 h1) ?_;refine yfm (zel _ _) ?_;rintro _ w2 ⟨rfl,hE2⟩;try simp only[go_sem]
    refine en hK ?_;refine rt0 ntmps123 ?_;exact⟨by rw[hinv,hstep false (by simp;omega) rfl],hE.trans hE2⟩
  ·try simp (disch:=first|omega|assumption|rfl) only[go_sem,h5,h0,h1,yef hlx,↓hg4]
   apply hK;refine wcz ?_ ?_
   ·intro h;simp at h
   ·intro _;refine rqz ?_;intro gd K hgd hK;refine sgz (az2 h0 h1) ?_;refine yfm (zel _ _) ?_;rintro _ w2 ⟨rfl,hE2⟩;try simp only[go_sem]
    refine en hK ?_;refine rt0 ntmps123 ?_;exact⟨by rw[hinv,hstep false (by simp;omega) rfl],hE.trans hE2⟩
end Go.Proofs.YtfacfpcopcgbdaaGreat
namespace Go.Proofs
open Go.Shelf
def Tryz.lays106_ren:Go.Shelf.Ren:=⟨fun|106=>186|213=>224|265=>241|n=>n,fun|9=>9|3=>3|n=>n,fun|n=>n⟩
theorem Tryz.lays106:Go.Proofs.Lays.n106 Tryz.prog Tryz.lays106_ren:={
 mixed:=by kernel_rfl
 f106:=Tryz.func186.trans (congrArg some (by kernel_rfl))
 f213:=Tryz.func224.trans (congrArg some (by kernel_rfl))
 f265:=Tryz.func241.trans (congrArg some (by kernel_rfl))
 t3:=Tryz.underlying3
 a3:=Tryz.isAgg3
 z3:=Tryz.sizeOf3
 v3:=Tryz.zeroValue3
 t9:=Tryz.underlying9
 a9:=Tryz.isAgg9
 z9:=Tryz.sizeOf9
 v9:=Tryz.zeroValue9}
end Go.Proofs
namespace Go.Proofs.YtfacfpcopcgbdaaGreat
open Go Tryz
variable {w w0 w1 W0 x A:World}{v u lv nv:Value}{cs l:List Value}{B k b i j c m cap:Nat}{t e:TypeId}{a:Option Addr}{S C:Nat->Prop}
theorem Fn.of_calls{P:Program}{f:FuncId}{args:Array Value}{R:Value->World->Prop}(h:Calls P f args w (λ e w'=>∃v,e= .returned v/\R v w')):Fn P f args w R:=callsIn_wide.2 h
theorem Fn.calls{P:Program}{f:FuncId}{args:Array Value}{R:Value->World->Prop}(h:Fn P f args w R):Calls P f args w (λ e w'=>∃v,e= .returned v/\R v w'):=callsIn_wide.1 h
theorem zgY(w:World)(a b:Lab):Fn prog 186 #[vs a,vs b] w (λ v w'=>v=vi (cmpL a b)/\w'=w):=
 Fn.of_calls (Calls.mono (Any.strings_Compare Tryz.lays106 ⟨a.toArray⟩ ⟨b.toArray⟩ w) λ _ _ ⟨he,hw⟩=>⟨_,he,rfl,hw⟩)
theorem zg2(w:World)(a b:Lab)(ha:a.length<=9000000000000000000)(hb:b.length<=9000000000000000000):Fn prog 176 #[vs a,vs b] w (λ v w'=>v=vi (cmpL (zaJ a) (zaJ b))/\Ext w w'):=by
 refine enx func176 ntmps176 ?_;refine gz0 ?_;refine rq ?_;intro gd K hgd hK;refine sg0 ?_;refine yfm (zc4 _ _ ha) ?_;rintro _ w1 ⟨rfl,hE1⟩;refine sg0 ?_;refine yfm (zc4 _ _ hb) ?_;rintro _ w2 ⟨rfl,hE2⟩;refine sg0 ?_;refine yfm (zgY _ _ _) ?_;rintro _ w3 ⟨rfl,rfl⟩;refine sg0 ?_;refine en hK ?_;refine rt0 ntmps176 ?_;exact⟨rfl,hE1.trans hE2⟩
theorem zfy{P:Program}{ad:Option Addr}{n:Nat}{k k':IntKind}(h:n<=c)(hi:(P.info? e).isSome=true):
  slD P (some (.slice e)) (.slice ad n c) .none (some (.int k n)) (some (.int k' n))=some (.slice ad n n):=by
 have e1:slB .none=some 0:=rfl;have e2:∀(k:IntKind) (d:Nat),slH (some (.int k (n:Int))) d=some n:=λ k d=>by simp[slH]
 simp only[slD,e1,e2];simp[h,hi,zar]
--?? slices.Clip[[]string,string]
theorem zfl(l:List Lab):∀q∈l.map vs,one q=true:=λ q hq=>by
 obtain⟨s,_,rfl⟩:=yaq.1 hq
 rfl
theorem zem(w:World)(a:Value)(xs:Nm)(ha:Row w a (xs.map vs))(hx:LB xs)(hxl:xs.length<=100000000000):
  Fn prog 86 #[a] w (λ v w'=>Own w.heap.size w' 9 v ((zag xs).map vs)/\Ext w w'):=by
 obtain⟨a,ca,rfl,hca,hla⟩:=ha;simp only[ylm]at*;refine enx func86 ntmps86 ?_;repeat (first|refine c_r ?_|refine rg0 ?_)
 refine zan (λ m σ ds A=>ds=[]/\∃i:Nat,∃v,i+m=xs.length/\σ 4=vi i/\σ 0= .slice a xs.length ca/\σ 3=v/\Ext w A/\Own w.heap.size A 9 v ((zag (xs.take i)).map vs)) xs.length ?_ ?_
 ·refine⟨rfl,0,_,oM,?_,?_,?_,Keep.refl _ _,Own.nil _ _ _⟩<;>simp only[go_sem]<;>rfl
 ·rintro m σ ds A ⟨rfl,i,v,him,h4,h0,h3,hE,hown⟩;repeat refine c_r ?_
  refine rg2 h4 h0 ?_;repeat refine c_r ?_
  refine wc0 ?_ ?_
  ·intro hlt;simp only[ydT]at hlt;have hsa:a.isSome=true:=zaf (hla i oM);have hla':=λ j h=>zaa hE (hla j h);repeat refine c_r ?_
   refine rq ?_;intro gd K hgd hK;try simp (disch:=first|omega|assumption|rfl) only[go_sem,h4,h0,h3,hla',yaA]
   refine yfm (zb6 _ _ (LB.get hx _)) ?_;rintro _ w1 ⟨rfl,hE1⟩;try simp only[go_sem]
   refine zc3 (z:=vs []) rfl rfl rfl rfl rfl ?_;intro w2 hE2 hs2 ho2;try simp only[go_sem]
   refine zb0 ((hown.ext hE1).ext hE2) ho2.row rfl rfl rfl rfl rfl rfl ((vq1 h3)) vr0 (zfl [_]) (by simp[zag];omega) (by decide) (by have:=hE.size;have:=hE1.size;omega) ?_;intro v' w3 ho3 hE3 _ _;try simp only[go_sem]
   refine hK _ _ ?_;clear hK hgd;clear K;try clear gd
   repeat refine c_r ?_
   refine rg1 h4 ?_;repeat refine c_r ?_
   refine⟨m - 1,oM,rfl,i+1,_,oM,by simp only[go_sem];push_cast;rfl,vq1 h0,by simp only[go_sem];rfl,hE3 _ ((hE.trans hE1).trans hE2) (ynl _),?_⟩;rw[zcA oM,yaC];exact ho3
  ·intro hge;simp only[ydF]at hge;repeat refine c_r ?_
   refine rg1 h3 ?_;repeat refine c_r ?_
   refine rt0 ntmps86 ?_;rw[yaf oM]at hown;exact⟨hown,hE⟩
def few(n:Nm):Bool:=decide (n.length<=140) && n.all λ l=>decide (l.length<=100)
theorem few_lb{n:Nm}(h:few n=true):LB n:=λ l hl=>by
 simp only[few,yaB,ybg,ydT]at h;have:=h.2 l hl;omega
theorem few_len{n:Nm}(h:few n=true):n.length<=140:=by
 simp only[few,yaB,ydT]at h;exact h.1
theorem zju(w:World)(a:Value)(xs:Nm)(ha:Row w a (xs.map vs)):
  Fn prog 18 #[a] w (λ v w'=>v= .bool (few xs)/\Ext w w'):=by
 obtain⟨a,ca,rfl,hca,hla⟩:=ha;simp only[ylm]at*;refine enx func18 ntmps18 ?_;refine gz0 ?_;refine wc0 ?_ ?_
 ·intro h;simp only[ydT]at h;refine gz0 ?_;refine rt0 ntmps18 ?_;exact⟨by rw[few,yef oM];rfl,Keep.refl _ _⟩
 ·intro h;simp only[ydF]at h;refine gz0 ?_;refine zan (λ m σ ds A=>ds=[]/\∃i:Nat,i+m=xs.length/\σ 3=vi i/\σ 0= .slice a xs.length ca/\Ext w A/\∀l∈xs.take i,l.length<=100) xs.length ?_ ?_
  ·refine⟨rfl,0,oM,?_,?_,Keep.refl _ _,sM⟩<;>simp only[go_sem]<;>rfl
  ·rintro m σ ds A ⟨rfl,i,him,h3,h0,hE,hall⟩;refine gz (az2 h3 h0) ?_;refine wc0 ?_ ?_
   ·intro hlt;simp only[ydT]at hlt;have hsa:a.isSome=true:=zaf (hla i oM);have hla':=λ j h=>zaa hE (hla j h);refine rqz ?_;intro gd K hgd hK;simp (disch:=first|omega|assumption|rfl) only[go_sem,h3,h0,hla',yaA];apply hK;refine wcz ?_ ?_
    ·intro hb;simp only[ydT]at hb;refine gz0 ?_;refine rt0 ntmps18 ?_;refine⟨?_,hE⟩;have:few xs=false:=by
      rw[←Bool.not_eq_true];intro hf;simp only[few,yaB,ybg,ydT]at hf;have:=hf.2 (xs[i]'(oM)) (yac _);omega
     rw[this]
    ·intro hb;simp only[ydF]at hb;refine gz h3 ?_;refine⟨m - 1,oM,rfl,i+1,oM,by simp only[go_sem];push_cast;rfl,vq1 h0,hE,λ l hl=>?_⟩;rw[zal oM]at hl;rcases yai.1 hl with hl|hl
     ·exact hall l hl
     ·rw[yae.1 hl];omega
   ·intro hge;simp only[ydF]at hge;refine gz0 ?_;refine rt0 ntmps18 ?_;refine⟨?_,hE⟩;rw[yaf oM]at hall;have:few xs=true:=by
     simp only[few,yaB,ybg,ydT];exact⟨oM,hall⟩
    rw[this]
theorem Row.shut{D:Nat}{c:Option (List Deferred)}(h:Row w v l)(hD:w.heap[D]? =some (.deferred c))(hk:Keep (λ b=>b=D) w x):Row x v l:=by
 obtain⟨a,cp,rfl,hc,hl⟩:=h;refine⟨a,cp,rfl,hc,λ j hj=>zhz hk (λ p hp hpD=>?_) (hl j hj)⟩;have h1:=hl j hj;rw[hp]at h1;have h2:w.cell? p=some l[j]:=h1;unfold World.cell? at h2;rw[hpD,hD]at h2;cases h2
theorem ClipN_ok(hr:Row w v l):Fn prog 135 #[v] w (λ u w'=>(Row w' u l/\Ext w w')/\∀x n k,u= .slice x n k->∃n' k',v= .slice x n' k'):=by
 obtain⟨a,c,rfl,hc,hl⟩:=hr;refine enx func135 ntmps135 ?_;refine gz0 ?_;refine rq ?_;intro gd K hgd hK;refine sg0 ?_;have hcl:slD prog (some (TypeDesc.slice 27)) (Value.slice a l.length c) .none (some (Value.int IntKind.i64 ↑l.length)) (some (Value.int IntKind.i64 ↑l.length))=some (.slice a l.length l.length):=zfy hc (by rfl);rw[hcl];refine sg0 ?_;refine en hK ?_;refine rt0 ntmps135 ?_;exact⟨⟨⟨a,l.length,rfl,ynl _,hl⟩,Keep.refl _ _⟩,λ x n k h=>by cases h;exact⟨_,_,rfl⟩⟩
def NamesAt(w:World)(v:Value)(ns:List Nm):Prop:=∃vals,Row w v vals/\vals.length=ns.length/\∀i (h:i<vals.length) (h':i<ns.length),Row w vals[i] (ns[i].map vs)
theorem zjd:∀a:Nm,cmpR a a=0
 | []=>rfl
 |a::l=>by simp[cmpR,zdV,zjd l]
theorem zkX:∀a b:Nm,cmpR b a= - cmpR a b
 | [],[]=>rfl
 | [],_::_=>rfl
 |_::_,[]=>rfl
 |a::l,b::m=>by
  simp only[cmpR];rw[zbE a b];by_cases h:cmpL a b=0
  ·simp[h,zkX l m]
  ·have:¬ -cmpL a b=0:=oM;simp[h,this]
theorem zjb:∀{a b:Nm},cmpR a b=0->a=b
 | [],[],_=>rfl
 | [],_::_,h=>by cases h
 |_::_,[],h=>by cases h
 |a::l,b::m,h=>by
  simp only[cmpR]at h
  split at h
  ·rename_i h';rw[zb4 h',zjb h]
  ·rename_i h';exact absurd h h'
theorem zhu:∀{a b c:Nm},cmpR a b<0->cmpR b c<0->cmpR a c<0
 | [],[],_,h,_=>by simp[cmpR]at h
 | [],_::_,[],_,h=>by simp[cmpR]at h
 | [],_::_,_::_,_,_=>by simp[cmpR]
 |_::_,[],_,h,_=>by simp[cmpR]at h
 |_::_,_::_,[],_,h=>by simp[cmpR]at h
 |a::l,b::m,c::n,h1,h2=>by
  simp only[cmpR]at*;by_cases e1:cmpL a b=0
  ·rw[if_pos e1]at h1;have:=zb4 e1;subst this;by_cases e2:cmpL a c=0
   ·rw[if_pos e2]at h2 ⊢;exact zhu h1 h2
   ·rw[if_neg e2]at h2 ⊢;exact h2
  ·rw[if_neg e1]at h1;have h2':cmpL b c<=0:=by
    by_cases e2:cmpL b c=0
    ·omega
    ·rw[if_neg e2]at h2;omega
   have:=zdv h1 h2';rw[if_neg oM];exact this
theorem ze2(a:Nm):cmpN a a=0:=zjd _
theorem zfZ(a b:Nm):cmpN b a= - cmpN a b:=zkX _ _
theorem zgK{a b:Nm}(h:cmpN a b=0):a=b:=by
 have:=zjb h;simpa using congrArg List.reverse this
theorem zef{a b c:Nm}(h1:cmpN a b<0)(h2:cmpN b c<0):cmpN a c<0:=zhu h1 h2
def Rise(L:List Nm):Prop:=L.Pairwise λ a b=>cmpN a b<0
theorem Rise.get{L:List Nm}(h:Rise L)(hij:i<j)(hj:j<L.length):cmpN (L[i]'(oM)) L[j]<0:=
 (ycb.1 h) i j oM hj hij
theorem Rise.eq{L M:List Nm}(h1:Rise L)(h2:Rise M)(hm:∀g,g∈L↔g∈M):L=M:=by
 have n1:L.Nodup:=List.Pairwise.imp (fun {a b} h e=>by subst e;rw[ze2]at h;omega) h1;have n2:M.Nodup:=List.Pairwise.imp (fun {a b} h e=>by subst e;rw[ze2]at h;omega) h2;have hp:L.Perm M:=(ybR n1 n2).2 hm;exact List.Perm.eq_of_pairwise (le:=λ a b=>cmpN a b<0) (λ a b _ _ h1 h2=>by have:=zfZ a b;omega) h1 h2 hp
theorem NamesAt.ext{L:List Nm}(h:NamesAt w v L)(hE:Ext w x):NamesAt x v L:=by
 obtain⟨vals,h1,h2,h3⟩:=h;exact⟨vals,h1.ext hE,h2,λ i a b=>(h3 i a b).ext hE⟩
theorem mid_i64(a b:Nat):IntKind.i64.wrap (((a:Int)+b).tdiv 2)=((a+b) / 2:Nat)\/¬a+b<=1000000000000000000:=by
 by_cases h:a+b<=1000000000000000000
 ·left
  have e:((a:Int)+b).tdiv 2=((a+b) / 2:Nat):=by
   rw[show ((a:Int)+b)=((a+b:Nat):Int) from by push_cast;rfl,ycw oM];omega
  rw[e,zkk oM oM]
 ·exact .inr h
theorem zoe(w:World)(lv nv:Value)(L:List Nm)(g:Nm)(hl:NamesAt w lv L)(hn:Row w nv (g.map vs))(hfold:∀x∈L,zag x=x)(hg:zag g=g)(hLB:∀x∈L,LB x/\x.length<=100000000000)(hgl:LB g/\g.length<=100000000000)
  (hlen:L.length<=1000000000000) (hs:Rise L):
  Fn prog 89 #[lv,nv] w (λ v w'=>Ext w w'/\∃(k:Nat) (ok:Bool),v= .tuple #[vi k,.bool ok]/\k<=L.length/\(ok=true->∃h:k<L.length,L[k]=g)/\
   (ok=false->(∀x∈L.take k,cmpN x g<0)/\∀x∈L.drop k,cmpN g x<0)):=by
 obtain⟨vals,⟨a,ca,rfl,hca,hla⟩,hvl,hrows⟩:=hl;refine enx func89 ntmps89 ?_;refine gz0 ?_;refine zan (λ m σ ds A=>ds=[]/\∃x y:Nat,x+m=y/\y<=L.length/\σ 6=vi x/\σ 7=vi y/\σ 0= .slice a vals.length ca/\σ 1=nv/\Ext w A/\(∀z∈L.take x,cmpN z g<0)/\∀z∈L.drop y,cmpN g z<0) L.length ?_ ?_
 ·refine⟨rfl,0,L.length,oM,ynl _,?_,?_,?_,?_,Keep.refl _ _,by simp,by simp⟩
  ·simp only[go_sem];rfl
  ·simp only[go_sem,hvl]
  ·simp only[go_sem]
  ·simp only[go_sem]
 ·rintro m σ ds A ⟨rfl,x,y,hxm,hy,h6,h7,h0,h1,hE,hlo,hhi⟩;refine gz (az2 h6 h7) ?_;refine wc0 ?_ ?_
  ·intro hlt;simp only[ydT]at hlt;have hmid:=(mid_i64 x y).resolve_right oM;obtain⟨k,hk⟩:∃k,(x+y) / 2=k:=⟨_,rfl⟩;rw[hk]at hmid;have hkx:x<=k:=oM;have hky:k<y:=oM;have hsa:a.isSome=true:=zaf (hla k oM);have hla':=λ j h=>zaa hE (hla j h);refine rqz ?_;intro gd K hgd hK;refine sgz (az2 h6 h7) ?_;rw[hmid];try simp only[go_sem]
   apply hK;refine rqz ?_;intro gd K hgd hK;refine sgz (az3 h0 h1 hla') ?_;refine yfm (zcS A _ _ L[k] g ((hrows k oM oM).ext hE) (hn.ext hE) (hLB _ (yac _)).1 hgl.1 (by have:=(hLB _ (yac (by omega:k<L.length))).2;omega) oM) ?_;rintro _ w1 ⟨rfl,hE1⟩;rw[hfold _ (yac _),hg];try simp only[go_sem]
   apply hK;refine gz0 ?_;refine wc0 ?_ ?_
   ·intro hz;simp only[ydT]at hz;refine gz0 ?_;refine zmF (by simp) rfl ntmps89 (by simp only[go_sem];rfl) (by simp only[go_sem];rfl) ?_;exact⟨hE.trans hE1,k,true,rfl,oM,λ _=>⟨oM,zgK hz⟩,λ h=>by cases h⟩
   ·intro hz;simp only[ydF]at hz;refine gz0 ?_;refine wc0 ?_ ?_
    ·intro hlt0;simp only[ydT]at hlt0;refine gz0 ?_;refine⟨m - (k+1 - x),oM,rfl,k+1,y,oM,hy,by simp only[go_sem];push_cast;rfl,vq1 h7,vq1 h0,vq1 h1,hE.trans hE1,?_,hhi⟩;intro z hz';rw[zal oM]at hz';rcases yai.1 hz' with hz'|hz'
     ·obtain⟨i,hi,rfl⟩:=yaG hz';simp at hi;rw[ybG];exact zef (hs.get oM oM) hlt0
     ·rw[yae.1 hz'];exact hlt0
    ·intro hge0;simp only[ydF]at hge0;refine gz0 ?_;refine⟨k - x,oM,rfl,x,k,oM,oM,vq1 h6,vq0,vq1 h0,vq1 h1,hE.trans hE1,hlo,?_⟩;have hgk:cmpN g L[k]<0:=by have:=zfZ L[k] g;omega
     intro z hz';rw[yag oM]at hz';rcases yay.1 hz' with hz'|hz'
     ·rw[hz'];exact hgk
     ·obtain⟨i,hi,rfl⟩:=yaG hz';simp at hi;rw[ycR];exact zef hgk (hs.get oM oM)
  ·intro hge;simp only[ydF]at hge;repeat (first|refine c_r ?_| (refine zcx (by rfl) ?_;intro gd K hgd hK;simp (disch:=first|omega|assumption|rfl) only[go_sem,h6];refine hK _ _ ?_;clear hK hgd;clear K gd))
   refine zmF (by simp) rfl ntmps89 (by simp only[go_sem];rfl) (by simp only[go_sem];rfl) ?_;have hxy:x=y:=oM;exact⟨hE,x,false,rfl,oM,(λ h=>by cases h),λ _=>⟨hlo,by rw[hxy];exact hhi⟩⟩
theorem Or_ok(w:World)(a:Value)(l:List Int)(ha:Row w a (l.map vi))(hl:l.length<=1000000000000):Fn prog 130 #[a] w (λ v w'=>v=vi (orI l)/\w'=w):=by
 obtain⟨a,ca,rfl,hca,hla⟩:=ha;simp only[ylm]at*;refine enx func130 ntmps130 ?_;refine gz0 ?_;refine zan (λ m σ ds v=>ds=[]/\v=w/\∃i:Nat,i+m=l.length/\σ 8=vi i/\σ 7=vi l.length/\σ 6= .slice a l.length ca/\σ 3=vi 0/\orI l=orI (l.drop i)) l.length ?_ ?_
 ·refine⟨rfl,rfl,0,oM,?_,?_,?_,?_,by simp⟩
  ·simp only[go_sem];rfl
  ·simp only[go_sem]
  ·simp only[go_sem]
  ·simp only[go_sem]
 ·rintro m σ ds v ⟨rfl,hv,i,him,h8,h7,h6,h3,hinv⟩;rw[hv];refine gz (az2 h8 h7) ?_;refine wc0 ?_ ?_
  ·intro hlt;simp only[ydT]at hlt;have hsa:a.isSome=true:=zaf (hla i oM);have hd:=orI_drop (l:=l) (i:=i) oM;refine rqz ?_;intro gd K hgd hK;simp (disch:=first|omega|assumption|rfl) only[go_sem,h8,h6,hla,yaA];refine hK _ _ ?_;clear hK hgd;clear K gd;refine gz h3 ?_;refine wc0 ?_ ?_
   ·intro h;simp only[yao,ydF]at h;refine gz0 ?_;refine rt0 ntmps130 ?_;exact⟨by rw[hinv,hd,if_neg h],rfl⟩
   ·intro h;simp only[yaw,ydT]at h;refine gz h8 ?_;exact⟨m - 1,oM,rfl,rfl,i+1,oM,by simp only[go_sem];push_cast;rfl,vq1 h7,vq1 h6,vq1 h3,by rw[hinv,hd,if_pos h]⟩
  ·intro hge;simp only[ydF]at hge;repeat (first|refine c_r ?_| (refine zcx (by rfl) ?_;intro gd K hgd hK;simp (disch:=first|omega|assumption|rfl) only[go_sem,h3];refine hK _ _ ?_;clear hK hgd;clear K gd))
   refine rt0 ntmps130 ?_;refine⟨?_,rfl⟩;rw[hinv,yat oM];rfl
theorem znQ(a b:Nm)(h:a=[]\/b=[]):cmpR a b=cmpI a.length b.length:=by
 rw[zkW a b h];unfold sgn cmpI;by_cases h1:(a.length:Int)<b.length
 ·rw[if_pos oM,if_pos h1]
 ·by_cases h2:(b.length:Int)<a.length
  ·rw[if_neg oM,if_pos oM,if_neg h1,if_pos h2]
  ·rw[if_neg oM,if_neg oM,if_neg h1,if_neg h2]
theorem zdy(w:World)(a b:Value)(xs ys:Nm)(ha:Row w a (xs.map vs))(hb:Row w b (ys.map vs))(hx:LB xs)(hy:LB ys)(hxl:xs.length<=9000000000000000000)(hyl:ys.length<=9000000000000000000):
  Fn prog 131 #[a,b] w (λ v w'=>v=vi (cmpN (zag xs) (zag ys))/\Ext w w'):=by
 obtain⟨a,ca,rfl,hca,hla⟩:=ha;obtain⟨b,cb,rfl,hcb,hlb⟩:=hb;simp only[ylm]at*;obtain⟨k,hk⟩:∃k,min xs.length ys.length=k:=⟨_,rfl⟩;have hmin:min (xs.length:Int) (ys.length:Int)=(k:Int):=oM;refine enx func131 ntmps131 ?_;repeat refine c_r ?_
 refine rg0 ?_;repeat refine c_r ?_
 refine rq ?_;intro gd K hgd hK;try simp only[go_sem]
 refine zmZ (k:= .i64) (a:=xs.length) (b:=ys.length) vq0 vq0 ?_;rw[hmin];try simp only[go_sem]
 refine hK _ _ ?_;clear hK hgd;clear K;try clear gd
 repeat refine c_r ?_
 refine zan (λ m σ ds v=>ds=[]/\∃i:Nat,i+m=k/\σ 12=vi i/\σ 11=vi k/\σ 0= .slice a xs.length ca/\σ 1= .slice b ys.length cb/\Ext w v/\cmpN (zag xs) (zag ys)=cmpR ((zag xs).reverse.drop i) ((zag ys).reverse.drop i)) k ?_ ?_
 ·refine⟨rfl,0,oM,?_,?_,?_,?_,Keep.refl _ _,by simp[cmpN]⟩
  ·simp only[go_sem];rfl
  ·simp only[go_sem]
  ·simp only[go_sem]
  ·simp only[go_sem]
 ·rintro m σ ds v ⟨rfl,i,him,h12,h11,h0,h1,hE,hinv⟩;repeat refine c_r ?_
  refine rq ?_;intro gd K hgd hK;simp (disch:=first|omega|assumption|rfl) only[go_sem,h12,h11];refine hK _ _ ?_;clear hK hgd;clear K gd;repeat refine c_r ?_
  refine wc0 ?_ ?_
  ·intro hlt;simp only[ydT]at hlt;have hsa:a.isSome=true:=zaf (hla (xs.length - 1 - i) oM);have hsb:b.isSome=true:=zaf (hlb (ys.length - 1 - i) oM);have e1:((xs.length:Int) - 1 - i).toNat=xs.length - 1 - i:=oM;have e2:((ys.length:Int) - 1 - i).toNat=ys.length - 1 - i:=oM;repeat refine c_r ?_
   refine rg1 h12 ?_;repeat refine c_r ?_
   refine zaF (λ _=>false) [(0,true),(1,true),(2,true),(3,true),(4,true),(5,true),(6,true),(7,true),(8,true),(9,true),(10,true),(11,true),(12,true),(13,true),(14,true),(15,true),(16,false),(17,true)] NoS mixed kR ?_;intro gd K x hgd hx hxe hK;clear hxe;have hla':=λ j h=>zaa (hE.trans ‹Keep NoS v x›) (hla j h);have hlb':=λ j h=>zaa (hE.trans ‹Keep NoS v x›) (hlb j h);simp (disch:=first|omega|assumption|rfl) only[go_sem,h12,h0,h1,e1,e2,hla',hlb',yaA];refine yfm (zg2 _ _ _ (LB.get ‹LB xs› _) (LB.get ‹LB ys› _)) ?_;rintro _ x1 ⟨rfl,hx1⟩;refine⟨.inr hx1,?_⟩;simp (disch:=first|omega|assumption|rfl) only[go_sem];refine hK _ _ ?_;clear hK hgd;clear K;try clear gd
   have hst:=zjc (a:=(zag xs).reverse) (b:=(zag ys).reverse) (i:=i) (by simp[zax];omega) (by simp[zax];omega);have g1:(zag xs).reverse[i]'(by simp[zax];omega)=zaJ (xs[xs.length - 1 - i]'(oM)):=by
    rw[ycy];simp[zag]
   have g2:(zag ys).reverse[i]'(by simp[zax];omega)=zaJ (ys[ys.length - 1 - i]'(oM)):=by
    rw[ycy];simp[zag]
   rw[g1,g2]at hst;repeat refine c_r ?_
   refine rg0 ?_;repeat refine c_r ?_
   refine wc0 ?_ ?_
   ·intro hne;simp only[yao,ydF]at hne;repeat (first|refine c_r ?_|refine rg0 ?_)
    refine rt0 ntmps131 ?_;refine⟨by rw[hinv,hst,if_neg hne],(hE.trans ‹Keep NoS v x›).trans hx1⟩
   ·intro heq;simp only[yaw,ydT]at heq;repeat refine c_r ?_
    refine rg1 h12 ?_;repeat refine c_r ?_
    exact⟨m - 1,oM,rfl,i+1,oM,by simp only[go_sem];push_cast;rfl,by simp only[go_sem,h11],vq1 h0,vq1 h1,(hE.trans ‹Keep NoS v x›).trans hx1,by rw[hinv,hst,if_pos heq]⟩
  ·intro hge;simp only[ydF]at hge;repeat refine c_r ?_
   refine rq ?_;intro gd K hgd hK;try simp (disch:=first|omega|assumption|rfl) only[go_sem,h0,h1]
   refine yfm (N_int.Compare_ok _ _ _) ?_;rintro _ w2 ⟨rfl,rfl⟩;try simp only[go_sem]
   refine hK _ _ ?_;clear hK hgd;clear K;try clear gd
   repeat refine c_r ?_
   refine rt0 ntmps131 ?_;refine⟨?_,hE⟩;have l1:((zag xs).reverse.drop i).length=xs.length - i:=by simp[zax]
   have l2:((zag ys).reverse.drop i).length=ys.length - i:=by simp[zax]
   rw[hinv,znQ _ _ (by
    rcases ydh i xs.length with h|h
    ·exact .inr (yan.1 oM)
    ·exact .inl (yan.1 oM)),l1,l2]
   unfold cmpI;by_cases h1':(xs.length:Int)<ys.length
   ·rw[if_pos h1',if_pos oM]
   ·by_cases h2':(ys.length:Int)<xs.length
    ·rw[if_neg h1',if_pos h2',if_neg oM,if_pos oM]
    ·rw[if_neg h1',if_neg h2',if_neg oM,if_neg oM]
namespace C_cn
def RowR{α:Type}(Rl:World->α->Value->Prop)(w:World)(v:Value)(xs:List α):Prop:=∃us,Row w v us/\us.length=xs.length/\∀i (h:i<us.length) (h':i<xs.length),Rl w xs[i] us[i]
theorem CompareFunc_ok{α:Type}{Rl:World->α->Value->Prop}(hR:∀w x a v,Ext w x->Rl w a v->Rl x a v){cf:α->α->Int}{U:α->Prop}{g:FuncId}(hcal:zaD prog g=true)
  (hcall:∀A x y u v,Ext w A->U x->U y->Rl A x u->Rl A y v->Fn prog g #[u,v] A (λ r B=>r=vi (cf x y)/\Ext A B)) {a b:Value} {xs ys:List α} (ha:RowR Rl w a xs) (hb:RowR Rl w b ys) (hUx:∀x∈xs,U x) (hUy:∀y∈ys,U y) (hxl:xs.length<=1000000000000000) (hyl:ys.length<=1000000000000000):
  Fn prog 220 #[a,b,.func (.func g) #[] #[]] w (λ v w'=>v=vi (lexC cf xs ys)/\Ext w w'):=by
 obtain⟨us,⟨a,ca,rfl,hca,hla⟩,hul,hu⟩:=ha;obtain⟨vs',⟨b,cb,rfl,hcb,hlb⟩,hvl,hv⟩:=hb;refine enx func220 ntmps220 ?_;refine gz0 ?_;refine zan (λ m σ ds v=>ds=[]/\∃i:Nat,i+m=us.length/\i<=vs'.length/\σ 13=vi i/\σ 12=vi us.length/\σ 11= .slice a us.length ca/\σ 0= .slice a us.length ca/\σ 1= .slice b vs'.length cb/\σ 2= .func (.func g) #[] #[]/\Ext w v/\lexC cf xs ys=lexC cf (xs.drop i) (ys.drop i)) us.length ?_ ?_
 ·refine⟨rfl,0,oM,oM,?_,?_,?_,?_,?_,?_,Keep.refl _ _,sM⟩
  ·simp only[go_sem];rfl
  ·simp only[go_sem]
  ·simp only[go_sem]
  ·simp only[go_sem]
  ·simp only[go_sem]
  ·simp only[go_sem]
 ·rintro m σ ds v ⟨rfl,i,him,hiv,h13,h12,h11,h0,h1,h2,hE,hinv⟩;refine gz (az2 h13 h12) ?_;refine wc0 ?_ ?_
  ·intro hlt;simp only[ydT]at hlt;have hsa:a.isSome=true:=zaf (hla i oM);have hla':=λ j h=>zaa hE (hla j h);have hlb':=λ j h=>zaa hE (hlb j h);refine rqz ?_;intro gd K hgd hK;simp (disch:=first|omega|assumption|rfl) only[go_sem,h13,h11,hla'];apply hK;refine gz h1 ?_;refine wc0 ?_ ?_
   ·intro hge;simp only[ydT]at hge;refine gz0 ?_;refine rt0 ntmps220 ?_;refine⟨?_,hE⟩;have e:ys.drop i=[]:=yat oM;rw[hinv,zdr (.inr e),e];have l1:(xs.drop i).length=xs.length - i:=sM;unfold cmpI;rw[l1,ybe,if_neg oM,if_pos oM]
   ·intro hlt2;simp only[ydF]at hlt2;have hsb:b.isSome=true:=zaf (hlb i oM);have hst:=zdh (cf:=cf) (a:=xs) (b:=ys) (i:=i) oM oM;refine gz (az2 h1 hlb') ?_;refine rq ?_;intro gd K hgd hK;refine sgz h2 ?_;refine zbJ hcal (yfm (hcall v xs[i] ys[i] _ _ hE (hUx _ (yac _)) (hUy _ (yac _)) (hR _ _ _ _ hE (hu i oM oM)) (hR _ _ _ _ hE (hv i oM oM))) ?_);rintro _ w1 ⟨rfl,hE1⟩;refine sg0 ?_;apply hK;refine gz0 ?_;refine wc0 ?_ ?_
    ·intro hne;simp only[yao,ydF]at hne;refine gz0 ?_;refine rt0 ntmps220 ?_;exact⟨by rw[hinv,hst,if_neg hne],hE.trans hE1⟩
    ·intro heq;simp only[yaw,ydT]at heq;refine gz h13 ?_;exact⟨m - 1,oM,rfl,i+1,oM,oM,by simp only[go_sem];push_cast;rfl,vq1 h12,by simp only[go_sem,h11],vq1 h0,vq1 h1,vq1 h2,hE.trans hE1,by rw[hinv,hst,if_pos heq]⟩
  ·intro hge;simp only[ydF]at hge;have e:xs.drop i=[]:=yat oM;have l2:(ys.drop i).length=ys.length - i:=sM;have hval:lexC cf xs ys=cmpI 0 (ys.length - i:Nat):=by rw[hinv,zdr (.inl e),e,l2];rfl
   refine gz (az2 h0 h1) ?_;refine wc0 ?_ ?_
   ·intro h;simp only[ydT]at h;refine gz0 ?_;refine rt0 ntmps220 ?_;exact⟨by rw[hval,cmpI,if_pos oM],hE⟩
   ·intro h;simp only[ydF]at h;refine gz0 ?_;refine rt0 ntmps220 ?_;exact⟨by rw[hval,cmpI,if_neg oM,if_neg oM],hE⟩
end C_cn
namespace C_cu
def RowR{α:Type}(Rl:World->α->Value->Prop)(w:World)(v:Value)(xs:List α):Prop:=∃us,Row w v us/\us.length=xs.length/\∀i (h:i<us.length) (h':i<xs.length),Rl w xs[i] us[i]
theorem CompareFunc_ok{α:Type}{Rl:World->α->Value->Prop}(hR:∀w x a v,Ext w x->Rl w a v->Rl x a v){cf:α->α->Int}{U:α->Prop}{g:FuncId}(hcal:zaD prog g=true)
  (hcall:∀A x y u v,Ext w A->U x->U y->Rl A x u->Rl A y v->Fn prog g #[u,v] A (λ r B=>r=vi (cf x y)/\Ext A B)) {a b:Value} {xs ys:List α} (ha:RowR Rl w a xs) (hb:RowR Rl w b ys) (hUx:∀x∈xs,U x) (hUy:∀y∈ys,U y) (hxl:xs.length<=1000000000000000) (hyl:ys.length<=1000000000000000):
  Fn prog 221 #[a,b,.func (.func g) #[] #[]] w (λ v w'=>v=vi (lexC cf xs ys)/\Ext w w'):=by
 obtain⟨us,⟨a,ca,rfl,hca,hla⟩,hul,hu⟩:=ha;obtain⟨vs',⟨b,cb,rfl,hcb,hlb⟩,hvl,hv⟩:=hb;refine enx func221 ntmps221 ?_;refine gz0 ?_;refine zan (λ m σ ds v=>ds=[]/\∃i:Nat,i+m=us.length/\i<=vs'.length/\σ 13=vi i/\σ 12=vi us.length/\σ 11= .slice a us.length ca/\σ 0= .slice a us.length ca/\σ 1= .slice b vs'.length cb/\σ 2= .func (.func g) #[] #[]/\Ext w v/\lexC cf xs ys=lexC cf (xs.drop i) (ys.drop i)) us.length ?_ ?_
 ·refine⟨rfl,0,oM,oM,?_,?_,?_,?_,?_,?_,Keep.refl _ _,sM⟩
  ·simp only[go_sem];rfl
  ·simp only[go_sem]
  ·simp only[go_sem]
  ·simp only[go_sem]
  ·simp only[go_sem]
  ·simp only[go_sem]
 ·rintro m σ ds v ⟨rfl,i,him,hiv,h13,h12,h11,h0,h1,h2,hE,hinv⟩;refine gz (az2 h13 h12) ?_;refine wc0 ?_ ?_
  ·intro hlt;simp only[ydT]at hlt;have hsa:a.isSome=true:=zaf (hla i oM);have hla':=λ j h=>zaa hE (hla j h);have hlb':=λ j h=>zaa hE (hlb j h);refine rqz ?_;intro gd K hgd hK;simp (disch:=first|omega|assumption|rfl) only[go_sem,h13,h11,hla'];apply hK;refine gz h1 ?_;refine wc0 ?_ ?_
   ·intro hge;simp only[ydT]at hge;refine gz0 ?_;refine rt0 ntmps221 ?_;refine⟨?_,hE⟩;have e:ys.drop i=[]:=yat oM;rw[hinv,zdr (.inr e),e];have l1:(xs.drop i).length=xs.length - i:=sM;unfold cmpI;rw[l1,ybe,if_neg oM,if_pos oM]
   ·intro hlt2;simp only[ydF]at hlt2;have hsb:b.isSome=true:=zaf (hlb i oM);have hst:=zdh (cf:=cf) (a:=xs) (b:=ys) (i:=i) oM oM;refine gz (az2 h1 hlb') ?_;refine rq ?_;intro gd K hgd hK;refine sgz h2 ?_;refine zbJ hcal (yfm (hcall v xs[i] ys[i] _ _ hE (hUx _ (yac _)) (hUy _ (yac _)) (hR _ _ _ _ hE (hu i oM oM)) (hR _ _ _ _ hE (hv i oM oM))) ?_);rintro _ w1 ⟨rfl,hE1⟩;refine sg0 ?_;apply hK;refine gz0 ?_;refine wc0 ?_ ?_
    ·intro hne;simp only[yao,ydF]at hne;refine gz0 ?_;refine rt0 ntmps221 ?_;exact⟨by rw[hinv,hst,if_neg hne],hE.trans hE1⟩
    ·intro heq;simp only[yaw,ydT]at heq;refine gz h13 ?_;exact⟨m - 1,oM,rfl,i+1,oM,oM,by simp only[go_sem];push_cast;rfl,vq1 h12,by simp only[go_sem,h11],vq1 h0,vq1 h1,vq1 h2,hE.trans hE1,by rw[hinv,hst,if_pos heq]⟩
  ·intro hge;simp only[ydF]at hge;have e:xs.drop i=[]:=yat oM;have l2:(ys.drop i).length=ys.length - i:=sM;have hval:lexC cf xs ys=cmpI 0 (ys.length - i:Nat):=by rw[hinv,zdr (.inl e),e,l2];rfl
   refine gz (az2 h0 h1) ?_;refine wc0 ?_ ?_
   ·intro h;simp only[ydT]at h;refine gz0 ?_;refine rt0 ntmps221 ?_;exact⟨by rw[hval,cmpI,if_pos oM],hE⟩
   ·intro h;simp only[ydF]at h;refine gz0 ?_;refine rt0 ntmps221 ?_;exact⟨by rw[hval,cmpI,if_neg oM,if_neg oM],hE⟩
end C_cu
namespace C_ct
def RowR{α:Type}(Rl:World->α->Value->Prop)(w:World)(v:Value)(xs:List α):Prop:=∃us,Row w v us/\us.length=xs.length/\∀i (h:i<us.length) (h':i<xs.length),Rl w xs[i] us[i]
theorem CompareFunc_ok{α:Type}{Rl:World->α->Value->Prop}(hR:∀w x a v,Ext w x->Rl w a v->Rl x a v){cf:α->α->Int}{U:α->Prop}{g:FuncId}(hcal:zaD prog g=true)
  (hcall:∀A x y u v,Ext w A->U x->U y->Rl A x u->Rl A y v->Fn prog g #[u,v] A (λ r B=>r=vi (cf x y)/\Ext A B)) {a b:Value} {xs ys:List α} (ha:RowR Rl w a xs) (hb:RowR Rl w b ys) (hUx:∀x∈xs,U x) (hUy:∀y∈ys,U y) (hxl:xs.length<=1000000000000000) (hyl:ys.length<=1000000000000000):
  Fn prog 223 #[a,b,.func (.func g) #[] #[]] w (λ v w'=>v=vi (lexC cf xs ys)/\Ext w w'):=by
 obtain⟨us,⟨a,ca,rfl,hca,hla⟩,hul,hu⟩:=ha;obtain⟨vs',⟨b,cb,rfl,hcb,hlb⟩,hvl,hv⟩:=hb;refine enx func223 ntmps223 ?_;refine gz0 ?_;refine zan (λ m σ ds v=>ds=[]/\∃i:Nat,i+m=us.length/\i<=vs'.length/\σ 13=vi i/\σ 12=vi us.length/\σ 11= .slice a us.length ca/\σ 0= .slice a us.length ca/\σ 1= .slice b vs'.length cb/\σ 2= .func (.func g) #[] #[]/\Ext w v/\lexC cf xs ys=lexC cf (xs.drop i) (ys.drop i)) us.length ?_ ?_
 ·refine⟨rfl,0,oM,oM,?_,?_,?_,?_,?_,?_,Keep.refl _ _,sM⟩
  ·simp only[go_sem];rfl
  ·simp only[go_sem]
  ·simp only[go_sem]
  ·simp only[go_sem]
  ·simp only[go_sem]
  ·simp only[go_sem]
 ·rintro m σ ds v ⟨rfl,i,him,hiv,h13,h12,h11,h0,h1,h2,hE,hinv⟩;refine gz (az2 h13 h12) ?_;refine wc0 ?_ ?_
  ·intro hlt;simp only[ydT]at hlt;have hsa:a.isSome=true:=zaf (hla i oM);have hla':=λ j h=>zaa hE (hla j h);have hlb':=λ j h=>zaa hE (hlb j h);refine rqz ?_;intro gd K hgd hK;simp (disch:=first|omega|assumption|rfl) only[go_sem,h13,h11,hla'];apply hK;refine gz h1 ?_;refine wc0 ?_ ?_
   ·intro hge;simp only[ydT]at hge;refine gz0 ?_;refine rt0 ntmps223 ?_;refine⟨?_,hE⟩;have e:ys.drop i=[]:=yat oM;rw[hinv,zdr (.inr e),e];have l1:(xs.drop i).length=xs.length - i:=sM;unfold cmpI;rw[l1,ybe,if_neg oM,if_pos oM]
   ·intro hlt2;simp only[ydF]at hlt2;have hsb:b.isSome=true:=zaf (hlb i oM);have hst:=zdh (cf:=cf) (a:=xs) (b:=ys) (i:=i) oM oM;refine gz (az2 h1 hlb') ?_;refine rq ?_;intro gd K hgd hK;refine sgz h2 ?_;refine zbJ hcal (yfm (hcall v xs[i] ys[i] _ _ hE (hUx _ (yac _)) (hUy _ (yac _)) (hR _ _ _ _ hE (hu i oM oM)) (hR _ _ _ _ hE (hv i oM oM))) ?_);rintro _ w1 ⟨rfl,hE1⟩;refine sg0 ?_;apply hK;refine gz0 ?_;refine wc0 ?_ ?_
    ·intro hne;simp only[yao,ydF]at hne;refine gz0 ?_;refine rt0 ntmps223 ?_;exact⟨by rw[hinv,hst,if_neg hne],hE.trans hE1⟩
    ·intro heq;simp only[yaw,ydT]at heq;refine gz h13 ?_;exact⟨m - 1,oM,rfl,i+1,oM,oM,by simp only[go_sem];push_cast;rfl,vq1 h12,by simp only[go_sem,h11],vq1 h0,vq1 h1,vq1 h2,hE.trans hE1,by rw[hinv,hst,if_pos heq]⟩
  ·intro hge;simp only[ydF]at hge;have e:xs.drop i=[]:=yat oM;have l2:(ys.drop i).length=ys.length - i:=sM;have hval:lexC cf xs ys=cmpI 0 (ys.length - i:Nat):=by rw[hinv,zdr (.inl e),e,l2];rfl
   refine gz (az2 h0 h1) ?_;refine wc0 ?_ ?_
   ·intro h;simp only[ydT]at h;refine gz0 ?_;refine rt0 ntmps223 ?_;exact⟨by rw[hval,cmpI,if_pos oM],hE⟩
   ·intro h;simp only[ydF]at h;refine gz0 ?_;refine rt0 ntmps223 ?_;exact⟨by rw[hval,cmpI,if_neg oM,if_neg oM],hE⟩
end C_ct
namespace N_uint32
theorem zeX(w:World)(a:Int):Fn prog 222 #[.int .u32 a] w (λ v w'=>v= .bool false/\w'=w):=by
 refine enx func222 ntmps222 ?_;repeat (first|refine c_r ?_| (refine zcx (by rfl) ?_;intro gd K hgd hK;simp (disch:=first|omega|assumption|rfl) only[go_sem,decide_true];refine hK _ _ ?_;clear hK hgd;clear K gd))
 refine rt0 ntmps222 ?_;exact⟨rfl,rfl⟩
theorem Compare_ok(w:World)(a b:Int):Fn prog 184 #[.int .u32 a,.int .u32 b] w (λ v w'=>v=vi (cmpI a b)/\w'=w):=by
 refine enx func184 ntmps184 ?_;refine gz0 ?_;refine rq ?_;intro gd K hgd hK;refine sg0 ?_;refine yfm (zeX _ _) ?_;rintro _ _ ⟨rfl,rfl⟩;refine sg0 ?_;apply hK;refine rqz ?_;intro gd K hgd hK;refine sg0 ?_;refine yfm (zeX _ _) ?_;rintro _ _ ⟨rfl,rfl⟩;refine sg0 ?_;apply hK;refine gz0 ?_;refine wc0 ?_ ?_
 ·intro h;cases h
 intro _;refine gz0 ?_;refine wc0 ?_ ?_
 ·intro h;cases h
 intro _;refine gz0 ?_;refine wc0 ?_ ?_
 ·intro h;simp only[ydT]at h;refine gz0 ?_;refine rt0 ntmps184 ?_;exact⟨by rw[cmpI,if_pos h],rfl⟩
 intro h;simp only[ydF]at h;refine gz0 ?_;refine wc0 ?_ ?_
 ·intro h2;simp only[ydT]at h2;refine gz0 ?_;refine rt0 ntmps184 ?_;exact⟨by rw[cmpI,if_neg h,if_pos h2],rfl⟩
 intro h2;simp only[ydF]at h2;refine gz0 ?_;refine rt0 ntmps184 ?_;exact⟨by rw[cmpI,if_neg h,if_neg h2],rfl⟩
end N_uint32
theorem zeV{P:Program}:∀(l:List UInt8) (a:Addr) (acc:ByteArray),(∀j (h:j<l.length),w.cell? (a.add j)=some (zae l[j]))->(Extern.Bytes.loadBytes a l.length acc).run P w= .ok ⟨acc.data++l.toArray⟩ w
 | [],a,acc,_=>by simp[Extern.Bytes.loadBytes,Sem.run]
 |c::l,a,acc,h=>by
  have h0:=h 0 sM;have ha0:a.add 0=a:=by simp[Addr.add]
  rw[ha0]at h0;have ih:=zeV (P:=P) l (a.add 1) (acc.push c) (λ j hj=>by
   have:=h (j+1) (by simp;omega);rw[zd3,ydf 1 j];simpa using this)
  have e:(load a).run P w= .ok (zae c) w:=by simp[load,Sem.run,h0]
  simp only[yah,Extern.Bytes.loadBytes,yaJ,e,yaz];show(Extern.Bytes.loadBytes (a.add 1) l.length (acc.push (((c.toNat:Nat):Int).toNat.toUInt8))).run P w=_;have e2:((c.toNat:Nat):Int).toNat.toUInt8=c:=sM;rw[e2,ih];simp[ByteArray.push]
theorem zgQ{P:Program}{l:List UInt8}(h:Row w v (l.map zae)):(Extern.Bytes.bytesOf v).run P w= .ok ⟨l.toArray⟩ w:=by
 obtain⟨a,c,rfl,_,hl⟩:=h;simp only[ylm]at hl ⊢;cases a with
 |none=>
  cases l with
  |nil=>rfl
  |cons c l=>have:=hl 0 sM;simp[zad,adr]at this
 |some a=>
  have:=zeV (P:=P) (w:=w) l a .empty (λ j hj=>by
   have:=hl j hj;simpa [zad,adr] using this)
  simpa [Extern.Bytes.bytesOf] using this
theorem zkh(w:World)(a b:Value)(xs ys:List UInt8)(ha:Row w a (xs.map zae))(hb:Row w b (ys.map zae)):Fn prog 187 #[a,b] w (λ v w'=>v=vi (cmpL xs ys)/\w'=w):=by
 have h1:=zgQ (P:=prog) ha;have h2:=zgQ (P:=prog) hb;refine enx func187 ntmps187 ?_;refine gz0 ?_;refine rq ?_;intro gd K hgd hK;refine sg0 ?_;refine⟨vi (cmpL xs ys),w,?_,?_⟩
 ·rw[run_callFunc_extern func225 kR kR kR (e:=Extern.BytealgCompare.compare) kR];have:(Extern.BytealgCompare.compare #[a,b]).run prog w= .ok (vi (cmpL xs ys)) w:=by
   show(do pure (goInt (Extern.BytealgCompare.cmp (←Extern.Bytes.bytesOf a) (←Extern.Bytes.bytesOf b))):Sem Value).run prog w=_;simp only[yaJ,h1,h2,yaz,yaR];rw[Lib.cmp_eq]
   rfl
  rw[this];rfl
 refine sg0 ?_;refine en hK ?_;refine rt0 ntmps187 ?_;exact⟨rfl,rfl⟩
abbrev v32(n:Int):Value:= .int .u32 n
structure DatL where
 ty:Int
 names:List Nm
 nums:List Int
 texts:List Lab
 raw:List UInt8
structure RecL where
 owner:Nm
 ttl:Int
 dat:DatL
def zc8(a b:Nm):Int:=cmpN (zag a) (zag b)
def cmpD(a b:DatL):Int:=orI [cmpI a.ty b.ty,lexC zc8 a.names b.names,lexC cmpI a.nums b.nums,lexC cmpL a.texts b.texts,cmpL a.raw b.raw]
def zaE(a b:RecL):Int:=orI [zc8 a.owner b.owner,cmpI a.dat.ty b.dat.ty,cmpD a.dat b.dat]
structure DatAt(w:World)(cs:List Value)(d:DatL):Prop where
 ex:∃nm nu tx rw,cs=[vi d.ty,nm,nu,tx,rw]/\NamesAt w nm d.names/\Row w nu (d.nums.map v32)/\Row w tx (d.texts.map vs)/\Row w rw (d.raw.map zae)
structure RecAt(w:World)(cs:List Value)(r:RecL):Prop where
 ex:∃ow ds,cs=ow::v32 r.ttl::ds/\Row w ow (r.owner.map vs)/\DatAt w ds r.dat
theorem DatAt.ext{d:DatL}(h:DatAt w cs d)(hE:Ext w x):DatAt x cs d:=by
 obtain⟨nm,nu,tx,rw,e,h1,h2,h3,h4⟩:=h.ex;exact⟨nm,nu,tx,rw,e,h1.ext hE,h2.ext hE,h3.ext hE,h4.ext hE⟩
theorem RecAt.ext{r:RecL}(h:RecAt w cs r)(hE:Ext w x):RecAt x cs r:=by
 obtain⟨ow,ds,e,h1,h2⟩:=h.ex;exact⟨ow,ds,e,h1.ext hE,h2.ext hE⟩
structure DatOk(d:DatL):Prop where
 names:∀n∈d.names,LB n/\n.length<=1000000000000000
 nn:d.names.length<=1000000000000000
 nu:d.nums.length<=1000000000000000
 nt:d.texts.length<=1000000000000000
 nv:∀n∈d.nums,0<=n/\n<=4294967295
 nr:d.raw.length<=1000000000000000
structure zbL(r:RecL):Prop where
 lb:LB r.owner
 len:r.owner.length<=1000000000000000
 dat:DatOk r.dat
theorem rowN_ok(w:World)(a b:Value)(xs ys:List Nm)(ha:NamesAt w a xs)(hb:NamesAt w b ys)(hx:∀n∈xs,LB n/\n.length<=1000000000000000)(hy:∀n∈ys,LB n/\n.length<=1000000000000000)(hxl:xs.length<=1000000000000000)(hyl:ys.length<=1000000000000000):
  Fn prog 182 #[a,b,.func (.func 131) #[] #[]] w (λ v w'=>v=vi (lexC zc8 xs ys)/\Ext w w'):=by
 refine enx func182 ntmps182 ?_;refine gz0 ?_;refine rq ?_;intro gd K hgd hK;refine sg0 ?_;refine yfm (C_cn.CompareFunc_ok (Rl:=λ w (n:Nm) v=>Row w v (n.map vs)) (U:=λ n=>LB n/\n.length<=1000000000000000) (cf:=zc8) (λ w x a v hE h=>h.ext hE) rfl (λ A x y u v hE hx hy hu hv=>zdy A u v x y hu hv hx.1 hy.1 (by have:=hx.2;omega) (by have:=hy.2;omega)) (xs:=xs) (ys:=ys) ha hb hx hy hxl hyl) ?_;rintro _ w1 ⟨rfl,hE⟩;refine sg0 ?_;refine en hK ?_;refine rt0 ntmps182 ?_;exact⟨rfl,hE⟩
theorem zk9{α:Type}{f:α->Value}{xs:List α}(h:Row w v (xs.map f)):C_cu.RowR (λ _ a u=>u=f a) w v xs:=⟨_,h,sM,λ i h1 h2=>sM⟩
theorem rowU_ok(w:World)(a b:Value)(xs ys:List Int)(ha:Row w a (xs.map v32))(hb:Row w b (ys.map v32))(hxl:xs.length<=1000000000000000)(hyl:ys.length<=1000000000000000):
  Fn prog 183 #[a,b,.func (.func 184) #[] #[]] w (λ v w'=>v=vi (lexC cmpI xs ys)/\Ext w w'):=by
 refine enx func183 ntmps183 ?_;refine gz0 ?_;refine rq ?_;intro gd K hgd hK;refine sg0 ?_;refine yfm (C_cu.CompareFunc_ok (Rl:=λ _ (n:Int) v=>v=v32 n) (U:=λ _=>True) (cf:=cmpI) (λ w x a v hE h=>h) rfl (λ A x y u v hE hx hy hu hv=>by subst hu hv;exact yfm (N_uint32.Compare_ok A x y) (λ _ _ ⟨h1,h2⟩=>⟨h1,h2▸Keep.refl _ _⟩)) (xs:=xs) (ys:=ys) (zk9 ha) (zk9 hb) (λ _ _=>trivial) (λ _ _=>trivial) hxl hyl) ?_;rintro _ w1 ⟨rfl,hE⟩;refine sg0 ?_;refine en hK ?_;refine rt0 ntmps183 ?_;exact⟨rfl,hE⟩
theorem rowT_ok(w:World)(a b:Value)(xs ys:List Lab)(ha:Row w a (xs.map vs))(hb:Row w b (ys.map vs))(hxl:xs.length<=1000000000000000)(hyl:ys.length<=1000000000000000):
  Fn prog 185 #[a,b,.func (.func 186) #[] #[]] w (λ v w'=>v=vi (lexC cmpL xs ys)/\Ext w w'):=by
 refine enx func185 ntmps185 ?_;refine gz0 ?_;refine rq ?_;intro gd K hgd hK;refine sg0 ?_;refine yfm (C_ct.CompareFunc_ok (Rl:=λ _ (n:Lab) v=>v=vs n) (U:=λ _=>True) (cf:=cmpL) (λ w x a v hE h=>h) rfl (λ A x y u v hE hx hy hu hv=>by subst hu hv;exact yfm (zgY A x y) (λ _ _ ⟨h1,h2⟩=>⟨h1,h2▸Keep.refl _ _⟩)) (xs:=xs) (ys:=ys) ⟨_,ha,sM,λ i h1 h2=>sM⟩ ⟨_,hb,sM,λ i h1 h2=>sM⟩ (λ _ _=>trivial) (λ _ _=>trivial) hxl hyl) ?_;rintro _ w1 ⟨rfl,hE⟩;refine sg0 ?_;refine en hK ?_;refine rt0 ntmps185 ?_;exact⟨rfl,hE⟩
theorem zkg(w:World)(ca cb:List Value)(a b:DatL)(ha:DatAt w ca a)(hb:DatAt w cb b)(hoa:DatOk a)(hob:DatOk b):
  Fn prog 143 #[.agg ca.toArray,.agg cb.toArray] w (λ v w'=>v=vi (cmpD a b)/\Ext w w'):=by
 obtain⟨nm,nu,tx,rw',rfl,a1,a2,a3,a4⟩:=ha.ex;obtain⟨nm2,nu2,tx2,rw2,rfl,b1,b2,b3,b4⟩:=hb.ex;refine enx func143 ntmps143 ?_;refine gz0 ?_;have k1:=zam w (.cells #[vi a.ty,nm,nu,tx,rw'] 97 (0,0));have kE:=(yea w (.cells #[vi a.ty,nm,nu,tx,rw'] 97 (0,0))).trans (yea _ (.cells #[vi b.ty,nm2,nu2,tx2,rw2] 97 (0,0)));have k2:=zam (w.alloc (.cells #[vi a.ty,nm,nu,tx,rw'] 97 (0,0))) (.cells #[vi b.ty,nm2,nu2,tx2,rw2] 97 (0,0));have k1':=(yaE _ (.cells #[vi b.ty,nm2,nu2,tx2,rw2] 97 (0,0)) _ sM).trans k1;rw[zai]at k2 ⊢;clear k1;revert k1' kE k2;generalize (w.alloc (.cells #[vi a.ty,nm,nu,tx,rw'] 97 (0,0))).alloc (.cells #[vi b.ty,nm2,nu2,tx2,rw2] 97 (0,0))=w1;intro kE k2 k1;refine zaF (λ _=>false) [(0,true),(1,true),(2,true),(3,true),(5,true),(6,true),(7,true),(8,true),(10,true),(11,true),(12,true),(13,true),(15,true),(16,true),(17,true),(18,true),(20,true),(21,true),(22,true),(23,true),(4,false),(9,false),(14,false),(19,false),(24,false),(25,false),(26,false),(27,true)] NoS mixed kR ?_;intro gd K x hgd hx hxe hK;have hE1:=kE.trans hx;have K1:=(hx.block _ (yaa.1 k1).1 (λ h=>h)).trans k1;have K2:=(hx.block _ (yaa.1 k2).1 (λ h=>h)).trans k2;have p0:zad x (some ⟨w.heap.size,0,.none⟩)=some (vi a.ty):=zab K1 rfl;have p1:zad x (some ⟨w.heap.size,1,.none⟩)=some (nm):=zab K1 rfl;have p2:zad x (some ⟨w.heap.size,2,.none⟩)=some (nu):=zab K1 rfl
 have p3:zad x (some ⟨w.heap.size,3,.none⟩)=some (tx):=zab K1 rfl;have p4:zad x (some ⟨w.heap.size,4,.none⟩)=some (rw'):=zab K1 rfl;have q0:zad x (some ⟨w.heap.size+1,0,.none⟩)=some (vi b.ty):=zab K2 rfl;have q1:zad x (some ⟨w.heap.size+1,1,.none⟩)=some (nm2):=zab K2 rfl;have q2:zad x (some ⟨w.heap.size+1,2,.none⟩)=some (nu2):=zab K2 rfl;have q3:zad x (some ⟨w.heap.size+1,3,.none⟩)=some (tx2):=zab K2 rfl;have q4:zad x (some ⟨w.heap.size+1,4,.none⟩)=some (rw2):=zab K2 rfl;refine sgz (az2 (az7 p0 p1 p2 p3 p4 q0 q1) (az3 q2 q3 q4)) ?_;refine yfm (N_int.Compare_ok x _ _) ?_;rintro _ x0 ⟨rfl,h0⟩;replace h0:=h0.symm;subst h0;refine⟨.inr ykr,?_⟩;refine sg0 ?_;refine yfm (rowN_ok x _ _ _ _ (a1.ext hE1) (b1.ext hE1) hoa.names hob.names hoa.nn hob.nn) ?_;rintro _ x1 ⟨rfl,h1⟩;refine⟨.inr h1,?_⟩;refine sg0 ?_;refine yfm (rowU_ok x1 _ _ _ _ (a2.ext (hE1.trans h1)) (b2.ext (hE1.trans h1)) hoa.nu hob.nu) ?_;rintro _ x2 ⟨rfl,h2⟩;refine⟨.inr h2,?_⟩;refine sg0 ?_;refine yfm (rowT_ok x2 _ _ _ _ (a3.ext ((hE1.trans h1).trans h2)) (b3.ext ((hE1.trans h1).trans h2)) hoa.nt hob.nt) ?_;rintro _ x3 ⟨rfl,h3⟩;refine⟨.inr h3,?_⟩;have hE3:=((hE1.trans h1).trans h2).trans h3;refine sg0 ?_;refine yfm (zkh x3 _ _ _ _ (a4.ext hE3) (b4.ext hE3)) ?_;rintro _ x0 ⟨rfl,h0⟩;replace h0:=h0.symm;subst h0;refine⟨.inr ykr,?_⟩;refine sg0 ?_
 refine zbK (z:=vi 0) (l:=[vi (cmpI a.ty b.ty),vi (lexC zc8 a.names b.names),vi (lexC cmpI a.nums b.nums),vi (lexC cmpL a.texts b.texts),vi (cmpL a.raw b.raw)]) rfl rfl rfl rfl rfl rfl (λ v hv=>by simp at hv;rcases hv with rfl|rfl|rfl|rfl|rfl<;>rfl) sM ?_;intro x4 h4 hs4 ho4;refine⟨.inr h4,?_⟩;refine sg0 ?_;refine yfm (Or_ok x4 _ [cmpI a.ty b.ty,lexC zc8 a.names b.names,lexC cmpI a.nums b.nums,lexC cmpL a.texts b.texts,cmpL a.raw b.raw] ho4.row sM) ?_;rintro _ x0 ⟨rfl,h0⟩;replace h0:=h0.symm;subst h0;refine⟨.inr ykr,?_⟩;refine sg0 ?_;refine en hK ?_;refine rt0 ntmps143 ?_;exact⟨rfl,hE3.trans h4⟩
theorem ze7(w:World)(ca cb:List Value)(a b:RecL)(ha:RecAt w ca a)(hb:RecAt w cb b)(hoa:zbL a)(hob:zbL b):
  Fn prog 100 #[.agg ca.toArray,.agg cb.toArray] w (λ v w'=>v=vi (zaE a b)/\Ext w w'):=by
 obtain⟨ow,ds,rfl,a1,a2⟩:=ha.ex;obtain⟨ow2,ds2,rfl,b1,b2⟩:=hb.ex;have a2':=a2;have b2':=b2;obtain⟨nm,nu,tx,rw',rfl,_⟩:=a2.ex;obtain⟨nm2,nu2,tx2,rw2,rfl,_⟩:=b2.ex;refine enx func100 ntmps100 ?_;refine gz0 ?_;have k1:=zam w (.cells #[ow,v32 a.ttl,vi a.dat.ty,nm,nu,tx,rw'] 101 (0,0));have kE:=(yea w (.cells #[ow,v32 a.ttl,vi a.dat.ty,nm,nu,tx,rw'] 101 (0,0))).trans (yea _ (.cells #[ow2,v32 b.ttl,vi b.dat.ty,nm2,nu2,tx2,rw2] 101 (0,0)));have k2:=zam (w.alloc (.cells #[ow,v32 a.ttl,vi a.dat.ty,nm,nu,tx,rw'] 101 (0,0))) (.cells #[ow2,v32 b.ttl,vi b.dat.ty,nm2,nu2,tx2,rw2] 101 (0,0));have k1':=(yaE _ (.cells #[ow2,v32 b.ttl,vi b.dat.ty,nm2,nu2,tx2,rw2] 101 (0,0)) _ sM).trans k1;rw[zai]at k2 ⊢;clear k1;revert k1' kE k2;generalize (w.alloc (.cells #[ow,v32 a.ttl,vi a.dat.ty,nm,nu,tx,rw'] 101 (0,0))).alloc (.cells #[ow2,v32 b.ttl,vi b.dat.ty,nm2,nu2,tx2,rw2] 101 (0,0))=w1;intro kE k2 k1;refine zaF (λ _=>false) [(0,true),(1,true),(2,true),(3,true),(5,true),(6,true),(7,true),(8,true),(9,true),(10,true),(12,true),(13,true),(14,true),(15,true),(4,false),(11,false),(16,false),(17,false),(18,false),(19,true)] NoS mixed kR ?_;intro gd K x hgd hx hxe hK;have hE1:=kE.trans hx;have K1:=(hx.block _ (yaa.1 k1).1 (λ h=>h)).trans k1;have K2:=(hx.block _ (yaa.1 k2).1 (λ h=>h)).trans k2;have p0:zad x (some ⟨w.heap.size,0,.none⟩)=some ow:=zab K1 rfl
 have p2:zad x (some ⟨w.heap.size,2,.none⟩)=some (vi a.dat.ty):=zab K1 rfl;have p5:zat x (some ⟨w.heap.size,2,.none⟩) 5=some [vi a.dat.ty,nm,nu,tx,rw']:=zaK K1 (ynl 7);have q0:zad x (some ⟨w.heap.size+1,0,.none⟩)=some ow2:=zab K2 rfl;have q2:zad x (some ⟨w.heap.size+1,2,.none⟩)=some (vi b.dat.ty):=zab K2 rfl;have q5:zat x (some ⟨w.heap.size+1,2,.none⟩) 5=some [vi b.dat.ty,nm2,nu2,tx2,rw2]:=zaK K2 (ynl 7);refine sgz (az7 p0 p2 p5 q0 q2 q5 yad) ?_;refine yfm (zdy x _ _ _ _ (a1.ext hE1) (b1.ext hE1) hoa.lb hob.lb (by have:=hoa.len;omega) (by have:=hob.len;omega)) ?_;rintro _ x1 ⟨rfl,h1⟩;refine⟨.inr h1,?_⟩;refine sg0 ?_;refine yfm (N_int.Compare_ok x1 _ _) ?_;rintro _ x0 ⟨rfl,h0⟩;replace h0:=h0.symm;subst h0;refine⟨.inr ykr,?_⟩;refine sg0 ?_;refine yfm (zkg x1 _ _ a.dat b.dat (a2'.ext (hE1.trans h1)) (b2'.ext (hE1.trans h1)) hoa.dat hob.dat) ?_;rintro _ x2 ⟨rfl,h2⟩;refine⟨.inr h2,?_⟩;refine sg0 ?_;refine zbK (z:=vi 0) (l:=[vi (cmpN (zag a.owner) (zag b.owner)),vi (cmpI a.dat.ty b.dat.ty),vi (cmpD a.dat b.dat)]) rfl rfl rfl rfl rfl rfl (λ v hv=>by simp at hv;rcases hv with rfl|rfl|rfl<;>rfl) sM ?_;intro x4 h4 hs4 ho4;refine⟨.inr h4,?_⟩;refine sg0 ?_;refine yfm (Or_ok x4 _ [cmpN (zag a.owner) (zag b.owner),cmpI a.dat.ty b.dat.ty,cmpD a.dat b.dat] ho4.row sM) ?_;rintro _ x0 ⟨rfl,h0⟩;replace h0:=h0.symm;subst h0;refine⟨.inr ykr,?_⟩;refine sg0 ?_;refine en hK ?_;refine rt0 ntmps100 ?_
 exact⟨rfl,((hE1.trans h1).trans h2).trans h4⟩
def minT(a b:RecL):RecL:={a with ttl:=min a.ttl b.ttl}
theorem zkc(w:World)(ca cb:List Value)(a b:RecL)(ha:RecAt w ca a)(hb:RecAt w cb b):
  Fn prog 101 #[.agg ca.toArray,.agg cb.toArray] w (λ v w'=>v= .agg (ca.set 1 (v32 (min a.ttl b.ttl))).toArray/\Ext w w'):=by
 obtain⟨ow,ds,rfl,a1,a2⟩:=ha.ex;obtain⟨ow2,ds2,rfl,b1,b2⟩:=hb.ex;have a2':=a2;obtain⟨nm,nu,tx,rw',rfl,n1,n2,n3,n4⟩:=a2.ex;obtain⟨nm2,nu2,tx2,rw2,rfl,_⟩:=b2.ex;refine enx func101 ntmps101 ?_;refine gz0 ?_;have hal:=zgU w (.cells #[ow,v32 a.ttl,vi a.dat.ty,nm,nu,tx,rw'] 101 (0,0)) (.cells #[ow2,v32 b.ttl,vi b.dat.ty,nm2,nu2,tx2,rw2] 101 (0,0)) (.cells #[.slice .none 0 0,v32 0,vi 0,.slice .none 0 0,.slice .none 0 0,.slice .none 0 0,.slice .none 0 0] 101 (0,0));rw[show (w.alloc (.cells #[ow,v32 a.ttl,vi a.dat.ty,nm,nu,tx,rw'] 101 (0,0))).heap.size=w.heap.size+1 from zai _ _,show((w.alloc (.cells #[ow,v32 a.ttl,vi a.dat.ty,nm,nu,tx,rw'] 101 (0,0))).alloc (.cells #[ow2,v32 b.ttl,vi b.dat.ty,nm2,nu2,tx2,rw2] 101 (0,0))).heap.size=w.heap.size+2 from(zd1 w _ _).2.1];revert hal;generalize ((w.alloc (.cells #[ow,v32 a.ttl,vi a.dat.ty,nm,nu,tx,rw'] 101 (0,0))).alloc (.cells #[ow2,v32 b.ttl,vi b.dat.ty,nm2,nu2,tx2,rw2] 101 (0,0))).alloc (.cells #[.slice .none 0 0,v32 0,vi 0,.slice .none 0 0,.slice .none 0 0,.slice .none 0 0,.slice .none 0 0] 101 (0,0))=w1;rintro⟨hE,hs,hA,hB,hC⟩;have p1:zad w1 (some ⟨w.heap.size,1,.none⟩)=some (v32 a.ttl):=zab hA rfl;have q1:zad w1 (some ⟨w.heap.size+1,1,.none⟩)=some (v32 b.ttl):=zab hB rfl;refine rq ?_;intro gd K hgd hK;refine sgz (az3 p1 q1 yad) ?_;refine zmZ (by rfl) (by rfl) ?_;refine sg0 ?_;refine zbx rfl rfl rfl hA sM sM ?_;intro w2 hs2 hb2 hk2;refine sg0 ?_;refine en hK ?_
 have hE2:Ext w w2:=ykt hE rfl (λ i hi=>oM) hk2;have r7:zat w2 (some ⟨w.heap.size,0,.none⟩) 7=some [ow,v32 (min a.ttl b.ttl),vi a.dat.ty,nm,nu,tx,rw']:=zaK hb2 (ynl 7);have hC2:=(hk2.block _ (yaa.1 hC).1 oM).trans hC;refine rq ?_;intro gd K hgd hK;refine sgz r7 ?_;have hSD:SD 7 w2 (w.heap.size+2) 101 1 [[.slice .none 0 0,v32 0,vi 0,.slice .none 0 0,.slice .none 0 0,.slice .none 0 0,.slice .none 0 0]]:=
  ⟨⟨_,[],hC2,rfl,rfl⟩,λ x h=>(by rw[yae.1 h];rfl),λ x h v hv=>(by rw[yae.1 h]at hv;simp at hv;rcases hv with rfl|rfl|rfl|rfl<;>rfl)⟩
 have hone:∀q∈ [ow,v32 (min a.ttl b.ttl),vi a.dat.ty,nm,nu,tx,rw'],one q=true:=by
  obtain⟨o1,o2,rfl,_⟩:=a1;obtain⟨_,⟨o3,o4,rfl,_⟩,_⟩:=n1;obtain⟨o5,o6,rfl,_⟩:=n2;obtain⟨o7,o8,rfl,_⟩:=n3;obtain⟨o9,o10,rfl,_⟩:=n4;intro q hq;simp at hq;rcases hq with rfl|rfl|rfl|rfl|rfl|rfl|rfl<;>rfl
 refine SD.set (P:=prog) (t:=101) hSD (j:=0) sM (x:=[ow,v32 (min a.ttl b.ttl),vi a.dat.ty,nm,nu,tx,rw']) rfl hone rfl rfl ?_;intro w3 hs3 hL3 hk3;refine sg0 ?_;refine en hK ?_;have hE3:Ext w w3:=ykt hE2 rfl (λ i hi=>oM) hk3;have r9:=hL3.get (j:=0) sM;refine zkt sM rfl ntmps101 vq0 rfl rfl r9 ?_;exact⟨rfl,hE3⟩
theorem RecAt.minT{ca:List Value}{a b:RecL}(h:RecAt w ca a):RecAt w (ca.set 1 (v32 (min a.ttl b.ttl))) (minT a b):=by
 obtain⟨ow,ds,rfl,h1,h2⟩:=h.ex;exact⟨ow,ds,rfl,h1,h2⟩
section
variable {α : Type}
theorem zmv(A B:List α)(x y:α):(A++x::B).set A.length y=A++y::B:=by
 rw[ybL _ _ (ynl _),ycI,ybi]
theorem zbo(A B:List α)(x:α):(A++x::B)[A.length]? =some x:=sM
theorem zdn(A M B:List α)(x y:α){i j:Nat}(hi:i=A.length)(hj:j=A.length+1+M.length):((A++x::M++y::B).set i y).set j x=A++y::M++x::B:=by
 subst hi hj;have e1:(A++x::M++y::B).set A.length y=A++y::M++y::B:=by
  have:=zmv A (M++y::B) x y;simpa using this
 rw[e1];have:=zmv (A++y::M) B y x
 rwa [show (A++y::M).length=A.length+1+M.length from by simp;omega]at this
def zbV(A X M Y B:List α)(i:Nat):List α:=A++(Y.take i++X.drop i)++M++(X.take i++Y.drop i)++B
theorem zga{A X M Y B:List α}(hX:i<X.length)(hY:i<Y.length):
  ((zbV A X M Y B i).set (A.length+i) Y[i]).set (A.length+X.length+M.length+i) X[i]=zbV A X M Y B (i+1)/\
  (zbV A X M Y B i)[A.length+i]? =some X[i]/\(zbV A X M Y B i)[A.length+X.length+M.length+i]? =some Y[i]:=by
 have e0:zbV A X M Y B i=(A++Y.take i)++X[i]::(X.drop (i+1)++M++X.take i)++Y[i]::(Y.drop (i+1)++B):=by
  unfold zbV;rw[yag hX,yag hY];simp only[yla,yav]
 have l1:(A++Y.take i).length=A.length+i:=by simp;omega
 have l2:(X.drop (i+1)++M++X.take i).length=X.length - (i+1)+M.length+i:=by simp;omega
 refine⟨?_,?_,?_⟩
 ·rw[e0,zdn (A++Y.take i) _ _ X[i] Y[i] oM oM];unfold zbV;rw[zal hX,zal hY];simp only[yla,yav,yaI]
 ·rw[e0,←l1,yla];have:=zbo (A++Y.take i) (X.drop (i+1)++M++X.take i++Y[i]::(Y.drop (i+1)++B)) X[i];simpa using this
 ·rw[e0];have:=zbo (A++Y.take i++X[i]::(X.drop (i+1)++M++X.take i)) (Y.drop (i+1)++B) Y[i];rw[show (A++Y.take i++X[i]::(X.drop (i+1)++M++X.take i)).length=A.length+X.length+M.length+i from by rw[yab,yah,l1,l2];omega]at this;exact this
theorem zhb{A X M Y B:List α}{n:Nat}(hX:X.length=n)(hY:Y.length=n):zbV A X M Y B n=A++Y++M++X++B:=by
 unfold zbV;rw[yaf oM,yaf oM,yat oM,yat oM];simp
theorem zfx(A X M Y B:List α):zbV A X M Y B 0=A++X++M++Y++B:=by simp[zbV]
theorem zha{A X M Y B:List α}(hi:i<=X.length)(h:X.length=Y.length):(zbV A X M Y B i).length=(A++X++M++Y++B).length:=by
 simp[zbV];omega
end
end Go.Proofs.YtfacfpcopcgbdaaGreat
