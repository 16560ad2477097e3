/-
  Texts of a proof, joined.
  Conditions: none.
-/
import Derived.Test.YtfacfpcopcgbdaaGreatPBR08
set_option linter.all false
set_option maxRecDepth 20000
set_option maxHeartbeats 8000000
namespace Go.Proofs.YtfacfpcopcgbdaaGreat
open Go Tryz
variable {w w0 w1 W0 x A:World}{v u lv nv:Value}{cs l:List Value}{B k b i j m cap:Nat}{t e:TypeId}{a:Option Addr}{S C:Nat->Prop}{q n o:Nm}{N:NetL}
namespace S_pair
section
variable {α : Type} {enc : α -> List Value}
theorem zc6{U:α->Prop}{cf:α->α->Int}{lt older:α->α->Prop}{g:FuncId}{cb:List Value}(hc:Cmp w0 enc U cf g cb)(ho:zes cf lt older)
  {D A Y B:List α} {u:α} {p q r N:Nat} (hDe:D=A++u::Y++B) (hN:D.length=N) (hp:A.length=p) (hq:p+1=q) (hr:q+Y.length=r) (hUu:U u) (hU:∀y∈Y,U y) (hY:Y.Pairwise lt) (hold:∀y∈Y,older u y)
  (hD:Lies enc w b cap D) (hlen:N<=1000000000000) (hE:Ext w0 w) (hb:w0.heap.size<=b):
  Fn prog 244 #[zbt b N cap,vi p,vi q,vi r,cmpV g cb] w (λ _ w'=>(∃Z,Z.Perm (u::Y)/\Z.Pairwise lt/\Lies enc w' b cap (A++Z++B))/\Keep (λ i=>i=b) w w'):=by
 have hDl:=congrArg List.length hDe;simp only[yab,yah]at hDl;have hqp:(q:Int) - p=1:=oM;unfold zbt cmpV;refine enx func244 ntmps244 ?_;refine gz (az2 hqp decide_true) ?_;refine wc0 ?_ ?_
 rotate_left
 ·intro h;simp at h
 intro _;refine gz0 ?_;refine zan (λ m σ ds v=>ds=[]/\∃(s e:Nat),s+m=e/\e<=Y.length/\Cut lt u Y s e/\σ 10=vi (q+s:Nat)/\σ 11=vi (q+e:Nat)/\σ 0= .slice (some ⟨b,0,.none⟩) N cap/\σ 1=vi p/\σ 4= .func (.func g) #[] cb.toArray/\Ext w v) Y.length ?_ ?_
 ·refine⟨rfl,0,Y.length,oM,ynl _,Cut.start u Y,?_,?_,?_,?_,?_,Keep.refl _ _⟩
  ·simp only[go_sem];rfl
  ·simp only[go_sem,hr]
  ·simp only[go_sem]
  ·simp only[go_sem]
  ·simp only[go_sem]
 rintro m σ ds v ⟨rfl,s,e,hse,he,hcut,h10,h11,h0,h1,h4,hEv⟩;have hLv:Lies enc v b cap D:=SD.ext hD hEv;refine rqz ?_;intro gd K hgd hK;simp (disch:=first|omega|assumption|rfl) only[go_sem,h10,h11];refine hK _ _ ?_;clear hK hgd;clear K gd;refine wcz ?_ ?_
 ·intro hlt;simp only[ydT]at hlt;have hsum:((q+s:Nat):Int)+((q+e:Nat):Int)=((q+s+(q+e):Nat):Int):=by push_cast;rfl
  obtain⟨k,hk⟩:∃k,(s+e) / 2=k:=⟨_,rfl⟩;have hdiv:(q+s+(q+e)) / 2=q+k:=oM;have hkY:k<Y.length:=oM;obtain⟨y,hy⟩:∃y,Y[k]=y:=⟨_,rfl⟩;have hyk:Y[k]? =some y:=by rw[yam hkY,hy]
  have hyY:y∈Y:=by rw[←hy];exact yac _
  have g1:D[p]? =some u:=by rw[hDe,yla,yav,←hp];exact zbo _ _ _
  have g2:D[q+k]? =some y:=by
   have e1:D=A++ [u]++Y++B:=by rw[hDe];simp
   have hl:(A++ [u]).length=q:=by simp;omega
   rw[e1,yla (A++ [u]),yaH oM,hl,ybs,yaL hkY];exact hyk
  refine rqz ?_;intro gd K hgd hK;simp (disch:=first|omega|assumption|rfl) only[go_sem,h10,h11,hsum,hdiv];refine hK _ _ ?_;clear hK hgd;clear K gd;repeat refine c_r ?_
  refine zaF (λ _=>false) [(0,true),(1,true),(2,true),(3,true),(4,true),(5,true),(6,true),(7,true),(8,true),(9,false),(10,true)] NoS mixed kR ?_;intro gd K x hgd hx hxe hK;clear hxe;have hLx:Lies enc x b cap D:=SD.ext hLv hx;have d1:=hLx.get g1;have d2:=hLx.get g2;refine sgz (az5 h0 h1 h4 d1 d2) ?_;refine zbJ hc.cal (yfm (hc.call x y u ((hE.trans hEv).trans hx) (hU y hyY) hUu) ?_);rintro _ w1 ⟨rfl,hE1⟩;refine⟨.inr (Ext.keep hE1),?_⟩;refine sg0 ?_;apply hK;have hEv1:=(hEv.trans hx).trans hE1;refine wcz ?_ ?_
  ·intro hl;simp only[ydT]at hl;refine gz0 ?_;refine⟨m - (k+1 - s),oM,rfl,k+1,e,oM,he,hcut.up ho.trans hY hyk (ho.less (hold y hyY) hl),by simp only[go_sem];push_cast;rfl,by simp only[go_sem,h11],vq1 h0,vq1 h1,vq1 h4,hEv1⟩
  ·intro hl;simp only[ydF]at hl;refine gz0 ?_;refine⟨k - s,oM,rfl,s,k,oM,oM,hcut.down ho.trans hY hyk (ho.more (hold y hyY) hl),vq1 h10,vq0,vq1 h0,vq1 h1,vq1 h4,hEv1⟩
 intro hge;simp only[ydF]at hge;have hes:e=s:=oM;subst hes;obtain⟨Y1,hY1⟩:∃Y1,Y.take e=Y1:=⟨_,rfl⟩;obtain⟨Y2,hY2⟩:∃Y2,Y.drop e=Y2:=⟨_,rfl⟩;have hY12:Y1++Y2=Y:=by rw[←hY1,←hY2];exact yar _ _
 have hY1l:Y1.length=e:=by rw[←hY1];simp;omega
 have hsorted:=Cut.sorted (lt:=lt) ho.trans hY hcut;rw[hY1,hY2]at hsorted;have hqe:((q+e:Nat):Int) - 1=((p+e:Nat):Int):=oM
 refine gz h1 ?_;refine zan (λ m σ ds v'=>ds=[]/\∃(i:Nat),i+m=e/\σ 13=vi (p+i:Nat)/\σ 10=vi (q+e:Nat)/\σ 0= .slice (some ⟨b,0,.none⟩) N cap/\Lies enc v' b cap (A++Y1.take i++u::Y1.drop i++Y2++B)/\Keep (λ i=>i=b) w v') e ?_ ?_
 ·refine⟨rfl,0,oM,?_,?_,?_,?_,Ext.keep hEv⟩
  ·simp only[go_sem];rfl
  ·simp only[go_sem,h10]
  ·simp only[go_sem,h0]
  ·have:A++Y1.take 0++u::Y1.drop 0++Y2++B=D:=by rw[hDe,←hY12];simp
   rw[this];exact hLv
 clear h10 h11 h0 h1 h4;rintro m2 σ ds v2 ⟨rfl,i,him,h13,h10,h0,hL2,hK2⟩;refine gz (az3 h13 h10 hqe) ?_;refine wc0 ?_ ?_
 ·intro hlt;simp only[ydT]at hlt;have hiY:i<Y1.length:=oM;obtain⟨z,hz⟩:∃z,Y1[i]=z:=⟨_,rfl⟩;have hl1:(A++Y1.take i).length=p+i:=by simp;omega
  have e1:A++Y1.take i++u::Y1.drop i++Y2++B=(A++Y1.take i)++u::[]++z::(Y1.drop (i+1)++Y2++B):=by
   rw[yag hiY,hz];simp only[yla,yav,yaI]
  have e2:(A++Y1.take i)++z::[]++u::(Y1.drop (i+1)++Y2++B)=A++Y1.take (i+1)++u::Y1.drop (i+1)++Y2++B:=by
   rw[zal hiY,hz];simp only[yla,yav,yaI]
  rw[e1]at hL2;have g1:((A++Y1.take i)++u::[]++z::(Y1.drop (i+1)++Y2++B))[p+i]? =some u:=by
   rw[yla,yav,←hl1];exact zbo _ _ _
  have g2:((A++Y1.take i)++u::[]++z::(Y1.drop (i+1)++Y2++B))[p+i+1]? =some z:=by
   have:=zbo ((A++Y1.take i)++ [u]) (Y1.drop (i+1)++Y2++B) z
   rwa [yab,hl1]at this
  have hs:((p+i:Nat):Int)+1=((p+i+1:Nat):Int):=by push_cast;rfl
  have hY12l:Y1.length+Y2.length=Y.length:=by rw[←hY12,yab]
  have m1:=List.mem_of_getElem? g1;have m2':=List.mem_of_getElem? g2
  repeat refine c_r ?_
  refine zaF (λ i=>i==15||i==17) [(0,true),(1,true),(2,true),(3,true),(4,true),(5,true),(6,true),(7,true),(8,true),(9,true),(10,true),(11,true),(12,true),(13,true),(14,true),(15,false),(16,true),(17,false)] NoS mixed kR ?_;intro gd K x hgd hx hxe hK;clear hxe;have hLz:Lies enc x b cap ((A++Y1.take i)++u::[]++z::(Y1.drop (i+1)++Y2++B)):=SD.ext hL2 hx;have d3:=hLz.get g1;have d4:=hLz.get g2;refine sgz (az5 h13 h0 hs d3 d4) ?_;refine SD.set (P:=prog) (t:=254) hLz (j:=p+i) (by rw[ylm];exact(yaj.1 g1).1) (hL2.enc_len m2') (hL2.enc_one m2') rfl rfl ?_;intro w2 hs2 hL3 hk2;refine⟨.inl rfl,?_⟩;refine sgz (az2 h13 hs) ?_;refine SD.set (P:=prog) (t:=254) hL3 (j:=p+i+1) (by rw[ybA,ylm];exact(yaj.1 g2).1) (hL2.enc_len m1) (hL2.enc_one m1) rfl rfl ?_;intro w3 hs3 hL4 hk3;refine⟨.inl rfl,?_⟩;refine sg0 ?_;apply hK;refine gz (az2 h13 hs) ?_;refine⟨m2 - 1,oM,rfl,i+1,oM,by simp only[go_sem];rfl,vq1 h10,vq1 h0,?_,((hK2.trans (Ext.keep hx)).trans hk2).trans hk3⟩;rw[←e2];have:=zdn (A++Y1.take i) [] (Y1.drop (i+1)++Y2++B) u z (i:=p+i) (j:=p+i+1) hl1.symm (by rw[hl1];simp);unfold Lies;rw[←this,ybp,ybp];exact hL4
 intro hge2;simp only[ydF]at hge2;have hie:i=e:=oM;subst hie;repeat refine c_r ?_
 refine zap (by simp) rfl ⟨⟨Y1++u::Y2,?_,hsorted,?_⟩,hK2⟩
 ·rw[←hY12];have:=(ycV (l₁:=Y1) (l₂:=Y2) (a:=u));exact this
 ·rw[yaf oM,yat oM]at hL2;have:A++(Y1++u::Y2)++B=A++Y1++ [u]++Y2++B:=by simp
  rw[this];exact hL2
theorem zdm{U:α->Prop}{cf:α->α->Int}{lt older:α->α->Prop}{g:FuncId}{cb:List Value}(hc:Cmp w0 enc U cf g cb)(ho:zes cf lt older)
  {D A X B:List α} {u:α} {p q r N:Nat} (hDe:D=A++X++u::B) (hN:D.length=N) (hp:A.length=p) (hq:p+X.length=q) (hr:q+1=r) (hX1:X.length≠1) (hUu:U u) (hU:∀y∈X,U y) (hX:X.Pairwise lt) (hold:∀x∈X,older x u)
  (hD:Lies enc w b cap D) (hlen:N<=1000000000000) (hE:Ext w0 w) (hb:w0.heap.size<=b):
  Fn prog 244 #[zbt b N cap,vi p,vi q,vi r,cmpV g cb] w (λ _ w'=>(∃Z,Z.Perm (X++ [u])/\Z.Pairwise lt/\Lies enc w' b cap (A++Z++B))/\Keep (λ i=>i=b) w w'):=by
 have hDl:=congrArg List.length hDe;simp only[yab,yah]at hDl;have hqp:¬((q:Int) - p=1):=oM;have hrq:(r:Int) - q=1:=oM;unfold zbt cmpV;refine enx func244 ntmps244 ?_;refine gz (yef hqp) ?_;refine wc0 ?_ ?_
 ·intro h;simp at h
 intro _;refine gz (az2 hrq decide_true) ?_;refine wc0 ?_ ?_
 rotate_left
 ·intro h;simp at h
 intro _;refine gz0 ?_;refine zan (λ m σ ds v=>ds=[]/\∃(s e:Nat),s+m=e/\e<=X.length/\Cut lt u X s e/\σ 14=vi (p+s:Nat)/\σ 15=vi (p+e:Nat)/\σ 0= .slice (some ⟨b,0,.none⟩) N cap/\σ 2=vi q/\σ 4= .func (.func g) #[] cb.toArray/\Ext w v) X.length ?_ ?_
 ·refine⟨rfl,0,X.length,oM,ynl _,Cut.start u X,?_,?_,?_,?_,?_,Keep.refl _ _⟩
  ·simp only[go_sem];rfl
  ·simp only[go_sem,hq]
  ·simp only[go_sem]
  ·simp only[go_sem]
  ·simp only[go_sem]
 rintro m σ ds v ⟨rfl,s,e,hse,he,hcut,h14,h15,h0,h2,h4,hEv⟩;have hLv:Lies enc v b cap D:=SD.ext hD hEv;refine gz (az2 h14 h15) ?_;refine wc0 ?_ ?_
 ·intro hlt;simp only[ydT]at hlt;have hsum:((p+s:Nat):Int)+((p+e:Nat):Int)=((p+s+(p+e):Nat):Int):=by push_cast;rfl
  obtain⟨k,hk⟩:∃k,(s+e) / 2=k:=⟨_,rfl⟩;have hdiv:(p+s+(p+e)) / 2=p+k:=oM;have hkX:k<X.length:=oM;obtain⟨y,hy⟩:∃y,X[k]=y:=⟨_,rfl⟩;have hyk:X[k]? =some y:=by rw[yam hkX,hy]
  have hyX:y∈X:=by rw[←hy];exact yac _
  have g1:D[q]? =some u:=by
   have:=zbo (A++X) B u;rw[yab,hp,hq]at this;rw[hDe];exact this
  have g2:D[p+k]? =some y:=by
   rw[hDe,yla,yaH oM,hp,ybs,yaL hkX];exact hyk
  refine gz (az4 h14 h15 hsum hdiv) ?_;refine zaF (λ _=>false) [(0,true),(1,true),(2,true),(3,true),(4,true),(5,true),(6,true),(7,true),(8,true),(9,false),(10,true),(11,true)] NoS mixed kR ?_;intro gd K x hgd hx hxe hK;clear hxe;have hLx:Lies enc x b cap D:=SD.ext hLv hx;have d1:=hLx.get g1;have d2:=hLx.get g2;refine sgz (az5 h0 h2 h4 d1 d2) ?_;refine zbJ hc.cal (yfm (hc.call x u y ((hE.trans hEv).trans hx) hUu (hU y hyX)) ?_);rintro _ w1 ⟨rfl,hE1⟩;refine⟨.inr (Ext.keep hE1),?_⟩;refine sg0 ?_;apply hK;have hEv1:=(hEv.trans hx).trans hE1;refine wcz ?_ ?_
  ·intro hl;simp only[yao,ydF]at hl;refine gz0 ?_;refine⟨m - (k+1 - s),oM,rfl,k+1,e,oM,he,hcut.up ho.trans hX hyk (ho.more (hold y hyX) hl),by simp only[go_sem];push_cast;rfl,vq1 h15,vq1 h0,vq1 h2,vq1 h4,hEv1⟩
  ·intro hl;simp only[yaw,ydT]at hl;refine gz0 ?_;refine⟨k - s,oM,rfl,s,k,oM,oM,hcut.down ho.trans hX hyk (ho.less (hold y hyX) hl),vq1 h14,vq0,vq1 h0,vq1 h2,vq1 h4,hEv1⟩
 intro hge;simp only[ydF]at hge;have hes:e=s:=oM;subst hes;obtain⟨X1,hX1'⟩:∃X1,X.take e=X1:=⟨_,rfl⟩;obtain⟨X2,hX2⟩:∃X2,X.drop e=X2:=⟨_,rfl⟩;have hX12:X1++X2=X:=by rw[←hX1',←hX2];exact yar _ _
 have hX1l:X1.length=e:=by rw[←hX1'];simp;omega
 have hX12l:X1.length+X2.length=X.length:=by rw[←hX12,yab]
 have hsorted:=Cut.sorted (lt:=lt) ho.trans hX hcut;rw[hX1',hX2]at hsorted;refine gz h2 ?_;refine zan (λ m σ ds v'=>ds=[]/\∃(i:Nat),i=m/\i<=X2.length/\σ 17=vi (p+e+i:Nat)/\σ 14=vi (p+e:Nat)/\σ 0= .slice (some ⟨b,0,.none⟩) N cap/\Lies enc v' b cap (A++X1++X2.take i++u::X2.drop i++B)/\Keep (λ i=>i=b) w v') X2.length ?_ ?_
 ·refine⟨rfl,X2.length,rfl,ynl _,?_,?_,?_,?_,Ext.keep hEv⟩
  ·have:p+e+X2.length=q:=oM;simp only[go_sem,this]
  ·simp only[go_sem,h14]
  ·simp only[go_sem,h0]
  ·have:A++X1++X2.take X2.length++u::X2.drop X2.length++B=D:=by rw[hDe,←hX12];simp
   rw[this];exact hLv
 clear h14 h15 h0 h2 h4;rintro m2 σ ds v2 ⟨rfl,i,him,hi2,h17,h14,h0,hL2,hK2⟩;refine gz (az2 h17 h14) ?_;refine wc0 ?_ ?_
 ·intro hlt;simp only[ydT]at hlt;obtain⟨j,hj⟩:∃j,i=j+1:=⟨i - 1,oM⟩;subst hj;have hjX:j<X2.length:=oM;obtain⟨z,hz⟩:∃z,X2[j]=z:=⟨_,rfl⟩;obtain⟨c,hcq⟩:∃c,p+e+j=c:=⟨_,rfl⟩;have hl1:(A++X1++X2.take j).length=c:=by simp;omega
  have e1:A++X1++X2.take (j+1)++u::X2.drop (j+1)++B=(A++X1++X2.take j)++z::[]++u::(X2.drop (j+1)++B):=by
   rw[zal hjX,hz];simp only[yla,yav,yaI]
  have e2:(A++X1++X2.take j)++u::[]++z::(X2.drop (j+1)++B)=A++X1++X2.take j++u::X2.drop j++B:=by
   rw[yag hjX,hz];simp only[yla,yav,yaI]
  rw[e1]at hL2;have g1:((A++X1++X2.take j)++z::[]++u::(X2.drop (j+1)++B))[c]? =some z:=by
   rw[yla,yav,←hl1];exact zbo _ _ _
  have g2:((A++X1++X2.take j)++z::[]++u::(X2.drop (j+1)++B))[c+1]? =some u:=by
   have:=zbo ((A++X1++X2.take j)++ [z]) (X2.drop (j+1)++B) u
   rwa [yab,hl1]at this
  have hc1:p+e+(j+1)=c+1:=oM;rw[hc1]at h17;have hs:((c+1:Nat):Int) - 1=(c:Int):=oM;have m1:=List.mem_of_getElem? g1;have m2':=List.mem_of_getElem? g2;repeat refine c_r ?_
  refine zaF (λ i=>i==15||i==17) [(0,true),(1,true),(2,true),(3,true),(4,true),(5,true),(6,true),(7,true),(8,true),(9,true),(10,true),(11,true),(12,true),(13,true),(14,true),(15,false),(16,true),(17,false)] NoS mixed kR ?_;intro gd K x hgd hx hxe hK;clear hxe;have hLz:Lies enc x b cap ((A++X1++X2.take j)++z::[]++u::(X2.drop (j+1)++B)):=SD.ext hL2 hx;have d3:=hLz.get g1;have d4:=hLz.get g2;refine sgz (az5 h17 h0 hs d3 d4) ?_;refine SD.set (P:=prog) (t:=254) hLz (j:=c+1) (by rw[ylm];exact(yaj.1 g2).1) (hL2.enc_len m1) (hL2.enc_one m1) rfl rfl ?_;intro w2 hs2 hL3 hk2;refine⟨.inl rfl,?_⟩;refine sgz (az2 h17 hs) ?_;refine SD.set (P:=prog) (t:=254) hL3 (j:=c) (by rw[ybA,ylm];exact(yaj.1 g1).1) (hL2.enc_len m2') (hL2.enc_one m2') rfl rfl ?_;intro w3 hs3 hL4 hk3;refine⟨.inl rfl,?_⟩;refine sg0 ?_;apply hK;refine gz (az2 h17 hs) ?_;refine⟨m2 - 1,oM,rfl,j,oM,oM,vq2 hs hcq,vq1 h14,vq1 h0,?_,((hK2.trans (Ext.keep hx)).trans hk2).trans hk3⟩;rw[←e2];have:=zdn (A++X1++X2.take j) [] (X2.drop (j+1)++B) z u (i:=c) (j:=c+1) hl1.symm (by rw[hl1];simp);rw[ydr _ _ oM]at this;unfold Lies;rw[←this,ybp,ybp];exact hL4
 intro hge2;simp only[ydF]at hge2;have hie:i=0:=oM;subst hie;repeat refine c_r ?_
 refine zap (by simp) rfl ⟨⟨X1++u::X2,?_,hsorted,?_⟩,hK2⟩
 ·rw[←hX12];refine(ycV (l₁:=X1) (l₂:=X2) (a:=u)).trans ?_;exact(ybZ (l₁:=[u]) (l₂:=X1++X2))
 ·rw[ydk,ycT,yaF]at hL2;have:A++(X1++u::X2)++B=A++X1++u::X2++B:=by simp
  rw[this];exact hL2
end
end S_pair
namespace S_pair
section
variable {α : Type} {enc : α -> List Value}
theorem zcH{U:α->Prop}{cf:α->α->Int}{lt older:α->α->Prop}{g:FuncId}{cb:List Value}(hc:Cmp w0 enc U cf g cb)(ho:zes cf lt older)(hb:w0.heap.size<=b):
  ∀(fuel:Nat) (w:World) (D A X Y B:List α) (p q r N:Nat),X.length+Y.length<=fuel->D=A++X++Y++B->D.length=N->A.length=p->p+X.length=q->q+Y.length=r->X≠ []->Y≠ []->(∀x∈X,U x)->(∀y∈Y,U y)->
   X.Pairwise lt->Y.Pairwise lt->(∀x∈X,∀y∈Y,older x y)->Lies enc w b cap D->N<=1000000000000->Ext w0 w->
   Fn prog 244 #[zbt b N cap,vi p,vi q,vi r,cmpV g cb] w (λ _ w'=>(∃Z,Z.Perm (X++Y)/\Z.Pairwise lt/\Lies enc w' b cap (A++Z++B))/\Keep (λ i=>i=b) w w'):=by
 intro fuel
 induction fuel with
 |zero=>
  intro w D A X Y B p q r N hf _ _ _ _ _ hX _;exact absurd (yan.1 oM) hX
 |succ fuel ih=>
  intro w D A X Y B p q r N hf hDe hN hp hq hr hXn hYn hUX hUY hX hY hold hD hlen hE;have hXp:=yau.2 hXn;have hYp:=yau.2 hYn;by_cases hX1:X.length=1
  ·obtain⟨u,rfl⟩:=ycl.1 hX1;exact zc6 hc ho (by rw[hDe];simp) hN hp (by simpa using hq) hr (hUX u (by simp)) hUY hY (λ y hy=>hold u (by simp) y hy) hD hlen hE hb
  by_cases hY1:Y.length=1
  ·obtain⟨u,rfl⟩:=ycl.1 hY1;exact zdm hc ho (by rw[hDe];simp) hN hp hq (by simpa using hr) hX1 (hUY u (by simp)) hUX hX (λ x hx=>hold x hx u (by simp)) hD hlen hE hb
  have hDl:=congrArg List.length hDe;simp only[yab]at hDl;obtain⟨h,hh⟩:∃h,(X.length+Y.length) / 2=h:=⟨_,rfl⟩;have hqp:¬((q:Int) - p=1):=oM;have hrq:¬((r:Int) - q=1):=oM;have hsum:(p:Int)+r=((p+r:Nat):Int):=by push_cast;rfl
  have hdiv:(p+r) / 2=p+h:=oM;have hn:((p+h:Nat):Int)+q=((p+h+q:Nat):Int):=by push_cast;rfl
  unfold zbt cmpV;refine enx func244 ntmps244 ?_;refine gz (yef hqp) ?_;refine wc0 ?_ ?_
  ·intro h;simp at h
  intro _;refine gz (yef hrq) ?_;refine wc0 ?_ ?_
  ·intro h;simp at h
  intro _;refine gz (az3 hsum hdiv hn) ?_;refine zaw (Q:=λ e σ' ds' v'=>e= .normal/\ds'=[]/\v'=w/\σ' 0= .slice (some ⟨b,0,.none⟩) N cap/\σ' 1=vi p/\σ' 2=vi q/\σ' 3=vi r/\σ' 4= .func (.func g) #[] cb.toArray/\σ' 18=vi (p+h:Nat)/\σ' 19=vi (p+h+q:Nat)/\
   ∃lo hi:Nat,σ' 20=vi (p+lo:Nat)/\σ' 21=vi (p+hi:Nat)/\lo<=hi/\hi<=X.length/\hi<=h/\h<=lo+Y.length/\(lo=0\/h=lo+Y.length)/\(hi=X.length\/hi=h)) ?_ ?_
  ·refine wc0 ?_ ?_
   ·intro hgt;simp only[ydT]at hgt;have hs:((p+h+q:Nat):Int) - r=((p+(h - Y.length):Nat):Int):=oM;refine gz hs ?_;refine⟨rfl,rfl,rfl,vq0,vq0,vq0,vq0,vq0,vq0,vq0,h - Y.length,h,vq0,vq0,oM,oM,oM,oM,.inr oM,.inr rfl⟩
   ·intro hle;simp only[ydF]at hle;refine gz0 ?_;refine⟨rfl,rfl,rfl,vq0,vq0,vq0,vq0,vq0,vq0,vq0,0,X.length,by simp only[go_sem];rfl,vq1 hq,oM,oM,oM,oM,.inl rfl,.inl rfl⟩
  rintro _ σ1 _ v1 ⟨rfl,rfl,hv1,f0,f1,f2,f3,f4,f18,f19,lo,hi,f20,f21,hlh,hhX,hhh,hloY,hlo,hhi⟩;rw[hv1];clear hv1 v1;have hp1:((p+h+q:Nat):Int) - 1=((p+h+q - 1:Nat):Int):=oM;refine gz (az2 f19 hp1) ?_;refine zan (λ m σ ds v=>ds=[]/\∃s e:Nat,s+m=e/\lo<=s/\e<=hi/\(s=lo\/∃x y,X[s - 1]? =some x/\Y[h - s]? =some y/\lt x y)/\(e=hi\/∃x y,X[e]? =some x/\Y[h - 1 - e]? =some y/\lt y x)/\
   σ 20=vi (p+s:Nat)/\σ 21=vi (p+e:Nat)/\σ 22=vi (p+h+q - 1:Nat)/\σ 0= .slice (some ⟨b,0,.none⟩) N cap/\σ 1=vi p/\σ 2=vi q/\σ 3=vi r/\σ 4= .func (.func g) #[] cb.toArray/\σ 18=vi (p+h:Nat)/\σ 19=vi (p+h+q:Nat)/\Ext w v) (hi - lo) ?_ ?_
  ·refine⟨rfl,lo,hi,oM,ynl _,ynl _,.inl rfl,.inl rfl,vq1 f20,vq1 f21,vq0,vq1 f0,vq1 f1,vq1 f2,vq1 f3,vq1 f4,vq1 f18,vq1 f19,Keep.refl _ _⟩
  clear f0 f1 f2 f3 f4 f18 f19 f20 f21;rintro m σ ds v ⟨rfl,s,e,hse,hsl,heh,hF1,hF2,h20,h21,h22,h0,h1,h2,h3,h4,h18,h19,hEv⟩;have hLv:Lies enc v b cap D:=SD.ext hD hEv;refine gz (az2 h20 h21) ?_;refine wc0 ?_ ?_
  ·intro hlt;simp only[ydT]at hlt;have hsum2:((p+s:Nat):Int)+((p+e:Nat):Int)=((p+s+(p+e):Nat):Int):=by push_cast;rfl
   obtain⟨k,hk⟩:∃k,(s+e) / 2=k:=⟨_,rfl⟩;have hdiv2:(p+s+(p+e)) / 2=p+k:=oM;have hkX:k<X.length:=oM;have hkY:h - 1 - k<Y.length:=oM;have hpk:((p+h+q - 1:Nat):Int) - ((p+k:Nat):Int)=((q+(h - 1 - k):Nat):Int):=oM;obtain⟨x',hx'⟩:∃x,X[k]=x:=⟨_,rfl⟩;obtain⟨y,hy⟩:∃y,Y[h - 1 - k]=y:=⟨_,rfl⟩;have gx:X[k]? =some x':=by rw[yam hkX,hx']
   have gy:Y[h - 1 - k]? =some y:=by rw[yam hkY,hy]
   have hxX:x'∈X:=by rw[←hx'];exact yac _
   have hyY:y∈Y:=by rw[←hy];exact yac _
   have g1:D[p+k]? =some x':=by
    rw[hDe,yla,yla,yaH oM,hp,ybs,yaL hkX];exact gx
   have g2:D[q+(h - 1 - k)]? =some y:=by
    have hl:(A++X).length=q:=by rw[yab];omega
    rw[hDe,yla (A++X),yaH oM,hl,ybs,yaL hkY];exact gy
   refine gz (az4 h20 h21 hsum2 hdiv2) ?_;refine zaF (λ _=>false) [(0,true),(1,true),(2,true),(3,true),(4,true),(5,true),(6,true),(7,true),(8,true),(9,true),(10,true),(11,false),(12,true),(13,true)] NoS mixed kR ?_;intro gd K x hgd hx hxe hK;clear hxe;have hLx:Lies enc x b cap D:=SD.ext hLv hx;have d1:=hLx.get g1;have d2:=hLx.get g2;refine sgz (az6 h0 h4 h22 hpk d1 d2) ?_;refine zbJ hc.cal (yfm (hc.call x y x' ((hE.trans hEv).trans hx) (hUY y hyY) (hUX x' hxX)) ?_);rintro _ w1 ⟨rfl,hE1⟩;refine⟨.inr (Ext.keep hE1),?_⟩;refine sg0 ?_;apply hK;have hEv1:=(hEv.trans hx).trans hE1;refine wcz ?_ ?_
   ·intro hl;simp only[yao,ydF]at hl;refine gz0 ?_;refine⟨m - (k+1 - s),oM,rfl,k+1,e,oM,oM,heh,.inr ⟨x',y,by simpa using gx,by rw[show h - (k+1)=h - 1 - k from by omega];exact gy,ho.more (hold x' hxX y hyY) hl⟩,hF2,by simp only[go_sem];push_cast;rfl,vq1 h21,vq1 h22,vq1 h0,vq1 h1,vq1 h2,vq1 h3,vq1 h4,vq1 h18,vq1 h19,hEv1⟩
   ·intro hl;simp only[yaw,ydT]at hl;refine gz0 ?_;refine⟨k - s,oM,rfl,s,k,oM,hsl,oM,hF1,.inr ⟨x',y,gx,gy,ho.less (hold x' hxX y hyY) hl⟩,vq1 h20,vq0,vq1 h22,vq1 h0,vq1 h1,vq1 h2,vq1 h3,vq1 h4,vq1 h18,vq1 h19,hEv1⟩
  intro hge;simp only[ydF]at hge;have hes:e=s:=oM;rw[hes]at hF2 heh;clear hge hse h21 hes;obtain⟨t,ht⟩:∃t,h - s=t:=⟨_,rfl⟩;have hst:s+t=h:=oM;obtain⟨X1,hX1'⟩:∃X1,X.take s=X1:=⟨_,rfl⟩;obtain⟨X2,hX2'⟩:∃X2,X.drop s=X2:=⟨_,rfl⟩;obtain⟨Y1,hY1'⟩:∃Y1,Y.take t=Y1:=⟨_,rfl⟩;obtain⟨Y2,hY2'⟩:∃Y2,Y.drop t=Y2:=⟨_,rfl⟩;have c1:∀x∈X1,∀y∈Y2,lt x y:=by
   rw[←hX1',←hY2'];refine cross ho.trans hX hY ?_;rcases hF1 with hF1| ⟨x,y,a1,a2,a3⟩
   ·rcases hlo with hlo|hlo
    ·exact .inl oM
    ·exact .inr (.inl oM)
   ·exact .inr (.inr ⟨x,y,a1,by rw[←ht];exact a2,a3⟩)
  have c2:∀y∈Y1,∀x∈X2,lt y x:=by
   rw[←hY1',←hX2'];refine cross ho.trans hY hX ?_;rcases hF2 with hF2| ⟨x,y,a1,a2,a3⟩
   ·rcases hhi with hhi|hhi
    ·exact .inr (.inl oM)
    ·exact .inl oM
   ·exact .inr (.inr ⟨y,x,by rw[show t - 1=h - 1 - s from by omega];exact a2,a1,a3⟩)
  have hX12:X1++X2=X:=by rw[←hX1',←hX2'];exact yar _ _
  have hY12:Y1++Y2=Y:=by rw[←hY1',←hY2'];exact yar _ _
  have lX1:X1.length=s:=by rw[←hX1'];simp;omega
  have lY1:Y1.length=t:=by rw[←hY1'];simp;omega
  have lX2:X2.length=X.length - s:=by rw[←hX2'];simp
  have lY2:Y2.length=Y.length - t:=by rw[←hY2'];simp
  rw[←hX12,yap]at hX;rw[←hY12,yap]at hY;have hUX1:∀x∈X1,U x:=λ x hx=>hUX x (by rw[←hX12];exact yas _ hx);have hUX2:∀x∈X2,U x:=λ x hx=>hUX x (by rw[←hX12];exact yaP _ hx);have hUY1:∀x∈Y1,U x:=λ x hx=>hUY x (by rw[←hY12];exact yas _ hx);have hUY2:∀x∈Y2,U x:=λ x hx=>hUY x (by rw[←hY12];exact yaP _ hx);have ho1:∀x∈X1,∀y∈Y1,older x y:=λ x hx y hy=>hold x (by rw[←hX12];exact yas _ hx) y (by rw[←hY12];exact yas _ hy);have ho2:∀x∈X2,∀y∈Y2,older x y:=λ x hx y hy=>hold x (by rw[←hX12];exact yaP _ hx) y (by rw[←hY12];exact yaP _ hy);clear hX1' hX2' hY1' hY2' hF1 hF2;have hend:((p+h+q:Nat):Int) - ((p+s:Nat):Int)=((q+t:Nat):Int):=oM;refine gz (az3 h19 h20 hend) ?_;refine zaw (Q:=λ e σ' ds' v'=>e= .normal/\ds'=[]/\v'=v/\σ' 0= .slice (some ⟨b,0,.none⟩) N cap/\σ' 1=vi p/\σ' 2=vi q/\σ' 3=vi r/\σ' 4= .func (.func g) #[] cb.toArray/\σ' 18=vi (p+h:Nat)/\σ' 20=vi (p+s:Nat)/\σ' 24=vi (q+t:Nat)/\σ' 185= .bool (decide (X2≠ []/\Y1≠ []))) ?_ ?_
  ·refine rq ?_;intro gd K hgd hK;have hg3:=gk 3 181 hgd rfl;by_cases b1:((p+s:Nat):Int)<(q:Int)
   ·have hX2n:X2≠ []:=yau.1 oM;by_cases b2:(q:Int)<((q+t:Nat):Int)
    ·have hY1n:Y1≠ []:=yau.1 oM;try simp (disch:=first|omega|assumption|rfl) only[go_sem,h20,h2,yet b1,yet b2,↓hg3]
     apply hK;refine⟨rfl,rfl,rfl,vq1 h0,vq1 h1,vq1 h2,vq1 h3,vq1 h4,vq1 h18,vq1 h20,vq0,?_⟩;rw[show decide (X2≠ []/\Y1≠ [])=true from yet ⟨hX2n,hY1n⟩];simp only[go_sem]
    ·have hY1n:Y1=[]:=yan.1 oM;try simp (disch:=first|omega|assumption|rfl) only[go_sem,h20,h2,yet b1,yef b2,↓hg3]
     apply hK;refine⟨rfl,rfl,rfl,vq1 h0,vq1 h1,vq1 h2,vq1 h3,vq1 h4,vq1 h18,vq1 h20,vq0,?_⟩;rw[show decide (X2≠ []/\Y1≠ [])=false from yef (λ hx=>hx.2 hY1n)];simp only[go_sem]
   ·have hX2n:X2=[]:=yan.1 oM;try simp (disch:=first|omega|assumption|rfl) only[go_sem,h20,h2,yef b1,↓hg3]
    apply hK;refine⟨rfl,rfl,rfl,vq1 h0,vq1 h1,vq1 h2,vq1 h3,vq1 h4,vq1 h18,vq1 h20,vq0,?_⟩;rw[show decide (X2≠ []/\Y1≠ [])=false from yef (λ hx=>hx.1 hX2n)];simp only[go_sem]
  clear h0 h1 h2 h3 h4 h18 h19 h20 h22;rintro _ σ2 _ v2 ⟨rfl,rfl,hv2,h0,h1,h2,h3,h4,h18,h20,h24,h185⟩;rw[hv2];clear hv2 v2;repeat refine c_r ?_
  refine zaw (Q:=λ e σ' ds' v'=>e= .normal/\ds'=[]/\σ' 0= .slice (some ⟨b,0,.none⟩) N cap/\σ' 1=vi p/\σ' 3=vi r/\σ' 4= .func (.func g) #[] cb.toArray/\σ' 18=vi (p+h:Nat)/\σ' 20=vi (p+s:Nat)/\σ' 24=vi (q+t:Nat)/\
   Lies enc v' b cap (A++X1++Y1++X2++Y2++B)/\Keep (λ i=>i=b) w v') ?_ ?_
  ·refine zaG (by simp only[go_sem,h185];rfl) ?_ ?_
   ·intro hcc;simp only[ydT]at hcc;refine rqz ?_;intro gd K hgd hK;refine sgz (az5 h0 h2 h4 h20 h24) ?_;refine yfm (zgh (p:=p+s) (q:=q) (r:=q+t) (N:=N) (A:=A++X1) (X:=X2) (Y:=Y1) (B:=Y2++B) (D:=D) (by rw[hDe,←hX12,←hY12];simp only[yla]) hN (by rw[yab];omega) (by rw[yab];omega) (by rw[yab];omega) hcc.1 hcc.2 hLv hlen) ?_;rintro _ w1 ⟨hL1,hK1⟩;try simp only[go_sem]
    apply hK;refine⟨rfl,rfl,vq1 h0,vq1 h1,vq1 h3,vq1 h4,vq1 h18,vq1 h20,vq1 h24,?_,(Ext.keep hEv).trans hK1⟩;simpa only[yla] using hL1
   ·intro hcc;simp only[ydF]at hcc;repeat refine c_r ?_
    refine⟨rfl,rfl,h0,h1,h3,h4,h18,h20,h24,?_,Ext.keep hEv⟩;have:D=A++X1++Y1++X2++Y2++B:=by
     rw[hDe,←hX12,←hY12];by_cases hz:X2=[]
     ·rw[hz];simp
     ·have:Y1=[]:=Classical.byContradiction λ hy=>hcc ⟨hz,hy⟩;rw[this];simp
    rw[←this];exact hLv
  clear h0 h1 h2 h3 h4 h18 h20 h24 h185 hLv hEv;rintro _ σ3 _ v3 ⟨rfl,rfl,h0,h1,h3,h4,h18,h20,h24,hL3,hK3⟩;have hE3:Ext w0 v3:=ykt hE rfl (λ i hi=>oM) hK3;have hL3l:(A++X1++Y1++X2++Y2++B).length=N:=by
   have e1:=congrArg List.length hX12;have e2:=congrArg List.length hY12;simp only[yab]at e1 e2 ⊢;omega
  -- the front half
  repeat refine c_r ?_
  refine zaw (Q:=λ e σ' ds' v'=>e= .normal/\ds'=[]/\v'=v3/\σ' 0= .slice (some ⟨b,0,.none⟩) N cap/\σ' 1=vi p/\σ' 3=vi r/\σ' 4= .func (.func g) #[] cb.toArray/\σ' 18=vi (p+h:Nat)/\σ' 20=vi (p+s:Nat)/\σ' 24=vi (q+t:Nat)/\σ' 199= .bool (decide (X1≠ []/\Y1≠ []))) ?_ ?_
  ·refine rq ?_;intro gd K hgd hK;have hg3:=gk 3 195 hgd rfl;by_cases b1:(p:Int)<((p+s:Nat):Int)
   ·have n1:X1≠ []:=yau.1 oM;by_cases b2:((p+s:Nat):Int)<((p+h:Nat):Int)
    ·have n2:Y1≠ []:=yau.1 oM;try simp (disch:=first|omega|assumption|rfl) only[go_sem,h1,h20,h18,yet b1,yet b2,↓hg3]
     apply hK;refine⟨rfl,rfl,rfl,vq1 h0,vq1 h1,vq1 h3,vq1 h4,vq1 h18,vq1 h20,vq1 h24,?_⟩;rw[show decide (X1≠ []/\Y1≠ [])=true from yet ⟨n1,n2⟩];simp only[go_sem]
    ·have n2:Y1=[]:=yan.1 oM;try simp (disch:=first|omega|assumption|rfl) only[go_sem,h1,h20,h18,yet b1,yef b2,↓hg3]
     apply hK;refine⟨rfl,rfl,rfl,vq1 h0,vq1 h1,vq1 h3,vq1 h4,vq1 h18,vq1 h20,vq1 h24,?_⟩;rw[show decide (X1≠ []/\Y1≠ [])=false from yef (λ hx=>hx.2 n2)];simp only[go_sem]
   ·have n1:X1=[]:=yan.1 oM;try simp (disch:=first|omega|assumption|rfl) only[go_sem,h1,h20,h18,yef b1,↓hg3]
    apply hK;refine⟨rfl,rfl,rfl,vq1 h0,vq1 h1,vq1 h3,vq1 h4,vq1 h18,vq1 h20,vq1 h24,?_⟩;rw[show decide (X1≠ []/\Y1≠ [])=false from yef (λ hx=>hx.1 n1)];simp only[go_sem]
  clear h0 h1 h3 h4 h18 h20 h24;rintro _ σ4 _ v4 ⟨rfl,rfl,hv4,h0,h1,h3,h4,h18,h20,h24,h199⟩;rw[hv4];clear hv4 v4;repeat refine c_r ?_
  refine zaw (Q:=λ e σ' ds' v'=>e= .normal/\ds'=[]/\σ' 0= .slice (some ⟨b,0,.none⟩) N cap/\σ' 3=vi r/\σ' 4= .func (.func g) #[] cb.toArray/\σ' 18=vi (p+h:Nat)/\σ' 24=vi (q+t:Nat)/\
   ∃Z1,Z1.Perm (X1++Y1)/\Z1.Pairwise lt/\Lies enc v' b cap (A++Z1++X2++Y2++B)/\Keep (λ i=>i=b) v3 v') ?_ ?_
  ·refine zaG (by simp only[go_sem,h199];rfl) ?_ ?_
   ·intro hcc;simp only[ydT]at hcc;refine rqz ?_;intro gd K hgd hK;refine sgz (az5 h0 h1 h18 h4 h20) ?_;refine yfm (ih v3 _ A X1 Y1 (X2++Y2++B) p (p+s) (p+h) N oM (by simp only[yla]) hL3l hp oM oM hcc.1 hcc.2 hUX1 hUY1 hX.1 hY.1 ho1 hL3 hlen hE3) ?_;rintro _ w1 ⟨⟨Z1,z1,z2,z3⟩,hK1⟩;try simp only[go_sem]
    apply hK;refine⟨rfl,rfl,vq1 h0,vq1 h3,vq1 h4,vq1 h18,vq1 h24,Z1,z1,z2,?_,hK1⟩;simpa only[yla] using z3
   ·intro hcc;simp only[ydF]at hcc;repeat refine c_r ?_
    refine⟨rfl,rfl,h0,h3,h4,h18,h24,X1++Y1,List.Perm.refl _,?_,by simpa only[yla] using hL3,Keep.refl _ _⟩;by_cases hz:X1=[]
    ·rw[hz];exact hY.1
    ·have:Y1=[]:=Classical.byContradiction λ hy=>hcc ⟨hz,hy⟩;rw[this,yaF];exact hX.1
  clear h0 h1 h3 h4 h18 h20 h24 h199 hL3;rintro _ σ5 _ v5 ⟨rfl,rfl,h0,h3,h4,h18,h24,Z1,zp1,zs1,hL5,hK5⟩;have hE5:Ext w0 v5:=ykt hE3 rfl (λ i hi=>oM) hK5;have lZ1:Z1.length=h:=by rw[zp1.length_eq,yab];omega
  have hL5l:(A++Z1++X2++Y2++B).length=N:=by
   have e1:=congrArg List.length hX12;have e2:=congrArg List.length hY12;simp only[yab]at e1 e2 ⊢;omega
  have hXY:∀Z2:List α,Z2.Perm (X2++Y2)->Z2.Pairwise lt->(Z1++Z2).Perm (X++Y)/\(Z1++Z2).Pairwise lt:=λ Z2 zp2 zs2=>by
   have:=zge (by rw[yap];exact hX) (by rw[yap];exact hY) c1 c2 zp1 zp2 zs1 zs2;rw[hX12,hY12]at this;exact⟨this.2,this.1⟩
  -- the back half
  repeat refine c_r ?_
  refine zaw (Q:=λ e σ' ds' v'=>e= .normal/\ds'=[]/\v'=v5/\σ' 0= .slice (some ⟨b,0,.none⟩) N cap/\σ' 3=vi r/\σ' 4= .func (.func g) #[] cb.toArray/\σ' 18=vi (p+h:Nat)/\σ' 24=vi (q+t:Nat)/\σ' 213= .bool (decide (X2≠ []/\Y2≠ []))) ?_ ?_
  ·refine rq ?_;intro gd K hgd hK;have hg3:=gk 3 209 hgd rfl;by_cases b1:((p+h:Nat):Int)<((q+t:Nat):Int)
   ·have n1:X2≠ []:=yau.1 oM;by_cases b2:((q+t:Nat):Int)<(r:Int)
    ·have n2:Y2≠ []:=yau.1 oM;try simp (disch:=first|omega|assumption|rfl) only[go_sem,h18,h24,h3,yet b1,yet b2,↓hg3]
     apply hK;refine⟨rfl,rfl,rfl,vq1 h0,vq1 h3,vq1 h4,vq1 h18,vq1 h24,?_⟩;rw[show decide (X2≠ []/\Y2≠ [])=true from yet ⟨n1,n2⟩];simp only[go_sem]
    ·have n2:Y2=[]:=yan.1 oM;try simp (disch:=first|omega|assumption|rfl) only[go_sem,h18,h24,h3,yet b1,yef b2,↓hg3]
     apply hK;refine⟨rfl,rfl,rfl,vq1 h0,vq1 h3,vq1 h4,vq1 h18,vq1 h24,?_⟩;rw[show decide (X2≠ []/\Y2≠ [])=false from yef (λ hx=>hx.2 n2)];simp only[go_sem]
   ·have n1:X2=[]:=yan.1 oM;try simp (disch:=first|omega|assumption|rfl) only[go_sem,h18,h24,h3,yef b1,↓hg3]
    apply hK;refine⟨rfl,rfl,rfl,vq1 h0,vq1 h3,vq1 h4,vq1 h18,vq1 h24,?_⟩;rw[show decide (X2≠ []/\Y2≠ [])=false from yef (λ hx=>hx.1 n1)];simp only[go_sem]
  clear h0 h3 h4 h18 h24;rintro _ σ6 _ v6 ⟨rfl,rfl,hv6,h0,h3,h4,h18,h24,h213⟩;rw[hv6];clear hv6 v6;repeat refine c_r ?_
  refine zaG (by simp only[go_sem,h213];rfl) ?_ ?_
  ·intro hcc;simp only[ydT]at hcc;refine rqz ?_;intro gd K hgd hK;refine sgz (az5 h0 h3 h18 h4 h24) ?_;refine yfm (ih v5 _ (A++Z1) X2 Y2 B (p+h) (q+t) r N oM rfl hL5l (by rw[yab];omega) oM oM hcc.1 hcc.2 hUX2 hUY2 hX.2.1 hY.2.1 ho2 hL5 hlen hE5) ?_;rintro _ w1 ⟨⟨Z2,z1,z2,z3⟩,hK1⟩;try simp only[go_sem]
   refine en hK ?_;refine zap (by simp) rfl ⟨⟨Z1++Z2,(hXY Z2 z1 z2).1,(hXY Z2 z1 z2).2,?_⟩,(hK3.trans hK5).trans hK1⟩;simpa only[yla] using z3
  ·intro hcc;simp only[ydF]at hcc;repeat refine c_r ?_
   have hs2:(X2++Y2).Pairwise lt:=by
    by_cases hz:X2=[]
    ·rw[hz];exact hY.2.1
    ·have:Y2=[]:=Classical.byContradiction λ hy=>hcc ⟨hz,hy⟩;rw[this,yaF];exact hX.2.1
   obtain⟨z1,z2⟩:=hXY (X2++Y2) (List.Perm.refl _) hs2;refine zap (by simp) rfl ⟨⟨Z1++(X2++Y2),z1,z2,?_⟩,hK3.trans hK5⟩;simpa only[yla] using hL5
end
end S_pair
namespace S_pair
section
variable {α : Type} {enc : α -> List Value}
theorem zgc{U:α->Prop}{cf:α->α->Int}{lt older:α->α->Prop}{g:FuncId}{cb:List Value}(hc:Cmp w0 enc U cf g cb)(ho:zes cf lt older)(hb:w0.heap.size<=b)
  {D:List α} {N:Nat} (hN:D.length=N) (hU:∀x∈D,U x) (hOD:D.Pairwise older) (hD:Lies enc w b cap D) (hlen:N<=100000000000) (hE:Ext w0 w):
  Fn prog 236 #[zbt b N cap,vi N,cmpV g cb] w (λ _ w'=>(∃Z,Z.Perm D/\Z.Pairwise lt/\Lies enc w' b cap Z)/\Keep (λ i=>i=b) w w'):=by
 unfold zbt cmpV;refine enx func236 ntmps236 ?_;repeat refine c_r ?_
 refine rg0 ?_;repeat refine c_r ?_
 refine rg0 ?_;repeat refine c_r ?_
 refine zan (λ m σ ds v=>ds=[]/\∃(P:List (List α)) (R:List α),R.length=m/\(∀L∈P,L.length=20)/\(∀L∈P,L.Pairwise lt)/\OldC older (P++ [R])/\R.Pairwise older/\(P.flatten++R).Perm D/\σ 6=vi 20/\σ 7=vi P.flatten.length/\σ 8=vi (P.flatten.length+20:Nat)/\σ 0= .slice (some ⟨b,0,.none⟩) N cap/\σ 1=vi N/\σ 2= .func (.func g) #[] cb.toArray/\
  Lies enc v b cap (P.flatten++R)/\Keep (λ i=>i=b) w v) D.length ?_ ?_
 ·refine⟨rfl,[],D,rfl,λ L h=>(by cases h),λ L h=>(by cases h),yby _ _,hOD,List.Perm.refl _,vq0,?_,?_,vq0,vq0,vq0,hD,Keep.refl _ _⟩
  ·simp only[go_sem];rfl
  ·simp only[go_sem];rfl
 rintro m σ ds v ⟨rfl,P,R,hm,hP20,hPs,hOC,hRo,hperm,h6,h7,h8,h0,h1,h2,hL,hK⟩;have hE0:Ext w0 v:=ykt hE rfl (λ i hi=>oM) hK;have hl:=hperm.length_eq;rw[yab,hN]at hl;have hUR:∀x∈R,U x:=λ x hx=>hU x (hperm.mem_iff.1 (yaP _ hx));repeat refine c_r ?_
 refine rg2 h8 h1 ?_;repeat refine c_r ?_
 refine wc0 ?_ ?_
 ·intro hle;simp only[ydT]at hle;have hR20:20<=R.length:=oM;obtain⟨X,hX⟩:∃X,R.take 20=X:=⟨_,rfl⟩;obtain⟨R',hR'⟩:∃R',R.drop 20=R':=⟨_,rfl⟩;have hXR:X++R'=R:=by rw[←hX,←hR'];exact yar _ _
  have hXl:X.length=20:=by rw[←hX];simp;omega
  rw[←hXR]at hRo hOC;have hOC2:=hOC.split hRo;rw[yap]at hRo;repeat refine c_r ?_
  refine rq ?_;intro gd K hgd hK;try simp (disch:=first|omega|assumption|rfl) only[go_sem,h0,h7,h8,h2]
  refine yfm (zbm hc ho (D:=P.flatten++R) (A:=P.flatten) (X:=X) (B:=R') (p:=P.flatten.length) (q:=P.flatten.length+20) (N:=N) (by rw[←hXR,yla]) (by rw[yab];omega) rfl oM (λ x hx=>hUR x (by rw[←hXR];exact yas _ hx)) hRo.1 hL oM hE0 hb) ?_;rintro _ w1 ⟨⟨Z,z1,z2,z3⟩,hK1⟩;try simp only[go_sem]
  refine hK _ _ ?_;clear hK hgd;clear K;try clear gd
  have hzl:=z1.length_eq;have hfl:(P++ [Z]).flatten.length=P.flatten.length+20:=by simp;omega
  repeat refine c_r ?_
  refine rg1 h8 ?_;repeat refine c_r ?_
  refine rg2 h8 h6 ?_;repeat refine c_r ?_
  refine⟨R'.length,by rw[←hR'];simp;omega,rfl,P++ [Z],R',rfl,λ L hL=>?_,λ L hL=>?_,?_,hRo.2.1,?_,vq1 h6,vq1 hfl,by simp only[go_sem,hfl];push_cast;rfl,vq1 h0,vq1 h1,vq1 h2,?_,hK.trans hK1⟩
  ·rcases yai.1 hL with hL|hL
   ·exact hP20 L hL
   ·rw[yae.1 hL];omega
  ·rcases yai.1 hL with hL|hL
   ·exact hPs L hL
   ·rw[yae.1 hL];exact z2
  ·have:=hOC2.perm z1;rw[yla];exact this
  ·refine List.Perm.trans ?_ hperm;rw[←hXR];have:(P++ [Z]).flatten++R'=P.flatten++(Z++R'):=by simp
   rw[this];exact ybf _ (ybz _ z1)
  ·have:(P++ [Z]).flatten++R'=P.flatten++Z++R':=by simp
   rw[this];exact z3
 intro hgt;simp only[ydF]at hgt;have hR20:R.length<20:=oM;repeat refine c_r ?_
 refine rq ?_;intro gd K hgd hK;try simp (disch:=first|omega|assumption|rfl) only[go_sem,h0,h7,h1,h2]
 refine yfm (zbm hc ho (D:=P.flatten++R) (A:=P.flatten) (X:=R) (B:=[]) (p:=P.flatten.length) (q:=N) (N:=N) (by simp) (by rw[yab];omega) rfl oM hUR hRo hL oM hE0 hb) ?_;rintro _ w1 ⟨⟨Z,z1,z2,z3⟩,hK1⟩;try simp only[go_sem]
 refine hK _ _ ?_;clear hK hgd;clear K;try clear gd
 have hE1:Ext w0 w1:=ykt hE0 rfl (λ i hi=>oM) hK1;have hzl:=z1.length_eq;repeat refine c_r ?_
 refine zan (λ m σ ds v=>ds=[]/\∃(s:Nat) (Ls:List (List α)),N - s=m/\0<s/\Rem s Ls/\(∀L∈Ls,L.Pairwise lt)/\OldC older Ls/\Ls.flatten.Perm D/\σ 6=vi s/\σ 0= .slice (some ⟨b,0,.none⟩) N cap/\σ 1=vi N/\σ 2= .func (.func g) #[] cb.toArray/\
  Lies enc v b cap Ls.flatten/\Keep (λ i=>i=b) w v) (N - 20) ?_ ?_
 ·refine⟨rfl,20,P++ [Z],rfl,oM,zeN oM hP20,λ L hL=>?_,hOC.perm z1,?_,by simp only[go_sem,h6];rfl,vq1 h0,vq1 h1,vq1 h2,?_,hK.trans hK1⟩
  ·rcases yai.1 hL with hL|hL
   ·exact hPs L hL
   ·rw[yae.1 hL];exact z2
  ·refine List.Perm.trans ?_ hperm;have:(P++ [Z]).flatten=P.flatten++Z:=by simp
   rw[this];exact ybf _ z1
  ·have:(P++ [Z]).flatten=P.flatten++Z++ []:=by simp
   rw[this];exact z3
 clear h6 h7 h8 h0 h1 h2 hL hOC hperm hl z3;rintro m1 σ ds v1 ⟨rfl,s,Ls,hms,hs0,hrem,hsorted,hOC,hperm,h6,h0,h1,h2,hL,hK2⟩;have hE2:Ext w0 v1:=ykt hE rfl (λ i hi=>oM) hK2;have hl:=hperm.length_eq;rw[hN]at hl;repeat refine c_r ?_
 refine rg2 h6 h1 ?_;repeat refine c_r ?_
 refine wc0 ?_ ?_
 ·intro hlt;simp only[ydT]at hlt;have h2s:(2:Int)*s=((2*s:Nat):Int):=by push_cast;rfl
  repeat refine c_r ?_
  refine rg2 h6 h2s ?_;repeat refine c_r ?_
  refine zan (λ m σ ds v=>ds=[]/\∃(Q Rs:List (List α)),Rs.flatten.length=m/\(∀L∈Q,L.length=2*s)/\Rem s Rs/\(∀L∈Q++Rs,L.Pairwise lt)/\OldC older (Q++Rs)/\(Q++Rs).flatten.Perm D/\σ 6=vi s/\σ 7=vi Q.flatten.length/\σ 8=vi (Q.flatten.length+2*s:Nat)/\σ 0= .slice (some ⟨b,0,.none⟩) N cap/\σ 1=vi N/\σ 2= .func (.func g) #[] cb.toArray/\
   Lies enc v b cap (Q++Rs).flatten/\Keep (λ i=>i=b) w v) N ?_ ?_
  ·refine⟨rfl,[],Ls,hl,λ L h=>(by cases h),hrem,hsorted,hOC,hperm,vq1 h6,?_,?_,vq1 h0,vq1 h1,vq1 h2,hL,hK2⟩
   ·simp only[go_sem];rfl
   ·simp only[go_sem];push_cast;simp
  clear h6 h0 h1 h2 hL hrem hsorted hOC hperm;rintro m2 σ ds v2 ⟨rfl,Q,Rs,hm2,hQl,hrem,hsorted,hOC,hperm,h6,h7,h8,h0,h1,h2,hL,hK3⟩;have hE3:Ext w0 v2:=ykt hE rfl (λ i hi=>oM) hK3;have hl3:=hperm.length_eq;rw[hN,ybl,yab]at hl3;have hUQ:∀L∈Q++Rs,∀x∈L,U x:=λ L hL x hx=>hU x (hperm.mem_iff.1 (ych.2 ⟨L,hL,hx⟩));repeat refine c_r ?_
  refine rg2 h8 h1 ?_;repeat refine c_r ?_
  refine wc0 ?_ ?_
  ·intro hle;simp only[ydT]at hle;obtain⟨L1,L2,Rs',rfl,l1,l2,hrem'⟩:=zmJ hs0 hrem oM;have has:(Q.flatten.length:Int)+s=((Q.flatten.length+s:Nat):Int):=by push_cast;rfl
   have n1:L1≠ []:=yau.1 oM;have n2:L2≠ []:=yau.1 oM;have hold12:=(hOC.merge (List.Perm.refl (L1++L2))).2;repeat refine c_r ?_
   refine rq ?_;intro gd K hgd hK;try simp (disch:=first|omega|assumption|rfl) only[go_sem,h0,h7,h6,h8,h2,has]
   refine yfm (zcH hc ho hb (L1.length+L2.length) v2 (Q++L1::L2::Rs').flatten Q.flatten L1 L2 Rs'.flatten Q.flatten.length (Q.flatten.length+s) (Q.flatten.length+2*s) N (ynl _) (by simp) (by rw[ybl,yab];exact hl3) rfl oM oM n1 n2
    (hUQ L1 (by simp)) (hUQ L2 (by simp)) (hsorted L1 (by simp)) (hsorted L2 (by simp)) hold12 hL oM hE3) ?_
   rintro _ w2 ⟨⟨Z,z1,z2,z3⟩,hK4⟩;try simp only[go_sem]
   refine hK _ _ ?_;clear hK hgd;clear K;try clear gd
   have hzl2:=z1.length_eq;rw[yab]at hzl2;have hfl:(Q++ [Z]).flatten.length=Q.flatten.length+2*s:=by simp;omega
   repeat refine c_r ?_
   refine rg1 h8 ?_;repeat refine c_r ?_
   refine rg3 h8 h6 h2s ?_;repeat refine c_r ?_
   have hfr:(L1::L2::Rs').flatten.length=s+(s+Rs'.flatten.length):=by simp only[ybC,yab];omega
   refine⟨Rs'.flatten.length,oM,rfl,Q++ [Z],Rs',rfl,λ L hL=>?_,hrem',λ L hL=>?_,?_,?_,vq1 h6,vq1 hfl,by simp only[go_sem,hfl];push_cast;rfl,vq1 h0,vq1 h1,vq1 h2,?_,hK3.trans hK4⟩
   ·rcases yai.1 hL with hL|hL
    ·exact hQl L hL
    ·rw[yae.1 hL];omega
   ·rcases yai.1 hL with hL|hL
    ·rcases yai.1 hL with hL|hL
     ·exact hsorted L (by simp[hL])
     ·rw[yae.1 hL];exact z2
    ·exact hsorted L (by simp[hL])
   ·have:=(hOC.merge z1).1;rw[yla];exact this
   ·refine List.Perm.trans ?_ hperm;have e1:(Q++ [Z]++Rs').flatten=Q.flatten++(Z++Rs'.flatten):=by simp
    have e2:(Q++L1::L2::Rs').flatten=Q.flatten++((L1++L2)++Rs'.flatten):=by simp
    rw[e1,e2];exact ybf _ (ybz _ z1)
   ·have e1:(Q++ [Z]++Rs').flatten=Q.flatten++Z++Rs'.flatten:=by simp
    rw[e1];exact z3
  intro hgt2;simp only[ydF]at hgt2;have has:(Q.flatten.length:Int)+s=((Q.flatten.length+s:Nat):Int):=by push_cast;rfl
  repeat refine c_r ?_
  refine rg3 h7 h6 has ?_;repeat refine c_r ?_
  refine rg1 h1 ?_;repeat refine c_r ?_
  refine zaw (Q:=λ e σ' ds' v'=>e= .normal/\ds'=[]/\σ' 6=vi s/\σ' 0= .slice (some ⟨b,0,.none⟩) N cap/\σ' 1=vi N/\σ' 2= .func (.func g) #[] cb.toArray/\
   ∃Z,Z.Perm Rs.flatten/\Z.Pairwise lt/\Lies enc v' b cap (Q++ [Z]).flatten/\Keep (λ i=>i=b) w v') ?_ ?_
  ·refine wc0 ?_ ?_
   ·intro hlt2;simp only[ydT]at hlt2;obtain⟨L1,L2,rfl,l1,n2⟩:=zmK hrem oM oM;have n1:L1≠ []:=yau.1 oM;have hold12:=(hOC.merge (List.Perm.refl (L1++L2))).2;have hfr:[L1,L2].flatten.length=s+L2.length:=by simp;omega
    repeat refine c_r ?_
    refine rq ?_;intro gd K hgd hK;try simp (disch:=first|omega|assumption|rfl) only[go_sem,h0,h7,h1,h2]
    refine yfm (zcH hc ho hb (L1.length+L2.length) v2 (Q++ [L1,L2]).flatten Q.flatten L1 L2 [] Q.flatten.length (Q.flatten.length+s) N N (ynl _) (by simp) (by rw[ybl,yab];exact hl3) rfl oM oM n1 n2
     (hUQ L1 (by simp)) (hUQ L2 (by simp)) (hsorted L1 (by simp)) (hsorted L2 (by simp)) hold12 hL oM hE3) ?_
    rintro _ w2 ⟨⟨Z,z1,z2,z3⟩,hK4⟩;try simp only[go_sem]
    refine hK _ _ ?_;clear hK hgd;clear K;try clear gd
    refine⟨rfl,rfl,vq1 h6,vq1 h0,vq1 h1,vq1 h2,Z,by simpa using z1,z2,?_,hK3.trans hK4⟩;have e1:(Q++ [Z]).flatten=Q.flatten++Z++ []:=by simp
    rw[e1];exact z3
   ·intro hge2;simp only[ydF]at hge2;repeat refine c_r ?_
    refine⟨rfl,rfl,vq1 h6,vq1 h0,vq1 h1,vq1 h2,Rs.flatten,List.Perm.refl _,zeO hrem (λ L hL=>hsorted L (by simp[hL])) oM,?_,hK3⟩;have e1:(Q++ [Rs.flatten]).flatten=(Q++Rs).flatten:=by simp
    rw[e1];exact hL
  clear h6 h7 h8 h0 h1 h2 hL;rintro _ σ3 _ v3 ⟨rfl,rfl,h6,h0,h1,h2,Z,zp,zs,hL,hK5⟩;have hzl3:=zp.length_eq;have hs2:(s:Int)*2=((2*s:Nat):Int):=by push_cast;omega
  repeat refine c_r ?_
  refine rg2 h6 hs2 ?_;repeat refine c_r ?_
  refine⟨N - 2*s,oM,rfl,2*s,Q++ [Z],rfl,oM,zeN oM hQl,λ L hL=>?_,hOC.join.perm zp,?_,vq0,vq1 h0,vq1 h1,vq1 h2,hL,hK5⟩
  ·rcases yai.1 hL with hL|hL
   ·exact hsorted L (by simp[hL])
   ·rw[yae.1 hL];exact zs
  ·refine List.Perm.trans ?_ hperm;have e1:(Q++ [Z]).flatten=Q.flatten++Z:=by simp
   rw[e1,ybl];exact ybf _ zp
 intro hge;simp only[ydF]at hge;repeat refine c_r ?_
 exact zap (by simp) rfl ⟨⟨Ls.flatten,hperm,zeO hrem hsorted oM,hL⟩,hK2⟩
theorem zdw{U:α->Prop}{cf:α->α->Int}{lt older:α->α->Prop}{g:FuncId}{cb:List Value}(hc:Cmp w0 enc U cf g cb)(ho:zes cf lt older)(hb:w0.heap.size<=b)
  {D:List α} {N:Nat} (hN:D.length=N) (hU:∀x∈D,U x) (hOD:D.Pairwise older) (hD:Lies enc w b cap D) (hlen:N<=100000000000) (hE:Ext w0 w):
  Fn prog 215 #[zbt b N cap,cmpV g cb] w (λ _ w'=>(∃Z,Z.Perm D/\Z.Pairwise lt/\Lies enc w' b cap Z)/\Keep (λ i=>i=b) w w'):=by
 have h:=zgc (w:=w) hc ho hb hN hU hOD hD hlen hE;unfold zbt at h ⊢;refine enx func215 ntmps215 ?_;refine rqz ?_;intro gd K hgd hK;refine sg0 ?_;refine yfm h ?_;rintro _ w1 hr;refine sg0 ?_;refine en hK ?_;exact zap sM rfl hr
end
end S_pair
namespace S_pair
theorem Clone_ok{L:List (List Value)}(hr:RowK 2 w v L)(hk:∀x∈L,x.length=2)(h1:∀x∈L,∀q∈x,one q=true)(hlen:L.length<=10000000000):
  Fn prog 214 #[v] w (λ u w'=>OwnK 2 w.heap.size w' 254 u L/\Ext w w'):=by
 have hr':=hr;obtain⟨a,c,rfl,hc,hl⟩:=hr;refine enx func214 ntmps214 ?_;refine gz0 ?_;refine rq ?_;intro gd K hgd hK;refine sg0 ?_;refine zh5 (by rfl) (by rfl) (by rfl) ?_;refine sg0 ?_;refine en hK ?_;cases a with
 |none=>
  have:L=[]:=by
   cases L with
   |nil=>rfl
   |cons x L=>have:=hl 0 sM;simp[zat,adr]at this
  subst this;refine wc0 ?_ ?_
  ·intro _;refine gz0 ?_;refine rt0 ntmps214 ?_;exact⟨OwnK.nil _ _ _ _,Keep.refl _ _⟩
  ·intro h;cases h
 |some a=>
  refine wc0 ?_ ?_
  ·intro h;cases h
  intro _;refine rqz ?_;intro gd K hgd hK;refine sg0 ?_;refine zj8 (k:=2) (by rfl) (by rfl) (by rfl) (by rfl) ?_;intro w1 hE1 hs1 ho1;refine sg0 ?_;refine zgq (k:=2) (B:=w.heap.size) ho1 (hr'.ext hE1) (by rfl) (by rfl) (by rfl) (by rfl) (by rfl) (by rfl) (by decide) (by rfl) (by rfl) hk h1 (by simpa using by omega) (by decide) oM ?_;intro v' w2 ho2 hE2 _ _ _;refine sg0 ?_;refine en hK ?_;refine rt0 ntmps214 ?_;exact⟨by simpa using ho2,hE2 w hE1 (ynl _)⟩
end S_pair
namespace S_pair
theorem zce(w:World)(cmp:Value):Fn prog 243 #[.slice .none 0 0,vi 0,vi 0,cmp] w (λ _ w'=>w'=w):=by
 refine enx func243 ntmps243 ?_;refine gz0 ?_;refine zan (λ m σ ds v=>ds=[]/\v=w/\σ 8=vi 1/\σ 2=vi 0) 0 ?_ ?_
 ·exact⟨rfl,rfl,by simp only[go_sem];rfl,vq0⟩
 ·rintro m σ ds v ⟨rfl,rfl,h8,h2⟩;refine gz (az2 h8 h2) ?_;refine wc0 ?_ ?_
  ·intro h;exact absurd h (by decide)
  ·intro _;refine cZ ?_;exact zap sM rfl rfl
theorem zfd(w:World)(cmp:Value):Fn prog 236 #[.slice .none 0 0,vi 0,cmp] w (λ _ w'=>w'=w):=by
 refine enx func236 ntmps236 ?_;refine gz0 ?_;refine zan (λ m σ ds v=>ds=[]/\v=w/\σ 6=vi 20/\σ 7=vi 0/\σ 8=vi 20/\σ 0= .slice .none 0 0/\σ 1=vi 0/\σ 2=cmp) 0 ?_ ?_
 ·exact⟨rfl,rfl,vq0,vq0,vq0,vq0,vq0,vq0⟩
 ·rintro m σ ds v ⟨rfl,rfl,h6,h7,h8,h0,h1,h2⟩;refine gz (az2 h8 h1) ?_;refine wc0 ?_ ?_
  ·intro h;exact absurd h (by decide)
  intro _;refine rqz ?_;intro gd K hgd hK;refine sgz (az4 h0 h7 h1 h2) ?_;refine yfm (zce v cmp) ?_;rintro _ w1 hw1;subst hw1;refine sg0 ?_;refine en hK ?_;refine zan (λ m σ ds v=>ds=[]/\v=w1/\σ 6=vi 20/\σ 1=vi 0) 0 ?_ ?_
  ·exact⟨rfl,rfl,vq1 h6,vq1 h1⟩
  ·rintro m3 σ3 ds3 v3 ⟨rfl,rfl,g6,g1⟩;refine gz (az2 g6 g1) ?_;refine wc0 ?_ ?_
   ·intro h;exact absurd h (by decide)
   ·intro _;refine cZ ?_;exact zap sM rfl rfl
theorem zdb(w:World)(cmp:Value):Fn prog 215 #[.slice .none 0 0,cmp] w (λ _ w'=>w'=w):=by
 refine enx func215 ntmps215 ?_;refine rqz ?_;intro gd K hgd hK;refine sg0 ?_;refine yfm (zfd w cmp) ?_;rintro _ w1 hr;refine sg0 ?_;refine en hK ?_;exact zap sM rfl hr
section
variable {α : Type} {enc : α -> List Value}
theorem SortOwn_ok{U:α->Prop}{cf:α->α->Int}{lt older:α->α->Prop}{g:FuncId}{cb:List Value}(hc:Cmp w0 enc U cf g cb)(ho:zes cf lt older)(hB:w0.heap.size<=B)
  {D:List α} (hU:∀x∈D,U x) (hOD:D.Pairwise older) (hD:OwnK 2 B w 254 v (D.map enc)) (hlen:D.length<=100000000000) (hE:Ext w0 w):
  Fn prog 215 #[v,cmpV g cb] w (λ _ w'=>∃Z:List α,Z.Perm D/\Z.Pairwise lt/\OwnK 2 B w' 254 v (Z.map enc)/\Keep (λ i=>some i=v.ownBlock) w w'):=by
 rcases hD.cases with ⟨rfl,h0⟩| ⟨b,cap,rfl,hb,hc2,hm,hSD⟩
 ·have:D=[]:=ybQ.1 h0;subst this;refine yfm (zdb w _) ?_;rintro _ w1 rfl;exact⟨[],List.Perm.refl _,List.Pairwise.nil,OwnK.nil _ _ _ _,Keep.refl _ _⟩
 ·rw[ylm]at hc2 ⊢;refine yfm (zdw (b:=b) (cap:=cap) (lt:=lt) hc ho oM rfl hU hOD hSD hlen hE) ?_;rintro _ w1 ⟨⟨Z,hp,hs,hL⟩,hK⟩;refine⟨Z,hp,hs,?_,?_⟩
  ·have:=OwnK.of_sd (B:=B) hL hb (by rw[ylm,hp.length_eq];exact hc2) hm;rw[ylm,hp.length_eq]at this;exact this
  ·have:(λ i=>some i=(Value.slice (some ⟨b,0,.none⟩) D.length cap).ownBlock)=(λ i=>i=b):=by
    funext i;simp[Value.ownBlock]
   rw[this];exact hK
end
end S_pair
abbrev zaP:=Nm×Nm
structure PairAt(S:Nat->Prop)(w:World)(cs:List Value)(p:zaP):Prop where
 ex:∃a b,cs=[a,b]/\RowZ 0 S w a (p.1.map vs)/\RowZ 0 S w b (p.2.map vs)
theorem PairAt.ext{p:zaP}(h:PairAt S w cs p)(hE:Ext w x):PairAt S x cs p:=by
 obtain⟨a,b,e,h1,h2⟩:=h.ex;exact⟨a,b,e,h1.ext hE,h2.ext hE⟩
theorem PairAt.turn{S':Nat->Prop}{p:zaP}(h:PairAt S w cs p)(hk:Keep S w x)(hS:∀b,S' b->S b\/w.heap.size<=b):PairAt S' x cs p:=by
 obtain⟨a,b,e,h1,h2⟩:=h.ex;exact⟨a,b,e,h1.turn hk hS,h2.turn hk hS⟩
theorem PairAt.len{p:zaP}(h:PairAt S w cs p):cs.length=2:=by
 obtain⟨a,b,rfl,_⟩:=h.ex
 rfl
theorem PairAt.ones{p:zaP}(h:PairAt S w cs p):∀q∈cs,one q=true:=by
 obtain⟨a,b,rfl,h1,h2⟩:=h.ex;intro q hq;simp at hq;rcases hq with rfl|rfl
 ·exact h1.one
 ·exact h2.one
structure zbB(p:zaP):Prop where
 a:NmK p.1
 b:NmK p.2
def za3(a b:zaP):Int:=orI [zc8 a.1 b.1,zc8 a.2 b.2]
theorem cpr_Pr:Cpr za3:=by
 have h:=(cpr_F2.map (Prod.fst:zaP->Nm)).or ((cpr_F2.map (Prod.snd:zaP->Nm)).or Cpr.const);exact h
def fstP(a _:zaP):zaP:=a
theorem znq:Join za3 fstP:=⟨λ _ _ _ _=>rfl⟩
def renF(l:List zaP):List zaP:=zbR za3 fstP (λ r=>r) l []
theorem zfJ(w:World)(ca cb:List Value)(a b:zaP)(ha:PairAt S w ca a)(hb:PairAt S w cb b)(oa:zbB a)(ob:zbB b):
  Fn prog 129 #[.agg ca.toArray,.agg cb.toArray] w (λ v w'=>v=vi (za3 a b)/\Ext w w'):=by
 obtain⟨a1,a2,rfl,h1,h2⟩:=ha.ex;obtain⟨b1,b2,rfl,h3,h4⟩:=hb.ex;have la:=oa.a.len;have lb:=oa.b.len;have lc:=ob.a.len;have ld:=ob.b.len;obtain⟨x1,c1,e1,_⟩:=id h1.1;obtain⟨x2,c2,e2,_⟩:=id h2.1;obtain⟨x3,c3,e3,_⟩:=id h3.1;obtain⟨x4,c4,e4,_⟩:=id h4.1;refine enx func129 ntmps129 ?_;refine cZ ?_;rw[e1,e2,e3,e4];refine rg0 ?_;rw[←e1,←e2,←e3,←e4];refine cZ ?_;rw[zai];refine zaQ ?_;intro w1 hE1 hs1 hA hB;have p0:zad w1 (some ⟨w.heap.size,0,.none⟩)=some a1:=zab hA rfl;have p1:zad w1 (some ⟨w.heap.size,1,.none⟩)=some a2:=zab hA rfl;have q0:zad w1 (some ⟨w.heap.size+1,0,.none⟩)=some b1:=zab hB rfl;have q1:zad w1 (some ⟨w.heap.size+1,1,.none⟩)=some b2:=zab hB rfl;refine zaF (λ _=>false) [(0,true),(1,true),(2,true),(3,true),(5,true),(6,true),(7,true),(8,true),(4,false),(9,false),(10,false),(11,false),(12,true)] NoS mixed kR ?_;intro gd K x hgd hx hxe hK;have hE1x:=hE1.trans hx;have p0x:=zaa hx p0;have p1x:=zaa hx p1;have q0x:=zaa hx q0;have q1x:=zaa hx q1;have t1:(1:Int).toNat=1:=rfl;refine sgz (az2 (az7 p0x p1x q0x q1x yad yn0 ybc) t1) ?_;refine yfm (zdy x _ _ _ _ (h1.1.ext hE1x) (h3.1.ext hE1x) oa.a.LB ob.a.LB oM oM) ?_;rintro _ y1 ⟨rfl,hy1⟩;refine⟨.inr hy1,?_⟩;have p1y:=zaa hy1 p1x;have q1y:=zaa hy1 q1x;refine sgz (az6 p1y q1y yad yn0 ybc t1) ?_
 refine yfm (zdy y1 _ _ _ _ (h2.1.ext (hE1x.trans hy1)) (h4.1.ext (hE1x.trans hy1)) oa.b.LB ob.b.LB oM oM) ?_;rintro _ y2 ⟨rfl,hy2⟩;refine⟨.inr hy2,?_⟩;refine sg0 ?_;refine zbK (z:=vi 0) (l:=[vi (cmpN (zag a.1) (zag b.1)),vi (cmpN (zag a.2) (zag b.2))]) rfl rfl rfl rfl rfl rfl (λ v hv=>by simp at hv;rcases hv with rfl|rfl<;>rfl) sM ?_;intro y3 hy3 hs3 ho3;refine⟨.inr hy3,?_⟩;refine sg0 ?_;refine yfm (Or_ok y3 _ [cmpN (zag a.1) (zag b.1),cmpN (zag a.2) (zag b.2)] ho3.row sM) ?_;rintro _ y0 ⟨rfl,h0⟩;replace h0:=h0.symm;subst h0;refine⟨.inr ykr,?_⟩;refine sg0 ?_;refine en hK ?_;refine rt0 ntmps129 ?_;exact⟨rfl,((hE1x.trans hy1).trans hy2).trans hy3⟩
theorem FewF_ok(w:World)(ca cb:List Value)(a b:zaP)(ha:PairAt S w ca a)(hb:PairAt S w cb b):
  Fn prog 175 #[.agg ca.toArray,.agg cb.toArray] w (λ v w'=>v= .agg ca.toArray/\Ext w w'):=by
 obtain⟨a1,a2,rfl,h1,h2⟩:=ha.ex;obtain⟨b1,b2,rfl,h3,h4⟩:=hb.ex;have i1:=h1.1.isOne;have i2:=h2.1.isOne;obtain⟨x1,c1,e1,_⟩:=id h1.1;obtain⟨x2,c2,e2,_⟩:=id h2.1;obtain⟨x3,c3,e3,_⟩:=id h3.1;obtain⟨x4,c4,e4,_⟩:=id h4.1;refine enx func175 ntmps175 ?_;refine cZ ?_;rw[e1,e2,e3,e4];refine rg0 ?_;rw[←e1,←e2,←e3,←e4];refine cZ ?_;rw[zai,zai,zai];refine zek ?_;intro w1 hE1 hs1 hA hB hC;have dA:=zah (n:=2) (l:=[a1,a2]) hA rfl;refine rqz ?_;intro gd K hgd hK;refine sgz dA ?_;refine zaL (P:=prog) (t:=254) (l:=[a1,a2]) hC rfl (za7 i1 i2) rfl rfl ?_;intro w2 hs2 hC2 hk2;refine sg0 ?_;refine en hK ?_;have hE2:Ext w w2:=ykt hE1 rfl (λ i hi=>oM) hk2;refine zkt sM rfl ntmps175 vq0 rfl rfl (zah (n:=2) hC2 rfl) ?_;exact⟨rfl,hE2⟩
abbrev PI:=(List Value×zaP)×Nat
def encPr(x:PI):List Value:=x.1.1
def zgr(a b:PI):Prop:=a.2<b.2
def ltPr(a b:PI):Prop:=za3 a.1.2 b.1.2<0\/(za3 a.1.2 b.1.2=0/\a.2<b.2)
def cfPr(a b:PI):Int:=za3 a.1.2 b.1.2
def UPr(S:Nat->Prop)(w:World)(x:PI):Prop:=PairAt S w x.1.1 x.1.2/\zbB x.1.2
theorem cmp_Pr(hE0:Ext w0 w):S_pair.Cmp w encPr (UPr S w0) cfPr 129 []:=
 ⟨by decide,λ A x y hE hx hy=>zfJ A _ _ _ _ (hx.1.ext (hE0.trans hE)) (hy.1.ext (hE0.trans hE)) hx.2 hy.2⟩
theorem older_Pr:zes cfPr ltPr zgr:=by
 refine⟨fun {a b c} h1 h2=>?_,fun {x y} ho h=> .inl h,fun {x y} ho h=>?_⟩
 ·rcases h1 with h1| ⟨h1,g1⟩<;>rcases h2 with h2| ⟨h2,g2⟩
  ·exact .inl (cpr_Pr.trans h1 h2)
  ·exact .inl (by rw[←cpr_Pr.eqr h2];exact h1)
  ·exact .inl (by rw[cpr_Pr.eql h1];exact h2)
  ·exact .inr ⟨by rw[cpr_Pr.eql h1];exact h2,oM⟩
 ·have:=cpr_Pr.neg x.1.2 y.1.2;have h':¬za3 y.1.2 x.1.2<0:=h;by_cases h0:za3 x.1.2 y.1.2=0
  ·exact .inr ⟨h0,ho⟩
  ·exact .inl oM
def zeroPr:List Value:=[.slice .none 0 0,.slice .none 0 0]
theorem zmx(w:World):SD 2 (w.alloc (.cells #[.slice .none 0 0,.slice .none 0 0] 254 (0,0))) w.heap.size 254 1 [zeroPr]:=
 ⟨⟨_,[],zam _ _,rfl,rfl⟩,λ x h=>(by rw[yae.1 h];rfl),λ x h v hv=>(by rw[yae.1 h]at hv;simp[zeroPr]at hv;rcases hv with rfl|rfl|rfl|rfl<;>rfl)⟩
def zd2(O:List zaP)(r:zaP):Bool:=match O.getLast? with
 |some x=>decide (za3 x r=0)
 | .none=>false
theorem prs_set{LO:List (List Value)}{O':List zaP}{z m:zaP}{X:List Value}(hj:O'.length=j)(hl:LO.length=j+1)
  (h:∀q (h:q<LO.length) (h':q<(O'++ [z]).length),PairAt S w LO[q] (O'++ [z])[q]) (hX:PairAt S w X m):
  ∀q (h:q<(LO.set j X).length) (h':q<(O'++ [m]).length),PairAt S w (LO.set j X)[q] (O'++ [m])[q]:=by
 intro q h1 h2;by_cases hq:q=j
 ·subst hq;have e1:(LO.set q X)[q]=X:=sM;have e2:(O'++ [m])[q]=m:=by simp[←hj]
  rw[e1,e2];exact hX
 ·have hq2:q<O'.length:=by simp at h2;omega
  have e1:(LO.set j X)[q]=LO[q]'(oM):=ycE oM _;have e2:(O'++ [m])[q]=O'[q]:=yaK hq2;have e3:(O'++ [z])[q]'(by simp;omega)=O'[q]:=yaK hq2;rw[e1,e2,←e3];exact h q oM (by simp;omega)
theorem prs_push{LO:List (List Value)}{O:List zaP}{m:zaP}{X:List Value}(hl:LO.length=O.length)
  (h:∀q (h:q<LO.length) (h':q<O.length),PairAt S w LO[q] O[q]) (hX:PairAt S w X m):
  ∀q (h:q<(LO++ [X]).length) (h':q<(O++ [m]).length),PairAt S w (LO++ [X])[q] (O++ [m])[q]:=by
 intro q h1 h2;by_cases hq:q<LO.length
 ·rw[yaK hq,yaK oM];exact h q hq oM
 ·have hq1:q=LO.length:=by simp at h1;omega
  have e1:(LO++ [X])[q]=X:=by simp[hq1]
  have e2:(O++ [m])[q]=m:=by simp[hq1,hl]
  rw[e1,e2];exact hX
theorem fewPr_ok(w0 w:World)(hE0:Ext w0 w){R:List zaP}(hR:Rows 2 (PairAt S w0) w v R)(hok:∀r∈R,zbB r)(hlen:R.length<=1000000000):
  Fn prog 174 #[v,.func (.func 129) #[] #[],.func (.func 175) #[] #[]] w (λ u w'=>Rows 2 (PairAt S w0) w' u (renF R)/\Ext w w'/\BlkB w.heap.size w' u):=by
 obtain⟨L,hrow,hl,hat⟩:=hR;have hk:∀x∈L,x.length=2:=λ x hx=>by
  obtain⟨i,hi,rfl⟩:=yaG hx;exact(hat i hi oM).len
 have h1:∀x∈L,∀q∈x,one q=true:=λ x hx=>by
  obtain⟨i,hi,rfl⟩:=yaG hx;exact(hat i hi oM).ones
 obtain⟨D,hD⟩:∃D:List PI,D=(L.zip R).zipIdx:=⟨_,rfl⟩;have hDe:D.map encPr=L:=by
  rw[hD];show(List.zipIdx (L.zip R)).map (Prod.fst∘Prod.fst)=L;rw[←ycq,ycG,List.map_fst_zip oM]
 have hDr:D.map (λ x=>x.1.2)=R:=by
  rw[hD];show(List.zipIdx (L.zip R)).map (Prod.snd∘Prod.fst)=R;rw[←ycq,ycG,List.map_snd_zip oM]
 have hDl:D.length=R.length:=by rw[←hDr,ylm]
 have hDo:D.Pairwise zgr:=by
  rw[hD,ycb];intro i j hi hj hij;simp[zgr,hij]
 have hDU:∀x∈D,UPr S w0 x:=λ x hx=>by
  rw[hD]at hx;obtain⟨i,hi,rfl⟩:=yaG hx;have hi':i<R.length:=by simp at hi;omega
  have hi2:i<L.length:=oM;simp only[List.getElem_zipIdx,List.getElem_zip,UPr];exact⟨hat i hi2 hi',hok _ (yac hi')⟩
 refine enx func174 ntmps174 ?_;refine gz0 ?_;refine rq ?_;intro gd K hgd hK;try simp only[go_sem]
 refine yfm (S_pair.Clone_ok hrow hk h1 oM) ?_;rintro vs1 w1 ⟨ho1,hE1⟩;try simp only[go_sem]
 apply hK;refine rqz ?_;intro gd K hgd hK;try simp only[go_sem]
 rw[←hDe]at ho1;refine yfm (S_pair.SortOwn_ok (w0:=w) (cb:=[]) (cmp_Pr hE0) older_Pr (ynl _) hDU hDo ho1 oM hE1) ?_;rintro _ w2 ⟨Z,hp,hs,ho2,hK2⟩;try simp only[go_sem]
 refine en hK ?_;have hE2:Ext w w2:=ykt hE1 rfl (λ i hi=>by have:=(ho1.ge hi).1;omega) hK2;have hE02:=hE0.trans hE2;have hUZ:∀x∈Z,UPr S w0 x:=λ x hx=>hDU x (hp.mem_iff.1 hx);have hZl:=hp.length_eq;obtain⟨aS,cS,rfl,hcs,hget⟩:=ho2.rowK;refine gz0 ?_;rw[ylm]at hcs;simp only[ylm];refine zan (λ m σ ds v=>ds=[]/\∃(i:Nat) (vO:Value) (LO:List (List Value)) (O:List zaP),i+m=Z.length/\σ 18=vi i/\σ 17=vi Z.length/\σ 16= .slice aS Z.length cS/\σ 7=vO/\σ 1= .func (.func 129) #[] #[]/\σ 2= .func (.func 175) #[] #[]/\
  OwnK 2 w2.heap.size v 254 vO LO/\LO.length=O.length/\(∀j (h:j<LO.length) (h':j<O.length),PairAt S w0 LO[j] O[j])/\(∀r∈O,zbB r)/\O.length<=i/\O=zbR za3 fstP (λ x:PI=>x.1.2) (Z.take i) []/\Ext w2 v/\O.Pairwise (λ a b=>za3 a b<0)/\(∀o∈O,∀z∈Z.drop i,¬0<za3 o z.1.2)) Z.length ?_ ?_
 ·refine⟨rfl,0,.slice .none 0 0,[],[],oM,vr0,vq0,vq0,vq0,vq0,vq0,OwnK.nil _ _ _ _,rfl,λ j h=>absurd h (by simp),λ r h=>absurd h (by simp),by simp,rfl,Keep.refl _ _,List.Pairwise.nil,λ o h=>absurd h (by simp)⟩
 rintro m σ ds v ⟨rfl,i,vO,LO,O,him,h18,h17,h16,h7,hs1,hs2,hO,hOl,hOat,hOok,hOi,hOf,hE3,hOs,hOle⟩;refine gz (az2 h18 h17) ?_;refine wc0 ?_ ?_
 ·intro hlt;simp only[ydT]at hlt;have hiZ:i<Z.length:=oM;have hgi:=zac hE3 (hget i (by simpa using hiZ));have hi0:=cj i;have hi1:(i:Int)<(Z.length:Int):=oM;obtain⟨xS,rfl⟩:=yxs (zak hgi);obtain⟨r,hr⟩:∃r,Z[i]=r:=⟨_,rfl⟩;have hUr:UPr S w0 r:=hr▸hUZ _ (yac hiZ);have hgr:zat v (adr (some xS) (i*2)) 2=some r.1.1:=by rw[hgi,yaA,hr];rfl
  refine rqz ?_;intro gd K hgd hK;refine sgz (az5 h18 h16 hi0 hi1 hgr) ?_;refine SD.set (P:=prog) (t:=254) (zmx v) (j:=0) (by simp) hUr.1.len hUr.1.ones rfl rfl ?_;intro v1 hvs1 hL1 hk1;have hX1:=yea v (.cells #[.slice .none 0 0,.slice .none 0 0] 254 (0,0));have hEv:Ext v v1:=ykt hX1 rfl (λ i hi=>oM) hk1;have hvsz:v1.heap.size=v.heap.size+1:=by rw[hvs1];exact zai _ _
  clear hk1 hX1 hvs1;try simp only[go_sem]
  apply hK;have hE4:=hE3.trans hEv;have hO1:=hO.ext hEv;have hg9:=hL1.get (j:=0) (by simp);have hsO:=hO.rowK;obtain⟨aO,cO,hvO,hcO,hgO⟩:=hO1.rowK;rw[hOl]at hvO;refine gz (az2 h7 hvO) ?_;refine zaw (Q:=λ e σ' ds' v'=>e= .normal/\ds'=[]/\σ' 36= .bool (zd2 O r.1.2)/\σ' 18=vi i/\σ' 17=vi Z.length/\σ' 16= .slice (some xS) Z.length cS/\σ' 7= .slice aO O.length cO/\σ' 1= .func (.func 129) #[] #[]/\σ' 2= .func (.func 175) #[] #[]/\
   σ' 9= .pointer (some ⟨v.heap.size,0,.none⟩)/\σ' 10=vi O.length/\Ext v1 v') ?_ ?_
  ·rcases ybk O with hO0| ⟨O',z,hO0⟩
   ·have hn:¬((0:Int)<(O.length:Int)):=by rw[hO0];simp
    have hal:zd2 O r.1.2=false:=by rw[hO0];rfl
    refine zaF (λ _=>false) [(0,true),(1,true),(2,true),(3,true),(4,true),(5,true),(6,true),(7,true),(8,true),(9,true),(10,false),(11,true),(12,true)] NoS mixed kR ?_;intro gd K x hgd hx hxe hK;clear hxe;have hg2:=gk 2 26 hgd rfl;simp (disch:=first|omega|assumption|rfl) only[go_sem,h18,h17,h16,h7,hvO,hs1,hs2,yef hn,↓hg2];apply hK;exact⟨rfl,rfl,by rw[hal];simp only[go_sem],vq1 h18,vq1 h17,vq1 h16,vq2 h7 hvO,vq1 hs1,vq1 hs2,vq0,vq0,hx⟩
   ·rw[ybq]at hO0;obtain⟨j,hj⟩:∃j,O'.length=j:=⟨_,rfl⟩;have hOj:O.length=j+1:=by rw[hO0];simp[hj]
    have hn:decide ((0:Int)<((j+1:Nat):Int))=true:=yet oM;have hs:((j+1:Nat):Int) - 1=(j:Int):=oM;have hj0:=cj j;have hj1:(j:Int)<((j+1:Nat):Int):=oM;have hal:zd2 O r.1.2=decide (za3 z r.1.2=0):=by unfold zd2;rw[hO0];simp
    have hgj:=hgO j oM;have hRj:=hOat j oM oM;have hxj:O[j]'(oM)=z:=by simp only[hO0,←hj];simp
    rw[hxj]at hRj;have hokx:zbB z:=hOok z (by rw[hO0];simp);obtain⟨xO,rfl⟩:=yxs (zak hgj);obtain⟨cx,hcx⟩:∃cx,LO[j]'(oM)=cx:=⟨_,rfl⟩;rw[hcx]at hgj hRj;rw[hOj]at hvO ⊢;refine zaF (λ _=>false) [(0,true),(1,true),(2,true),(3,true),(4,true),(5,true),(6,true),(7,true),(8,true),(9,true),(10,false),(11,true),(12,true)] NoS mixed kR ?_;intro gd K x hgd hx hxe hK;clear hxe;have hg2:=gk 2 26 hgd rfl;have d1:=zac hx hgj;have d2:=zac hx hg9;simp (disch:=first|omega|assumption|rfl) only[go_sem,h18,h17,h16,h7,hvO,hs1,hs2,hn,hs,hj0,hj1,d1,d2,hOj,↓hg2];refine yfm (zfJ x cx r.1.1 z r.1.2 (hRj.ext ((hE02.trans hE4).trans hx)) (hUr.1.ext ((hE02.trans hE4).trans hx)) hokx hUr.2) ?_;rintro _ x2 ⟨rfl,hx2⟩;refine⟨.inr hx2,?_⟩;simp (disch:=first|omega|assumption|rfl) only[go_sem,↓hg2];apply hK;exact⟨rfl,rfl,by rw[hal];simp only[go_sem],vq1 h18,vq1 h17,vq1 h16,vq2 h7 hvO,vq1 hs1,vq1 hs2,vq0,vq0,hx.trans hx2⟩
  rintro _ σ2 _ v2 ⟨rfl,rfl,g36,g18,g17,g16,g7,gs1,gs2,g9,g10,hE5⟩;have hE6:=hE4.trans hE5;have hO2:=hO1.ext hE5;have hg92:=zac hE5 hg9;have hi1':=ci i;have htk:Z.take (i+1)=Z.take i++ [r]:=by rw[zal hiZ,hr]
  have hf1:zbR za3 fstP (λ x:PI=>x.1.2) (Z.take (i+1)) []=putC za3 fstP r.1.2 O:=by
   rw[htk,hOf];unfold zbR;rw[ybI];rfl
  have hdr:Z.drop i=r::Z.drop (i+1):=by rw[yag hiZ,hr]
  have hn1:(putC za3 fstP r.1.2 O).Pairwise (λ a b=>za3 a b<0):=zcd cpr_Pr znq hOs;have hn2:∀o∈putC za3 fstP r.1.2 O,∀z∈Z.drop (i+1),¬0<za3 o z.1.2:=by
   refine zc0 (Q:=λ o=>∀z∈Z.drop (i+1),¬0<za3 o z.1.2) (λ x hx h0 z hz=>?_) (λ z hz=>?_) (λ o ho z hz=>hOle o ho z (by rw[hdr];exact yak _ hz))
   ·have e1:za3 (fstP x r.1.2) z.1.2=za3 x z.1.2:=rfl;rw[e1];exact hx z hz
   ·have h3:=List.Pairwise.sublist (ydm i Z) hs;rw[hdr]at h3;have h4:=(yaM.1 h3).1 z hz;rcases h4 with h4|h4
    ·omega
    ·omega
  have hn3:∀o∈putC za3 fstP r.1.2 O,zbB o:=zc0 (λ x hx _=>hx) hUr.2 hOok;repeat refine c_r ?_
  refine zaG (t:=zd2 O r.1.2) (by simp only[go_sem,g36]) ?_ ?_
  ·intro hal;rcases ybk O with hO0| ⟨O',z,hO0⟩
   ·rw[hO0]at hal;simp[zd2]at hal
   rw[ybq]at hO0;have hz0:za3 z r.1.2=0:=by unfold zd2 at hal;rw[hO0]at hal;simpa using hal
   obtain⟨j,hj⟩:∃j,O'.length=j:=⟨_,rfl⟩;have hOj:O.length=j+1:=by rw[hO0];simp[hj]
   have hs:((j+1:Nat):Int) - 1=(j:Int):=oM;have hj0:=cj j;have hj1:(j:Int)<((j+1:Nat):Int):=oM;have hRj:=hOat j oM oM;have hxj:O[j]'(oM)=z:=by simp only[hO0,←hj];simp
   rw[hxj]at hRj;have hokz:zbB z:=hOok z (by rw[hO0];simp);obtain⟨cx,hcx⟩:∃cx,LO[j]'(oM)=cx:=⟨_,rfl⟩;rw[hcx]at hRj;rw[hOj]at hvO g10 g7;rcases hO2.cases with ⟨hv0,h0⟩| ⟨b,cap,hvb,hbB,hbc,hbm,hSD⟩
   ·rw[h0]at hOl;simp at hOl;omega
   rw[hvO,hOl,hOj]at hvb;have hao:aO=some ⟨b,0,.none⟩:=by injection hvb
   have hcap:cO=cap:=by injection hvb
   subst hao hcap;have hdj:=hSD.get (j:=j) oM;rw[hcx]at hdj;repeat refine c_r ?_
   refine zaF (λ i=>i==12) [(0,true),(1,true),(2,true),(3,true),(4,true),(5,true),(6,true),(7,true),(8,true),(9,true),(10,false),(11,true),(12,false)] NoS mixed kR ?_;intro gd K x hgd hx hxe hK;clear hxe;have d1:=zac hx hdj;have d2:=zac hx hg92;refine sgz (az2 (az7 g7 g10 gs2 g9 hs hj0 hj1) (az2 d1 d2)) ?_;refine yfm (FewF_ok x cx r.1.1 z r.1.2 (hRj.ext ((hE02.trans hE6).trans hx)) (hUr.1.ext ((hE02.trans hE6).trans hx))) ?_;rintro _ v3 ⟨rfl,hE7⟩;refine⟨.inr hE7,?_⟩;refine sgz (az5 g7 g10 hs hj0 hj1) ?_;have hSD3:=(hSD.ext hx).ext hE7;have hRm:PairAt S w0 cx (fstP z r.1.2):=hRj;refine SD.set (P:=prog) (t:=254) hSD3 (j:=j) oM hRm.len hRm.ones rfl rfl ?_;intro v4 hv4 hL4 hk4;refine⟨.inl rfl,?_⟩;refine sg0 ?_;apply hK;have hE8:Ext w2 v4:=ykt ((hE6.trans hx).trans hE7) rfl (λ i hi=>oM) hk4;refine gz (az2 g18 hi1') ?_;have hO4:=OwnK.of_sd (B:=w2.heap.size) hL4 hbB (by rw[ybA];exact hbc) hbm;have hLl:LO.length=j+1:=oM;rw[ybA,hLl]at hO4;have hput:putC za3 fstP r.1.2 O=O'++ [fstP z r.1.2]:=by
    rw[hO0]at hOs hOle ⊢;rw[zfR cpr_Pr hOs oM,if_pos hz0]
   rw[hput]at hn1 hn2 hn3;subst hO0;refine⟨m - 1,oM,rfl,i+1,.slice (some ⟨b,0,.none⟩) (j+1) cO,_,O'++ [fstP z r.1.2],oM,vq0,vq1 g17,vq1 g16,vq1 g7,by simp only[go_sem,gs1],by simp only[go_sem,gs2],hO4,by simp[hLl,hj],prs_set hj hLl hOat hRm,hn3,by simp at hOi ⊢;omega,by rw[hf1,hput],hE8,hn1,hn2⟩
  ·intro hal;have hput:putC za3 fstP r.1.2 O=O++ [r.1.2]:=by
    rcases ybk O with hO0| ⟨O',z,hO0⟩
    ·rw[hO0];rfl
    ·rw[ybq]at hO0;have hz0:¬za3 z r.1.2=0:=by unfold zd2 at hal;rw[hO0]at hal;simpa using hal
     have hle:=hOle z (by rw[hO0];simp) r (by rw[hdr];simp);rw[hO0]at hOs ⊢;rw[zfR cpr_Pr hOs hle,if_neg hz0];simp
   rw[hput]at hn1 hn2 hn3;rw[hvO]at hO2;refine rqz ?_;intro gd K hgd hK;refine sgz (az3 g7 g9 hg92) ?_;refine zj7 (k:=2) (by rfl) (by rfl) (by rfl) (by rfl) hUr.1.len (by decide) hUr.1.ones ?_;intro x1 hX1 hXs hXo;try simp only[go_sem]
   refine zgq (k:=2) (B:=w2.heap.size) (hO2.ext hX1) hXo.rowK (by rfl) (by rfl) (by rfl) (by rfl) (by rfl) (by rfl) (by decide) (by rfl) (by rfl) hXo.len hXo.ones (by simp;omega) (by decide) (hE6.trans hX1).size ?_;intro vO' x2 hO3 hE7 _ _ _;try simp only[go_sem]
   apply hK;refine gz (az2 g18 hi1') ?_;refine⟨m - 1,oM,rfl,i+1,vO',_,O++ [r.1.2],oM,vq0,vq1 g17,vq1 g16,vq0,by simp only[go_sem,gs1],by simp only[go_sem,gs2],hO3,by simp[hOl],prs_push hOl hOat hUr.1,hn3,by simp;omega,by rw[hf1,hput],hE7 w2 (hE6.trans hX1) (ynl _),hn1,hn2⟩
 ·intro hlt;simp only[ydF]at hlt;have hiZ:i=Z.length:=oM;refine rqz ?_;intro gd K hgd hK;refine sgz h7 ?_;obtain⟨aO,cO,hvO,hcO,hgO⟩:=hO.rowK;have hblk:BlkB w2.heap.size v vO:=Owns.blk (C:=PairAt S w0) (xs:=O) ⟨LO,hO,hOl,hOat⟩;rw[hvO]at hblk;rw[hvO];refine yfm (P_pp.Clip_ok hcO) ?_;rintro _ v1 ⟨rfl,hv1⟩;try simp only[go_sem]
  refine en hK ?_;have hfin:O=renF R:=by
   rw[hOf,hiZ,yaT,zdR (jn:=fstP) cpr_Pr znq (lt:=ltPr) (older:=zgr) (λ h=>h.imp id (λ h=>h.2)) (fun {a b} h h'=>by unfold zgr at h h';omega) D Z [] hDo hs hp List.Pairwise.nil];unfold renF zbR;rw[←hDr,List.foldl_map]
  refine rt0 ntmps174 ?_;rw[hv1];rw[←hfin];exact⟨⟨LO,⟨aO,LO.length,rfl,ynl _,hgO⟩,hOl,hOat⟩,hE2.trans hE3,hblk.same.mono hE2.size⟩
structure RenZ(S:Nat->Prop)(w:World)(v:Value)(ren:List zaP):Prop where
 rows:Rows 2 (PairAt S w) w v ren
 blk:∀a n c,v= .slice (some a) n c->a.block<w.heap.size/\¬S a.block
theorem RenZ.turn{S':Nat->Prop}{ren:List zaP}(h:RenZ S w v ren)(hk:Keep S w x)(hS:∀b,S' b->S b\/w.heap.size<=b):RenZ S' x v ren:=by
 have hs:=hk.size;refine⟨(h.rows.blocks λ a n c hv=>hk.block _ (h.blk a n c hv).1 (h.blk a n c hv).2).to λ cs p hp=>hp.turn hk hS,λ a n c hv=>?_⟩;obtain⟨h1,h2⟩:=h.blk a n c hv;exact⟨oM,λ h=>by
  rcases hS _ h with h|h
  ·exact h2 h
  ·omega⟩
theorem FewPr_ok(w0 w:World)(hE0:Ext w0 w){R:List zaP}(hR:Rows 2 (PairAt S w0) w v R)(hok:∀r∈R,zbB r)(hlen:R.length<=1000000000):
  Fn prog 128 #[v,.func (.func 129) #[] #[]] w (λ u w'=>Rows 2 (PairAt S w0) w' u (renF R)/\Ext w w'/\BlkB w.heap.size w' u):=by
 obtain⟨a,c,hv,_⟩:=hR.open;refine enx func128 ntmps128 ?_;refine cZ ?_;rw[hv];refine rg0 ?_;rw[←hv];refine cZ ?_;refine rc trivial (fewPr_ok w0 w hE0 hR hok hlen) ?_;rintro u w1 ⟨h1,h2,h3⟩;refine re trivial ?_;refine cZ ?_;refine rt0 ntmps128 ?_;exact⟨h1,h2,h3⟩
def renO(r:RecL):Option zaP:=if r.dat.ty=39 then r.dat.names.head?.map λ n=>(zag r.owner,zag n) else .none
def renZ(z:zcr):List zaP:=z.recs.filterMap renO
def renH(h:zd5):List zaP:=h.zones.flatMap renZ
def zcZ(N:NetL):List zaP:=N.hosts.flatMap renH
def renN(N:NetL):List zaP:=renF (zcZ N)
theorem zhK{Q:zaP->Prop}{l:List zaP}(h:∀p∈l,Q p):∀p∈renF l,Q p:=by
 unfold renF zbR
 suffices hs:∀(l acc:List zaP),(∀p∈l,Q p)->(∀p∈acc,Q p)->∀p∈l.foldl (λ acc r=>putC za3 fstP r acc) acc,Q p from hs l [] h (λ p hp=>by cases hp)
 intro l
 induction l with
 |nil=>exact λ acc _ h=>h
 |cons a l ih=>exact λ acc h1 h2=>ih _ (λ p hp=>h1 p (yak _ hp)) (zc0 (λ x hx _=>hx) (h1 a (yal ..)) h2)
theorem zhJ{l:List zaP}:(renF l).length<=l.length:=by
 unfold renF zbR
 suffices hs:∀(l acc:List zaP),(l.foldl (λ acc r=>putC za3 fstP r acc) acc).length<=acc.length+l.length from by have:=hs l [];simpa using this
 have hp:∀(r:zaP) (acc:List zaP),(putC za3 fstP r acc).length<=acc.length+1:=by
  intro r acc
  induction acc with
  |nil=>simp[putC]
  |cons x l ih=>
   unfold putC
   split
   ·simp only[yah];omega
   ·split<;>simp
 intro l
 induction l with
 |nil=>intro acc;simp
 |cons a l ih=>
  intro acc;rw[yce,yah];have h1:=ih (putC za3 fstP a acc);have h2:=hp a acc;omega
theorem renO_ok{r:RecL}{p:zaP}(h1:zaC r.owner=0)(h2:∀n∈r.dat.names,zaC n=0)(h:renO r=some p):zbB p:=by
 unfold renO at h
 split at h
 ·cases hn:r.dat.names.head? with
  |none=>rw[hn]at h;cases h
  |some n=>
   rw[hn]at h;cases h;exact⟨(za9 h1).fold,(za9 (h2 n (List.mem_of_head? hn))).fold⟩
 ·cases h
theorem zeM(hG:zaO N):∀p∈zcZ N,zbB p:=by
 intro p hp;unfold zcZ renH renZ at hp;obtain⟨h,hh,hp⟩:=yaY.1 hp;obtain⟨z,hz,hp⟩:=yaY.1 hp;obtain⟨r,hr,hp⟩:=yaZ.1 hp;have gz:=(hG.z.z h hh z hz).gd;exact renO_ok (gz.own r hr) (gz.names r hr) hp
theorem zd7(hG:zaO N):(zcZ N).length<=2000:=by
 have h3:∀x∈N.hosts,∀z∈x.zones,(renZ z).length<=60:=λ x hx z hz=>by
  have:=(hG.z.z x hx z hz).gd.len;have:=yaW renO z.recs;unfold renZ;omega
 have h4:∀x∈N.hosts,(renH x).length<=240:=λ x hx=>by
  have h1:=ziX (l:=x.zones) (f:=renZ) (k:=60) (h3 x hx);have:=hG.zl x hx;unfold renH;omega
 have h5:=ziX (l:=N.hosts) (f:=renH) (k:=240) h4;have:=hG.h1.2;unfold zcZ;omega
def RO(S:Nat->Prop)(B:Nat)(v:World)(ov:Value)(xs:List zaP):Prop:=Owns 2 (PairAt (λ b=>S b\/some b=ov.ownBlock) v) B v 254 ov xs
theorem RO.ext{v:World}{ov:Value}{xs:List zaP}(h:RO S B v ov xs)(hE:Ext v x):RO S B x ov xs:=(Owns.ext h hE).to λ _ _ h=>h.ext hE
theorem zl5(hE0:Ext w0 w)(hS:∀b,S b->b<w.heap.size)(hN:NetAt w0 cs N)(hG:zaO N):
  Fn prog 92 #[.agg cs.toArray] w (λ v w'=>Ext w w'/\RenZ S w' v (renN N)):=by
 obtain⟨hv,rv,rfl,hh,hr⟩:=hN.ex;obtain⟨ah,ch,hhv,hch,hgh⟩:=hh.open;obtain⟨ar,cr,hrv,_⟩:=id hr;have hl6:=hG.h1.2;have hall:=zd7 hG;refine enx func92 ntmps92 ?_;repeat refine c_r ?_
 rw[hhv,hrv];refine rg0 ?_;rw[←hrv];repeat refine c_r ?_
 refine zav ?_;intro w1 hE1 hs1 hA;have pn:zad w1 (some ⟨w.heap.size,0,.none⟩)=some (.slice ah N.hosts.length ch):=zab hA rfl;have hE01:=hE0.trans hE1;repeat refine c_r ?_
 refine rg0 ?_;repeat refine c_r ?_
 refine rg2 pn yad ?_;repeat refine c_r ?_
 refine zan (λ m σ ds v=>ds=[]/\∃(i:Nat) (ov:Value) (xs:List zaP),i+m=N.hosts.length/\σ 13=vi i/\σ 12=vi N.hosts.length/\σ 11= .slice ah N.hosts.length ch/\σ 3=ov/\Ext w1 v/\RO S w1.heap.size v ov xs/\zcZ N=xs++(N.hosts.drop i).flatMap renH) N.hosts.length ?_ ?_
 ·exact⟨rfl,0,.slice .none 0 0,[],oM,vr0,vq0,vq0,vq0,Keep.refl _ _,Owns.nil _ _ _ _ _,rfl⟩
 rintro m σ ds v ⟨rfl,i,ov,xs,him,s13,s12,s11,s3,hEv,hRO,hbe⟩;repeat refine c_r ?_
 refine rg2 s13 s12 ?_;repeat refine c_r ?_
 refine wc0 ?_ ?_
 ·intro hlt;simp only[ydT]at hlt;have hi:i<N.hosts.length:=oM;have hi0:=cj i;have hi1':=ci i;obtain⟨hcs,hce,hH⟩:=hgh i hi;have hmem:=yac hi;rw[zby hi]at hbe;obtain⟨h,hhe⟩:∃x,N.hosts[i]=x:=⟨_,rfl⟩;rw[hhe]at hH hmem hbe;obtain⟨nv,b1,b2,b3,b4,zv,rfl,_,hnv,hz⟩:=hH.ex;obtain⟨az,cz,rfl,hcz,hgz⟩:=hz.open;have hzl:=hG.zl h hmem;obtain⟨xa,rfl⟩:=yxs (zak hce);obtain⟨xi,hxi⟩:∃xi,adr (some xa) (i*6)=some xi:=⟨_,rfl⟩;rw[hxi]at hce;have d:=zac (hE01.trans hEv) hce;have n1:=hnv.isOne;repeat refine c_r ?_
  refine rq ?_;intro gd K hgd hK;try simp (disch:=first|omega|assumption|rfl) only[go_sem,s13,s11,hi0,hlt,hxi,d]
  refine zaV (P:=prog) (l:=[nv,zae b1,zae b2,zae b3,zae b4,.slice az h.zones.length cz]) rfl (λ q hq=>by simp at hq;rcases hq with rfl|rfl|rfl|rfl|rfl|rfl<;>first|exact n1|rfl) rfl rfl ?_;intro v1 hE2 hs2 hB4;try simp only[go_sem]
  refine hK _ _ ?_;clear hK hgd;clear K;try clear gd
  obtain⟨c4,hc4⟩:∃b,v.heap.size=b:=⟨_,rfl⟩;rw[hc4]at hB4 hs2 ⊢;have q5:zad v1 (some ⟨c4,5,.none⟩)=some (.slice az h.zones.length cz):=zab hB4 rfl;obtain⟨R1,hR1⟩:∃R,(N.hosts.drop (i+1)).flatMap renH=R:=⟨_,rfl⟩;rw[hR1]at hbe;unfold renH at hbe;repeat refine c_r ?_
  refine rg2 q5 yn0 ?_;repeat refine c_r ?_
  refine zan (λ m σ ds v=>ds=[]/\∃(k:Nat) (ov:Value) (xs:List zaP),k+m=h.zones.length/\σ 20=vi k/\σ 19=vi h.zones.length/\σ 18= .slice az h.zones.length cz/\σ 13=vi i/\σ 12=vi N.hosts.length/\σ 11= .slice (some xa) N.hosts.length ch/\σ 3=ov/\Ext w1 v/\RO S w1.heap.size v ov xs/\zcZ N=xs++((h.zones.drop k).flatMap renZ++R1)) h.zones.length ?_ ?_
  ·exact⟨rfl,0,ov,xs,oM,vr0,vq0,vq0,vq1 s13,vq1 s12,vq1 s11,vq1 s3,hEv.trans hE2,hRO.ext hE2,hbe⟩
  clear s13 s12 s11 s3 hRO hbe d q5 hB4 hce hE2 hs2;rintro m2 σ2 ds2 v2 ⟨rfl,k,ov2,xs2,hkm,s20,s19,s18,s13,s12,s11,s3,hEv2,hRO,hbe⟩;repeat refine c_r ?_
  refine rg2 s20 s19 ?_;repeat refine c_r ?_
  refine wc0 ?_ ?_
  ·intro hlt2;simp only[ydT]at hlt2;have hk:k<h.zones.length:=oM;have hk0:=cj k;have hk1':=ci k;obtain⟨zcs,hze,hZ⟩:=hgz k hk;have hzmem:=yac hk;rw[zby hk,yla]at hbe;obtain⟨z,hzz⟩:∃x,h.zones[k]=x:=⟨_,rfl⟩;rw[hzz]at hZ hzmem hbe;obtain⟨zo,lv,rfl,hov,hlv⟩:=hZ.ex;obtain⟨al,cl,rfl,hcl,hgl⟩:=hlv.open;have gz:=(hG.z.z h hmem z hzmem).gd;have hrl:=gz.len;obtain⟨xz,rfl⟩:=yxs (zak hze);obtain⟨xk,hxk⟩:∃xi,adr (some xz) (k*2)=some xi:=⟨_,rfl⟩;rw[hxk]at hze;have d:=zac (hE01.trans hEv2) hze;have o1:=hov.isOne;repeat refine c_r ?_
   refine rq ?_;intro gd K hgd hK;try simp (disch:=first|omega|assumption|rfl) only[go_sem,s20,s18,hk0,hlt2,hxk,d]
   refine zaV (P:=prog) (l:=[zo,.slice al z.recs.length cl]) rfl (za7 o1 rfl) rfl rfl ?_;intro v3 hE3 hs3 hB6;try simp only[go_sem]
   refine hK _ _ ?_;clear hK hgd;clear K;try clear gd
   obtain⟨c6,hc6⟩:∃b,v2.heap.size=b:=⟨_,rfl⟩;rw[hc6]at hB6 hs3 ⊢;have q1:zad v3 (some ⟨c6,1,.none⟩)=some (.slice al z.recs.length cl):=zab hB6 rfl;obtain⟨R2,hR2⟩:∃R,(h.zones.drop (k+1)).flatMap renZ++R1=R:=⟨_,rfl⟩;rw[hR2]at hbe;unfold renZ at hbe;repeat refine c_r ?_
   refine rg2 q1 yn0 ?_;repeat refine c_r ?_
   refine zan (λ m σ ds v=>ds=[]/\∃(j:Nat) (ov:Value) (xs:List zaP),j+m=z.recs.length/\σ 27=vi j/\σ 26=vi z.recs.length/\σ 25= .slice al z.recs.length cl/\σ 20=vi k/\σ 19=vi h.zones.length/\σ 18= .slice (some xz) h.zones.length cz/\σ 13=vi i/\σ 12=vi N.hosts.length/\σ 11= .slice (some xa) N.hosts.length ch/\σ 3=ov/\Ext w1 v/\RO S w1.heap.size v ov xs/\zcZ N=xs++((z.recs.drop j).filterMap renO++R2)) z.recs.length ?_ ?_
   ·exact⟨rfl,0,ov2,xs2,oM,vr0,vq0,vq0,vq1 s20,vq1 s19,vq1 s18,vq1 s13,vq1 s12,vq1 s11,vq1 s3,hEv2.trans hE3,hRO.ext hE3,hbe⟩
   clear s20 s19 s18 s13 s12 s11 s3 hRO hbe d q1 hB6 hze hE3 hs3;rintro m3 σ3 ds3 v4 ⟨rfl,j,ov3,xs3,hjm,s27,s26,s25,s20,s19,s18,s13,s12,s11,s3,hEv4,hRO,hbe⟩;repeat refine c_r ?_
   refine rg2 s27 s26 ?_;repeat refine c_r ?_
   refine wc0 ?_ ?_
   ·intro hlt3;simp only[ydT]at hlt3;have hj:j<z.recs.length:=oM;have hj0:=cj j;have hj1':=ci j;obtain⟨rcs,hre,hR⟩:=hgl j hj;have hrmem:=yac hj;rw[yag hj]at hbe;obtain⟨r,hrr⟩:∃x,z.recs[j]=x:=⟨_,rfl⟩;rw[hrr]at hR hrmem hbe;have hrone:=hR.ones;obtain⟨ow,ds,rfl,how,hD⟩:=hR.ex;obtain⟨nm,nu,tx,rw',rfl,⟨vals,hvr,hvl,hvn⟩,_,_,_⟩:=hD.ex;obtain⟨xr,rfl⟩:=yxs (zak hre);obtain⟨xj,hxj⟩:∃xi,adr (some xr) (j*7)=some xi:=⟨_,rfl⟩;rw[hxj]at hre;have hE0v:=hE01.trans hEv4;have d:=zac hE0v hre;have n8:=(gz.few r hrmem).2.n8;obtain⟨an,cn,hnm,hcn,hgn⟩:=id hvr;repeat refine c_r ?_
    refine rq ?_;intro gd K hgd hK;try simp (disch:=first|omega|assumption|rfl) only[go_sem,s27,s25,hj0,hlt3,hxj,d]
    refine zaV (P:=prog) rfl hrone rfl rfl ?_;intro v5 hE5 hs5 hB8;try simp only[go_sem]
    refine hK _ _ ?_;clear hK hgd;clear K;try clear gd
    obtain⟨c8,hc8⟩:∃b,v4.heap.size=b:=⟨_,rfl⟩;rw[hc8]at hB8 hs5 ⊢;have q0:zad v5 (some ⟨c8,0,.none⟩)=some ow:=zab hB8 rfl;have q2:zad v5 (some ⟨c8,2,.none⟩)=some (vi r.dat.ty):=zab hB8 rfl;have q3:zad v5 (some ⟨c8,3,.none⟩)=some nm:=zab hB8 rfl;rw[hnm]at q3;have hRO5:=hRO.ext hE5;have hE05:=hE0v.trans hE5;have hEv5:=hEv4.trans hE5;by_cases e39:r.dat.ty=39
    ·rcases hnames:r.dat.names with _| ⟨n0,ns⟩
     ·have hv0:vals.length=0:=by rw[hvl,hnames];rfl
      have hro:renO r= .none:=by unfold renO;rw[if_pos e39,hnames];rfl
      rw[ycJ hro]at hbe;repeat refine c_r ?_
      refine rgg [(4,35)] (an6 q2 yad yn0 (yet e39) q3 (show decide ((vals.length:Int)>0)=false from yef oM)) ?_;repeat refine c_r ?_
      refine wf trivial ?_;repeat refine c_r ?_
      refine rg2 s27 hj1' ?_;repeat refine c_r ?_
      exact⟨m3 - 1,oM,rfl,j+1,ov3,xs3,oM,vq0,vq1 s26,vq1 s25,vq1 s20,vq1 s19,vq1 s18,vq1 s13,vq1 s12,vq1 s11,vq1 s3,hEv5,hRO5,hbe⟩
     ·have hv0:0<vals.length:=by rw[hvl,hnames];simp
      have hro:renO r=some (zag r.owner,zag n0):=by unfold renO;rw[if_pos e39,hnames];rfl
      rw[List.filterMap_cons_some hro]at hbe;have hn0:Row w0 (vals[0]'hv0) (n0.map vs):=by
       have:=hvn 0 hv0 (by rw[hnames];simp);simpa only[hnames,List.getElem_cons_zero] using this
      obtain⟨y0,hy0⟩:∃y,vals[0]'hv0=y:=⟨_,rfl⟩;have g0:=hgn 0 hv0;obtain⟨xn,rfl⟩:=yxs (zaf g0);rw[zar,hy0]at g0;rw[hy0]at hn0;have ko:=(za9 (gz.own r hrmem));have kn:=(za9 (gz.names r hrmem n0 (by rw[hnames];simp)));have lo1:=ko.len;have ln1:=kn.len;have hv0i:(0:Int)<(vals.length:Int):=oM;repeat refine c_r ?_
      refine rgg [(4,35)] (an6 q2 yad yn0 (yet e39) q3 (show decide ((vals.length:Int)>0)=true from yet oM)) ?_;repeat refine c_r ?_
      refine wt trivial ?_;repeat refine c_r ?_
      have hgo:∀{b},some b=ov3.ownBlock->w1.heap.size<=b/\b<c8:=fun {b} hb=>by have:=hRO.ge hb;omega
      have hxnb:xn.block<w1.heap.size:=by
       have h1:xn.block<w0.heap.size:=zc9 g0;have:=hE01.size;omega
      refine zaF (λ _=>false) [(0,true),(1,true),(2,true),(4,true),(5,true),(6,true),(7,true),(8,true),(3,false),(9,false),(10,true),(11,false),(12,false),(13,true)] ((λ i=>some i=ov3.ownBlock)) mixed kR ?_;intro gd K x hgd hx hxe hK;have hx0:=zgH hxe;clear hxe;have q0x:=zaa hx0 q0;have q3x:=zaa hx0 q3;have hE0x:=hE05.trans hx0;have g0x:=zaa hE0x g0;have hzx:=hx0.size;simp (disch:=first|omega|assumption|rfl) only[go_sem,s3,q0x,q3x,g0x,hv0i,yad,yn0,ybj,zar,ybc];have o8:∀k,offS (λ i=>some i=ov3.ownBlock) (some ⟨c8,k,.none⟩):=λ k a ha hb=>by cases ha;dsimp only at hb;have:=(hgo hb).2;omega
      have ox:offS (λ i=>some i=ov3.ownBlock) (some xn):=λ a ha hb=>by cases ha;have:=(hgo hb).1;omega
      refine⟨o8 _,o8 _,ox,?_⟩;refine yfm (zik x ow r.owner (how.ext hE0x) ko.LB oM) ?_;rintro f1 z1 ⟨hf1,hz1⟩;refine⟨.inr hz1.keep,?_⟩;have q3y:=zaa hz1 q3x;have g0y:=zaa hz1 g0x;simp (disch:=first|omega|assumption|rfl) only[go_sem,s3,q3y,g0y,hv0i,yad,yn0,ybj,zar,ybc];refine yfm (zik z1 y0 n0 (hn0.ext (hE0x.trans hz1)) kn.LB oM) ?_;rintro f2 z2 ⟨hf2,hz2⟩;refine⟨.inr hz2.keep,?_⟩;obtain⟨af1,cf1,hf1e,_⟩:=id hf1.1;obtain⟨af2,cf2,hf2e,_⟩:=id hf2.1;obtain⟨S1,hS1⟩:∃S1:Nat->Prop,(λ b=>S b\/some b=ov3.ownBlock)=S1:=⟨_,rfl⟩;have hRO5':=hRO5;unfold RO at hRO5';rw[hS1]at hRO5';have hS1x:∀b,S1 b->b<x.heap.size:=λ b hb=>by
       rw[←hS1]at hb;have hzv:=hEv5.size;rcases hb with hb|hb
       ·have:=hS b hb;omega
       ·have:=(hRO5.ge hb).2;omega
      have hp2:PairAt S1 z2 [f1,f2] (zag r.owner,zag n0):=⟨f1,f2,rfl,(RowZ.of_base hf1 (yba _) hS1x).ext hz2,RowZ.of_base hf2 (yba _) (λ b hb=>by have:=hS1x b hb;have:=hz1.size;omega)⟩;simp (disch:=first|omega|assumption|rfl) only[go_sem,s3];refine⟨by kernel_rfl,?_⟩;rw[hf1e,hf2e,show bdV prog 254 [(0,.slice af1 ((zag r.owner).map vs).length cf1),(1,.slice af2 ((zag n0).map vs).length cf2)]=some (.agg #[.slice af1 ((zag r.owner).map vs).length cf1,.slice af2 ((zag n0).map vs).length cf2]) from by kernel_rfl,←hf1e,←hf2e];simp (disch:=first|omega|assumption|rfl) only[go_sem,s3];refine za4 (C:=PairAt S1 z2) ⟨λ h=>h.len,λ h=>h.ones⟩ (l:=[f1,f2]) (a:=(zag r.owner,zag n0)) (by rfl) (by rfl) (by rfl) (by rfl) hp2 (by decide) ?_;intro z3 hz3 hsz3 hO3;refine⟨.inr hz3.keep,?_⟩;simp (disch:=first|omega|assumption|rfl) only[go_sem,s3];have hxz:=(hx0.trans hz1).trans (hz2.trans hz3);have hO4:Owns 2 (PairAt S1 z3) w1.heap.size z3 254 ov3 xs3:=(Owns.ext hRO5' hxz).to λ _ _ h=>h.ext hxz;refine zaR (C:=PairAt S1 z3) ⟨λ h=>h.len,λ h=>h.ones⟩ hO4 (hO3.rows.to λ _ _ h=>h.ext hz3) (by rfl) (by rfl) (by rfl) (by rfl) (by rfl) (by rfl) (by decide) vr0 vr0 (by
       have:=congrArg List.length hbe;simp only[yab,yah,ybe]at this ⊢;omega) (by decide) (by have:=(hEv5.trans hxz).size;omega) ?_
      intro ov4 v7 hO7 hE7 hk7 hb7;have hzw:=(hEv5.trans hxz).size;have hE17:Ext w1 v7:=hE7 w1 (hEv5.trans hxz) (ynl _);have hRO7:RO S w1.heap.size v7 ov4 (xs3++ [(zag r.owner,zag n0)]):=hO7.to λ _ _ h=>h.turn (hk7.mono λ b _ hb=>by rw[←hS1];exact .inr hb) (λ b hb=>by
       rw[←hS1];rcases hb with hb|hb
       ·exact .inl (.inl hb)
       ·rcases hb7 b hb with hb|hb
        ·exact .inl (.inr hb)
        ·exact .inr hb)
      refine⟨.inr hk7,?_⟩;simp (disch:=first|omega|assumption|rfl) only[go_sem,s3];refine hK _ _ ?_;clear hK hgd;clear K;try clear gd
      repeat refine c_r ?_
      refine rg2 s27 hj1' ?_;repeat refine c_r ?_
      exact⟨m3 - 1,oM,rfl,j+1,ov4,_,oM,vq0,vq1 s26,vq1 s25,vq1 s20,vq1 s19,vq1 s18,vq1 s13,vq1 s12,vq1 s11,vq0,hE17,hRO7,by rw[hbe];simp⟩
    ·have hro:renO r= .none:=by unfold renO;rw[if_neg e39]
     rw[ycJ hro]at hbe;repeat refine c_r ?_
     refine rgg [(4,35)] (an4 q2 yad yn0 (yef e39)) ?_;repeat refine c_r ?_
     refine wf trivial ?_;repeat refine c_r ?_
     refine rg2 s27 hj1' ?_;repeat refine c_r ?_
     exact⟨m3 - 1,oM,rfl,j+1,ov3,xs3,oM,vq0,vq1 s26,vq1 s25,vq1 s20,vq1 s19,vq1 s18,vq1 s13,vq1 s12,vq1 s11,vq1 s3,hEv5,hRO5,hbe⟩
   ·intro hge3;simp only[ydF]at hge3;rw[yat oM,List.filterMap_nil,yaI,←hR2]at hbe;repeat refine c_r ?_
    refine rg2 s20 hk1' ?_;repeat refine c_r ?_
    exact⟨m2 - 1,oM,rfl,k+1,ov3,xs3,oM,vq0,vq1 s19,vq1 s18,vq1 s13,vq1 s12,vq1 s11,vq1 s3,hEv4,hRO,hbe⟩
  ·intro hge2;simp only[ydF]at hge2;rw[yat oM,ybx,yaI,←hR1]at hbe;repeat refine c_r ?_
   refine rg2 s13 hi1' ?_;repeat refine c_r ?_
   exact⟨m - 1,oM,rfl,i+1,ov2,xs2,oM,vq0,vq1 s12,vq1 s11,vq1 s3,hEv2,hRO,hbe⟩
 ·intro hge;simp only[ydF]at hge;rw[yat oM,ybx,yaF]at hbe;have hrows:Rows 2 (PairAt S v) v ov xs:=hRO.rows.to λ cs p h=>by
   obtain⟨a,b,e,h1,h2⟩:=h.ex;exact⟨a,b,e,⟨h1.1,λ x n c hv=>⟨(h1.2 x n c hv).1,(h1.2 x n c hv).2.1,λ hb=>(h1.2 x n c hv).2.2 (.inl hb)⟩⟩,⟨h2.1,λ x n c hv=>⟨(h2.2 x n c hv).1,(h2.2 x n c hv).2.1,λ hb=>(h2.2 x n c hv).2.2 (.inl hb)⟩⟩⟩
  have hz1:=(hE1.trans hEv).size;have hok:∀p∈xs,zbB p:=by rw[←hbe];exact zeM hG
  have hlen:xs.length<=1000000000:=by rw[←hbe];omega
  repeat refine c_r ?_
  refine rc s3 (FewPr_ok v v ykr hrows hok hlen) ?_;rintro u w2 ⟨h1,h2,h3⟩;obtain⟨LO,⟨au,cu,rfl,hcu,hgu⟩,hLl,hLat⟩:=h1;refine rd trivial (P_pp.Clip_ok hcu) ?_;rintro _ x0 ⟨rfl,h0⟩;replace h0:=h0.symm;subst h0;refine re trivial ?_;repeat refine c_r ?_
  refine rt0 ntmps92 ?_;refine⟨hE1.trans (hEv.trans h2),?_,λ a n c hv=>?_⟩
  ·unfold renN;rw[hbe];exact⟨LO,⟨au,LO.length,rfl,ynl _,hgu⟩,hLl,λ i h h'=>(hLat i h h').ext h2⟩
  ·cases hv;obtain⟨k1,k2⟩:=h3 _ _ _ rfl;exact⟨k2,λ hb=>by have:=hS _ hb;omega⟩
theorem zol(w:World)(qv fv tv:Value)(q f:Nm)(ht:one tv=true)(hq:Row w qv (q.map vs))(hf:Row w fv (f.map vs))(mq:NmM q)(mf:NmM f)(hu:zaN q f=false):
  Fn prog 132 #[qv,fv,tv] w (λ v w'=>Ext w w'/\v= .tuple #[.slice .none 0 0,vi 12]):=by
 obtain⟨aq,cq,hqv,_⟩:=id hq;obtain⟨af,cf,hfv,_⟩:=id hf;have bq:=mq.len;have bf:=mf.len;refine enx func132 ntmps132 ?_;refine gz0 ?_;refine rq ?_;intro gd K hgd hK;refine sg0 ?_;refine yfm (zbF _ _ _ _ _ hq hf mq.LB mf.LB oM oM) ?_;rintro _ w1 ⟨rfl,hE1⟩;refine sg0 ?_;apply hK;rw[hu];refine wcz ?_ ?_
 ·intro _;refine gz0 ?_;refine zau (.inr rfl) ntmps132 rfl (zaj (v:= .slice .none 0 0) vr0 (zaj (v:=vi 12) vr0 zas)) ?_;exact⟨hE1,rfl⟩
 ·intro h;cases h
theorem SwapO_ok(w:World)(qv fv tv:Value)(x:Nm)(r:zaP)(hq:Row w qv (x.map vs))(hf:Row w fv (r.2.map vs))(ht:Row w tv (r.1.map vs))(mq:NmM x)(hr:zbB r):
  Fn prog 132 #[qv,fv,tv] w (λ v w'=>Ext w w'/\((∃y sv,zbn x r=some y/\v= .tuple #[sv,vi 0]/\Row w' sv (y.map vs)/\BlkB w.heap.size w' sv)\/∃e:Int,zbn x r= .none/\v= .tuple #[.slice .none 0 0,vi e]/\e≠0)):=by
 cases hu:zaN x r.2 with
 |false=>
  refine yfm (zol w qv fv tv x r.2 ht.isOne hq hf mq hr.b.m hu) ?_;rintro _ w' ⟨hE,rfl⟩;exact⟨hE,.inr ⟨12,by simp[zbn,hu],rfl,by decide⟩⟩
 |true=>
  refine yfm (zlb w qv fv tv x r.2 r.1 hq hf ht mq hr.b.m hr.a.m hu) ?_;rintro v w' ⟨hE,h1,h2⟩;by_cases hc:zaC (zca x r.2 r.1)=0
  ·obtain⟨sv,rfl,h3,h4⟩:=h1 hc;exact⟨hE,.inl ⟨_,sv,by simp[zbn,hu,hc],rfl,h3,h4⟩⟩
  ·exact⟨hE,.inr ⟨7,by simp[zbn,hu,hc],h2 hc,by decide⟩⟩
theorem zmD{ren:List zaP}{L:List Nm}{x:Nm}:zaH ren (L++ [x])=zaH ren L++ren.filterMap (zbn x):=by simp[zaH]
theorem zmC{ren:List zaP}{L:List Nm}(hi:i<L.length):∀y∈zaH ren (L.take i)++(ren.take j).filterMap (zbn L[i]),y∈zaH ren L:=by
 intro y hy;unfold zaH;rcases yai.1 hy with h|h
 ·unfold zaH at h;obtain⟨x,hx,h⟩:=yaY.1 h;exact yaY.2 ⟨x,yaO hx,h⟩
 ·obtain⟨r,hr,h⟩:=yaZ.1 h;exact yaY.2 ⟨_,yac hi,yaZ.2 ⟨r,yaO hr,h⟩⟩
theorem back_ok{tb:Nat}{s:TS}{ps:List Nm}{rv:Value}{ren:List zaP}{most:Int}(hT:T_bool.TI w0 w tb s (putB ps))(hk:∀p∈ps,NmK p)(hm:((canN ps).length:Int)<=most)(hmost:most<=1000000)
  (hR:RenZ (tblk tb s) w rv ren) (hro:∀r∈ren,zbB r) (hrl:ren.length<=1000000000):
  Fn prog 93 #[zaA tb,rv,vi most] w (λ v w'=>(v=vi 0/\((canN (ps++zaH ren (canN ps))).length:Int)<=most/\∃s',T_bool.TI w0 w' tb s' (putB (ps++zaH ren (canN ps)))/\Keep (tblk tb s) w w'/\(∀b,tblk tb s' b->tblk tb s b\/w.heap.size<=b))\/
   (v=vi 11/\most<((canN (ps++zaH ren (canN ps))).length:Int)/\Ext w0 w')):=by
 obtain⟨ar,cr,hrv,_⟩:=hR.rows.open;unfold zaA;refine enx func93 ntmps93 ?_;refine cZ ?_;rw[hrv];refine rg0 ?_;rw[←hrv];refine cZ ?_;refine rc trivial (zjq hT hk oM) ?_;rintro nv w1 ⟨hE1,hnv⟩;have hZ:=hnv (tblk tb s) hT.lt;obtain⟨L,hL⟩:∃L,canN ps=L:=⟨_,rfl⟩;have hLk:∀x∈L,NmK x:=λ x hx=>inS_k hk (mem_canN.1 (by rw[hL];exact hx));have hLl:(L.length:Int)<=most:=by rw[←hL];exact hm
 rw[hL]at hZ ⊢;have hnsl:∃a c,nv= .slice a L.length c:=by
  obtain⟨vals,⟨⟨a,c,e,_⟩,_⟩,h2,_⟩:=hZ;exact⟨a,c,by rw[e,h2]⟩
 obtain⟨an,cn,hnve⟩:=hnsl;rw[hnve];refine re trivial ?_;rw[←hnve];refine cZ ?_;have hT1:=hT.on hE1;have hR1:RenZ (tblk tb s) w1 rv ren:=hR.turn (hE1.mono λ _ _ h=>h.elim) (λ b hb=> .inl hb);refine zaw (Q:=λ e σ' ds' v'=>ds'=[]/\((e= .exit 0/\((canN (ps++zaH ren L)).length:Int)<=most/\∃s',T_bool.TI w0 v' tb s' (putB (ps++zaH ren L))/\Keep (tblk tb s) w v'/\(∀b,tblk tb s' b->tblk tb s b\/w.heap.size<=b))\/
   (e= .ret/\σ' 6=vi 11/\most<((canN (ps++zaH ren L)).length:Int)/\Ext w0 v'))) ?_ ?_
 ·refine zan (λ m σ ds v=>ds=[]/\∃(i:Nat) (s':TS),i+m=L.length/\σ 16=vi i/\σ 15=vi L.length/\σ 14=nv/\σ 0=zaA tb/\σ 1=rv/\σ 2=vi most/\T_bool.TI w0 v tb s' (putB (ps++zaH ren (L.take i)))/\Keep (tblk tb s) w v/\(∀b,tblk tb s' b->tblk tb s b\/w.heap.size<=b)/\
   NamesZ (tblk tb s') v nv L/\RenZ (tblk tb s') v rv ren/\((canN (ps++zaH ren (L.take i))).length:Int)<=most) L.length ?_ ?_
  ·exact⟨rfl,0,s,oM,vr0,vq1 hnve,vq0,vq0,vq0,vq0,by simpa [zaH] using hT1,hE1.mono (λ _ _ h=>h.elim),λ b hb=> .inl hb,hZ,hR1,by simpa [zaH,hL] using hLl⟩
  rintro m σ ds v ⟨rfl,i,s1,him,s16,s15,s14,s0,g1,g2,hT2,hkv,hsv,hZ2,hR2,hml⟩;refine gz (az2 s16 s15) ?_;refine wc0 ?_ ?_
  ·intro hlt;simp only[ydT]at hlt;have hi:i<L.length:=oM;have hi0:=cj i;have hi1':=ci i;have hx:=hLk _ (yac hi);obtain⟨x,hxe⟩:∃x,L[i]=x:=⟨_,rfl⟩;obtain⟨xv,hcell,hxv⟩:∃xv,zad v (adr an i)=some xv/\RowN (tblk tb s1) v xv x:=by
    obtain⟨vals,⟨⟨a,c,e,_,hg⟩,_⟩,h2,h3⟩:=hZ2;rw[hnve]at e;have ea:an=a:=by injection e
    subst ea;exact⟨vals[i]'(oM),hg i oM,by rw[←hxe];exact h3 i oM hi⟩
   rw[hxe]at hx;obtain⟨xn,rfl⟩:=yxs (zaf hcell);obtain⟨ax,cx,hxve,_⟩:=id hxv.1;have hnve':=hnve;refine cZ ?_;rw[hnve]at s14;refine gz (az5 s16 s14 hi0 hlt hcell) ?_;rw[hrv]at g1;refine rg1 g1 ?_;rw[←hrv]at g1;refine cZ ?_;have hround:∀j,j<=ren.length->(canN (ps++(zaH ren (L.take i)++(ren.take j).filterMap (zbn x)))).length<=(canN (ps++zaH ren L)).length:=λ j _=>zia λ g=>zeY λ p hp=>by
    rcases yai.1 hp with h|h
    ·exact yas _ h
    ·refine yaP _ (zmC (j:=j) hi p ?_);rw[hxe];exact h
   refine zan (λ m σ ds v=>ds=[]/\∃(j:Nat) (s':TS),j+m=ren.length/\σ 22=vi j/\σ 21=vi ren.length/\σ 20=rv/\σ 8=xv/\σ 16=vi i/\σ 15=vi L.length/\σ 14=nv/\σ 0=zaA tb/\σ 1=rv/\σ 2=vi most/\T_bool.TI w0 v tb s' (putB (ps++(zaH ren (L.take i)++(ren.take j).filterMap (zbn x))))/\Keep (tblk tb s) w v/\(∀b,tblk tb s' b->tblk tb s b\/w.heap.size<=b)/\
    NamesZ (tblk tb s') v nv L/\RenZ (tblk tb s') v rv ren/\RowN (tblk tb s') v xv x/\((canN (ps++(zaH ren (L.take i)++(ren.take j).filterMap (zbn x)))).length:Int)<=most) ren.length ?_ ?_
   ·exact⟨rfl,0,s1,oM,vr0,vq1 hrv,by rw[hrv];simp only[go_sem],vq0,vq1 s16,vq1 s15,vq2 s14 hnve,vq1 s0,vq1 g1,vq1 g2,by simpa using hT2,hkv,hsv,hZ2,hR2,hxv,by simpa using hml⟩
   clear s16 s15 s14 s0 g1 g2 hT2 hZ2 hR2 hxv hkv hsv hml hcell;rintro m2 σ2 ds2 v2 ⟨rfl,j,s2,hjm,s22,s21,s20,s8,s16,s15,s14,s0,g1,g2,hT2,hkv,hsv,hZ2,hR2,hxv,hml⟩;refine gz (az2 s22 s21) ?_;refine wc0 ?_ ?_
   ·intro hlt2;simp only[ydT]at hlt2;have hj:j<ren.length:=oM;have hj0:=cj j;have hj1':=ci j;have hro1:=hro _ (yac hj);obtain⟨r,hre⟩:∃r,ren[j]=r:=⟨_,rfl⟩;rw[hrv]at s20;have hR2':=hR2.rows;rw[hrv]at hR2';obtain⟨pcs,hpc,hP⟩:=hR2'.get hj;rw[hre]at hP hro1;obtain⟨p1,p2,rfl,hp1,hp2⟩:=hP.ex;obtain⟨xr,rfl⟩:=yxs (zak hpc);obtain⟨xj,hxj⟩:∃xi,adr (some xr) (j*2)=some xi:=⟨_,rfl⟩;rw[hxj]at hpc;have htk:(ren.take (j+1)).filterMap (zbn x)=(ren.take j).filterMap (zbn x)++(zbn x r).toList:=by
     rw[zal hj,ybD,hre];cases hso:zbn x r<;>simp[hso]
    refine rqz ?_;intro gd K hgd hK;refine sgz (az6 s22 s20 hj0 hlt2 hxj hpc) ?_;refine zaV (P:=prog) (l:=[p1,p2]) rfl (za7 hp1.1.isOne hp2.1.isOne) rfl rfl ?_;intro v3 hE3 hs3 hB;refine sg0 ?_;apply hK;obtain⟨cb,hcb⟩:∃b,v2.heap.size=b:=⟨_,rfl⟩;rw[hcb]at hB hs3 ⊢;have q0:zad v3 (some ⟨cb,0,.none⟩)=some p1:=zab hB rfl;have q1:zad v3 (some ⟨cb,1,.none⟩)=some p2:=zab hB rfl;refine cZ ?_;have hT3:=hT2.on hE3;have hs3e:=hE3.size;have hZ3:NamesZ (tblk tb s2) v3 nv L:=hZ2.ext hE3;have hR3:RenZ (tblk tb s2) v3 rv ren:=hR2.turn (hE3.mono λ _ _ h=>h.elim) (λ b hb=> .inl hb);have hX3:RowN (tblk tb s2) v3 xv x:=hxv.ext hE3;have hk3:Keep (tblk tb s) w v3:=hkv.trans (hE3.mono λ _ _ h=>h.elim);refine zaw (Q:=λ e σ' ds' v'=>e= .normal/\ds'=[]/\σ' 22=vi j/\σ' 21=vi ren.length/\σ' 20=rv/\σ' 8=xv/\σ' 16=vi i/\σ' 15=vi L.length/\σ' 14=nv/\σ' 0=zaA tb/\σ' 1=rv/\σ' 2=vi most/\Ext v3 v'/\∃(sv:Value) (e:Int),σ' 11=sv/\σ' 12=vi e/\
     ((e=0/\∃y,zbn x r=some y/\Row v' sv (y.map vs)/\BlkB v3.heap.size v' sv)\/(e≠0/\zbn x r= .none))) ?_ ?_
    ·refine rc (an7 s8 q0 q1 yad yn0 ybc (show(1:Int).toNat=1 from rfl)) (SwapO_ok v3 xv p2 p1 x r hX3.1 (hp2.1.ext hE3) (hp1.1.ext hE3) hx.m hro1) ?_;rintro _ v4 ⟨hE4,(⟨y,sv,hsw,rfl,hy1,hy2⟩| ⟨e,hsw,rfl,he⟩)⟩
     ·refine re trivial ?_;exact⟨rfl,rfl,vq1 s22,vq1 s21,vq2 s20 hrv,vq1 s8,vq1 s16,vq1 s15,vq1 s14,vq1 s0,vq1 g1,vq1 g2,hE4,sv,0,vq0,vr0,.inl ⟨rfl,y,hsw,hy1,hy2⟩⟩
     ·refine re trivial ?_;exact⟨rfl,rfl,vq1 s22,vq1 s21,vq2 s20 hrv,vq1 s8,vq1 s16,vq1 s15,vq1 s14,vq1 s0,vq1 g1,vq1 g2,hE4,_,e,vr0,vq0,.inr ⟨he,hsw⟩⟩
    clear s22 s21 s20 s8 s16 s15 s14 s0 g1 g2;rintro _ σ3 _ v4 ⟨rfl,rfl,s22,s21,s20,s8,s16,s15,s14,s0,g1,g2,hE4,sv,e,s11,s12,hcase⟩;have hs4e:=hE4.size;have hT4:=hT3.on hE4;have hZ4:NamesZ (tblk tb s2) v4 nv L:=hZ3.ext hE4;have hR4:RenZ (tblk tb s2) v4 rv ren:=hR3.turn (hE4.mono λ _ _ h=>h.elim) (λ b hb=> .inl hb);have hX4:RowN (tblk tb s2) v4 xv x:=hX3.ext hE4;have hk4:Keep (tblk tb s) w v4:=hk3.trans (hE4.mono λ _ _ h=>h.elim);have hwv:=hkv.size;refine gz s12 ?_;refine zaw (Q:=λ e' σ' ds' v'=>e'= .normal/\ds'=[]/\σ' 22=vi j/\σ' 21=vi ren.length/\σ' 20=rv/\σ' 8=xv/\σ' 16=vi i/\σ' 15=vi L.length/\σ' 14=nv/\σ' 0=zaA tb/\σ' 1=rv/\σ' 2=vi most/\∃s5,T_bool.TI w0 v' tb s5 (putB (ps++(zaH ren (L.take i)++(ren.take (j+1)).filterMap (zbn x))))/\Keep (tblk tb s) w v'/\(∀b,tblk tb s5 b->tblk tb s b\/w.heap.size<=b)/\
     NamesZ (tblk tb s5) v' nv L/\RenZ (tblk tb s5) v' rv ren/\RowN (tblk tb s5) v' xv x) ?_ ?_
    ·refine zaG (t:=decide (e=0)) vq0 ?_ ?_
     ·intro he;simp only[ydT]at he;rcases hcase with ⟨_,y,hsw,hy1,hy2⟩| ⟨hne,_⟩
      ·have hyk:NmK y:=za9 (zfP hsw);have hyz:RowZ 0 (tblk tb s2) v4 sv (y.map vs):=⟨hy1,λ a n c hv=>by
        obtain⟨k1,k2⟩:=hy2 a n c hv;exact⟨yba _,k2,λ hb=>by have:=hT2.lt _ hb;omega⟩⟩
       unfold zaA at s0;refine cZ ?_;refine rc (an2 s0 s11) (zoi hT4 (T_bool.Still.of_row hyz) hyk) ?_;rintro _ v5 ⟨s5,hT5,hk5,hs5⟩;refine re trivial ?_;refine cZ ?_;have h55:ps++(zaH ren (L.take i)++(ren.take j).filterMap (zbn x))++ [y]=ps++(zaH ren (L.take i)++(ren.take (j+1)).filterMap (zbn x)):=by rw[htk,hsw];simp
       rw[h55]at hT5;refine⟨rfl,rfl,vq1 s22,vq1 s21,vq1 s20,vq1 s8,vq1 s16,vq1 s15,vq1 s14,vq1 s0,vq1 g1,vq1 g2,s5,hT5,?_,λ b hb=>?_,hZ4.turn hk5 hs5,hR4.turn hk5 hs5,hX4.turn hk5 hs5⟩
       ·have h6:=hk4.size;have h7:=hk5.size;refine⟨hk5.os.trans hk4.os,hk5.tape.trans hk4.tape,hk5.output.trans hk4.output,oM,λ b hb hn=>?_,yaD hk4.drawn hk5.drawn⟩;exact(hk5.block b oM (λ hc=>(hsv b hc).elim hn oM)).trans (hk4.block b hb hn)
       ·rcases hs5 b hb with h|h
        ·exact hsv b h
        ·exact .inr oM
      ·exact absurd he hne
     ·intro hne;simp only[ydF]at hne;rcases hcase with ⟨he,_⟩| ⟨_,hsw⟩
      ·exact absurd he hne
      ·refine cZ ?_;refine⟨rfl,rfl,vq1 s22,vq1 s21,vq1 s20,vq1 s8,vq1 s16,vq1 s15,vq1 s14,vq1 s0,vq1 g1,vq1 g2,s2,?_,hk4,hsv,hZ4,hR4,hX4⟩;rw[htk,hsw];simpa using hT4
    clear s22 s21 s20 s8 s16 s15 s14 s0 g1 g2 hT3 hT4 hZ3 hZ4 hR3 hR4 hX3 hX4 hk3 hk4 s11 s12 hcase;rintro _ σ4 _ v5 ⟨rfl,rfl,s22,s21,s20,s8,s16,s15,s14,s0,g1,g2,s5,hT5,hk5,hs5,hZ5,hR5,hX5⟩;have hrd:=hround (j+1) oM;have hbig:(canN (ps++(zaH ren (L.take i)++(ren.take (j+1)).filterMap (zbn x)))).length<=1000000000:=by
     rw[htk];cases hso:zbn x r with
     |none=>simp only[Option.toList,yaF];omega
     |some q=>
      have h1:=canN_add (ps:=ps++(zaH ren (L.take i)++(ren.take j).filterMap (zbn x))) (za9 (zfP hso));simp only[Option.toList];rw[yla,yla]at h1;omega
    unfold zaA at s0;refine cZ ?_;by_cases hgt:((canN (ps++(zaH ren (L.take i)++(ren.take (j+1)).filterMap (zbn x)))).length:Int)>most
    ·refine rc s0 (zeF hT5 oM) ?_;rintro _ v6 ⟨rfl,hE6⟩;refine re (an2 g2 (yet hgt)) ?_;refine cZ ?_;refine wt trivial ?_;refine gz0 ?_;refine⟨rfl,.inr ⟨rfl,vr0,oM,hT5.ext.trans hE6⟩⟩
    ·refine rc s0 (zeF hT5 oM) ?_;rintro _ v6 ⟨rfl,hE6⟩;refine re (an2 g2 (yef hgt)) ?_;refine cZ ?_;refine wf trivial ?_;refine gz (az2 s22 hj1') ?_;have hE6':Keep (tblk tb s5) v5 v6:=hE6.mono λ _ _ h=>h.elim;exact⟨m2 - 1,oM,rfl,j+1,s5,oM,vq0,vq1 s21,vq1 s20,vq1 s8,vq1 s16,vq1 s15,vq1 s14,vq1 s0,vq1 g1,vq1 g2,hT5.on hE6,hk5.trans (hE6.mono λ _ _ h=>h.elim),hs5,hZ5.ext hE6,hR5.turn hE6' (λ b hb=> .inl hb),hX5.ext hE6,oM⟩
   ·intro hge2;simp only[ydF]at hge2;have hfull:ps++(zaH ren (L.take i)++(ren.take j).filterMap (zbn x))=ps++zaH ren (L.take (i+1)):=by
     rw[yaf (l:=ren) oM,zal hi,zmD,hxe]
    rw[hfull]at hT2 hml;refine gz (az2 s16 hi1') ?_;exact⟨m - 1,oM,rfl,i+1,s2,oM,vq0,vq1 s15,vq1 s14,vq1 s0,vq1 g1,vq1 g2,hT2,hkv,hsv,hZ2,hR2,hml⟩
  ·intro hge;simp only[ydF]at hge;rw[yaf oM]at hT2 hml;refine cZ ?_;exact⟨rfl,.inl ⟨rfl,hml,s1,hT2,hkv,hsv⟩⟩
 rintro e σ' ds' v' ⟨rfl,(⟨rfl,hml,s',hT',hk',hs'⟩| ⟨rfl,h6,hgt,hE'⟩)⟩
 ·refine cZ ?_;refine gz0 ?_;refine rt0 ntmps93 ?_;exact .inl ⟨rfl,hml,s',hT',hk',hs'⟩
 ·refine cZ ?_;refine rt1 h6 ntmps93 ?_;exact .inr ⟨rfl,hgt,hE'⟩
def zaU(N:NetL):List Nm:=zbw (renN N) N.rw.toNat (zbe N)
theorem zhw{ren:List zaP}{ps:List Nm}:(canN ps).length<=(canN (zbw ren k ps)).length:=zia λ _=>zeY λ _=>zfs
theorem Close_ok(hE0:Ext w0 w)(hN:NetAt w0 cs N)(hG:zaO N){most:Int}(hmost:most<=1000000):
  Fn prog 58 #[.agg cs.toArray,vi most] w (λ v w'=>Ext w w'/\((most<((canN (zaU N)).length:Int)/\v= .tuple #[.slice .none 0 0,vi 11])\/
   (((canN (zaU N)).length:Int)<=most/\∃lv,v= .tuple #[lv,vi 0]/\NamesAt w' lv (canN (zaU N))))):=by
 have hN0:=hN;obtain⟨hv,rv,rfl,hh,hr⟩:=hN.ex;obtain⟨ah,ch,hhv,_⟩:=hh.open;obtain⟨ar,cr,hrv,_⟩:=id hr;have hw:=hG.w;have bk:=zjj hG;have bm:=znV bk (zk3 hG);refine enx func58 ntmps58 ?_;refine cZ ?_;rw[hhv,hrv];refine rg0 ?_;rw[←hhv,←hrv];refine cZ ?_;refine zav ?_;intro w1 hE1 hs1 hA;have dA:=zah (n:=4) (l:=[hv,rv,vi N.rw,vi N.rf]) hA rfl;refine cZ ?_;refine rc dA (base_ok (hE0.trans hE1) hN0 hG) ?_;rintro _ w2 ⟨tb,s,rfl,hT⟩;refine re trivial ?_;refine cZ ?_;have hE2:=hT.ext;unfold zaA;by_cases hgt:((canN (zbe N)).length:Int)>most
 ·refine rc trivial (zeF hT oM) ?_;rintro _ w3 ⟨rfl,hE3⟩;refine re (yet hgt) ?_;refine cZ ?_;refine wt trivial ?_;refine gz0 ?_;refine zau (.inr rfl) ntmps58 rfl (zaj (v:= .slice .none 0 0) vr0 (zaj (v:=vi 11) vr0 zas)) ?_;refine⟨hE1.trans (hE2.trans hE3),.inl ⟨?_,rfl⟩⟩;have:=zhw (ren:=renN N) (k:=N.rw.toNat) (ps:=zbe N);unfold zaU;omega
 refine rc trivial (zeF hT oM) ?_;rintro _ w3 ⟨rfl,hE3⟩;refine re (yef hgt) ?_;refine cZ ?_;refine wf trivial ?_;have hE13:=hE2.trans hE3;have hT3:=hT.on hE3;have dA3:=zah (n:=4) (l:=[hv,rv,vi N.rw,vi N.rf]) (Ext.at hE13 hA) rfl;refine cZ ?_;refine rc dA3 (zl5 (S:=tblk tb s) ((hE0.trans hE1).trans hE13) (λ b hb=>hT3.lt b hb) hN0 hG) ?_;rintro rnv w4 ⟨hE4,hR4⟩;refine re trivial ?_;have hT4:=hT3.on hE4;have hA4:w4.heap[w.heap.size]? =some (.cells #[hv,rv,vi N.rw,vi N.rf] 25 (0,0)):=Ext.at (hE13.trans hE4) hA;have p2:zad w4 (some ⟨w.heap.size,2,.none⟩)=some (vi N.rw):=zab hA4 rfl;have hro:∀r∈renN N,zbB r:=zhK (zeM hG);have hrl:(renN N).length<=1000000000:=by
  have h1:=zd7 hG;have h2:=zhJ (l:=zcZ N);unfold renN;omega
 obtain⟨ren,hren⟩:∃r,renN N=r:=⟨_,rfl⟩;obtain⟨k0,hk0⟩:∃k:Nat,N.rw=(k:Int):=⟨N.rw.toNat,oM⟩;have hF:zaU N=zbw ren k0 (zbe N):=by unfold zaU;rw[hren,hk0];rfl
 rw[hren]at hR4 hro hrl;rw[hF];rw[hk0]at p2 hw;obtain⟨F,hFe⟩:∃F,zbw ren k0 (zbe N)=F:=⟨_,rfl⟩;rw[hFe];have hFk:∀p∈F,NmK p:=by rw[←hFe];exact zj1 bk
 refine gz (az2 p2 yn0) ?_;refine zaw (Q:=λ e σ' ds' v'=>ds'=[]/\Ext w1 v'/\((e= .exit 0/\σ' 6=zaA tb/\((canN F).length:Int)<=most/\∃s',T_bool.TI w1 v' tb s' (putB F))\/(e= .ret/\σ' 4= .slice .none 0 0/\σ' 5=vi 11/\most<((canN F).length:Int)))) ?_ ?_
 ·refine zan (λ m σ ds v=>ds=[]/\∃(i:Nat) (qs:List Nm) (s':TS),i+m=k0/\σ 20=vi i/\σ 19=vi k0/\σ 1=vi most/\σ 6=zaA tb/\σ 7=rnv/\T_bool.TI w1 v tb s' (putB qs)/\RenZ (tblk tb s') v rnv ren/\((canN qs).length:Int)<=most/\(∀p∈qs,NmK p)/\zbw ren (k0 - i) qs=F) k0 ?_ ?_
  ·exact⟨rfl,0,zbe N,s,oM,vr0,vq0,vq0,vq0,vq0,hT4,hR4,oM,bk,hFe⟩
  rintro m σ ds v ⟨rfl,i,qs,s1,him,s20,s19,s1',s6,s7,hTv,hRv,hml,hqk,hcl⟩;unfold zaA at s6;refine gz (az2 s20 s19) ?_;refine wc0 ?_ ?_
  ·intro hlt;simp only[ydT]at hlt;have hi:i<k0:=oM;have hi1':=ci i;obtain⟨j,hj⟩:∃j,k0 - i=j+1:=⟨k0 - i - 1,oM⟩;rw[hj]at hcl;have hF1:(canN (qs++zaH ren (canN qs))).length<=(canN F).length:=by
    rw[←hcl];unfold zbw
    split
    ·exact ynl _
    ·exact zhw
   have hqk2:∀p∈qs++zaH ren (canN qs),NmK p:=λ p hp=>by
    rcases yai.1 hp with hp|hp
    ·exact hqk p hp
    ·exact za9 (zhG hp)
   refine cZ ?_;refine rc s6 (zeF hTv oM) ?_;rintro _ v1 ⟨rfl,hE5⟩;refine re trivial ?_;have hTv1:=hTv.on hE5;have hRv1:RenZ (tblk tb s1) v1 rnv ren:=hRv.turn (hE5.mono λ _ _ h=>h.elim) (λ b hb=> .inl hb);refine cZ ?_;refine rc (an3 s6 s7 s1') (back_ok hTv1 hqk hml hmost hRv1 hro hrl) ?_;rintro _ v2 (⟨rfl,hm2,s2,hT2,hk2,hs2⟩| ⟨rfl,hm2,hE6⟩)
   ·refine re trivial ?_;have hRv2:=hRv1.turn hk2 hs2;refine gz0 ?_;refine wf trivial ?_;refine cZ ?_;by_cases heq:(canN (qs++zaH ren (canN qs))).length=(canN qs).length
    ·have hFq:qs++zaH ren (canN qs)=F:=by rw[←hcl];unfold zbw;rw[if_pos heq]
     refine rc s6 (zeF hT2 oM) ?_;rintro _ v3 ⟨rfl,hE7⟩;refine re (yet (show((canN (qs++zaH ren (canN qs))).length:Int)=((canN qs).length:Int) by omega)) ?_;refine cZ ?_;refine wt trivial ?_;refine cZ ?_;rw[hFq]at hT2 hm2;exact⟨rfl,hT2.ext.trans hE7,.inl ⟨rfl,vq1 s6,hm2,s2,hT2.on hE7⟩⟩
    ·have hFq:zbw ren j (qs++zaH ren (canN qs))=F:=by
      rw[←hcl]
      conv=>rhs;unfold zbw
      rw[if_neg heq]
     refine rc s6 (zeF hT2 oM) ?_;rintro _ v3 ⟨rfl,hE7⟩;refine re (yef (show¬((canN (qs++zaH ren (canN qs))).length:Int)=((canN qs).length:Int) by omega)) ?_;refine cZ ?_;refine wf trivial ?_;refine gz (az2 s20 hi1') ?_;exact⟨m - 1,oM,rfl,i+1,_,s2,oM,vq0,vq1 s19,vq1 s1',vq1 s6,vq1 s7,hT2.on hE7,hRv2.turn (hE7.mono λ _ _ h=>h.elim) (λ b hb=> .inl hb),hm2,hqk2,by rw[show k0 - (i+1)=j by omega];exact hFq⟩
   ·refine re trivial ?_;refine gz0 ?_;refine wt trivial ?_;refine gz0 ?_;exact⟨rfl,hE6,.inr ⟨rfl,vr0,vr0,oM⟩⟩
  ·intro hge;simp only[ydF]at hge;have hFq:qs=F:=by rw[←hcl,show k0 - i=0 by omega];rfl
   rw[hFq]at hTv hml;refine cZ ?_;exact⟨rfl,hTv.ext,.inl ⟨rfl,vq1 s6,hml,s1,hTv⟩⟩
 rintro e σ' ds' v' ⟨rfl,hEv,(⟨rfl,s6,hml,s',hT'⟩| ⟨rfl,h4,h5,hgt2⟩)⟩
 ·unfold zaA at s6;refine cZ ?_;refine rc s6 (zjq hT' hFk oM) ?_;rintro lv w9 ⟨hE9,hlv⟩;refine re trivial ?_;refine cZ ?_;refine zau (.inr rfl) ntmps58 rfl (zaj (v:=lv) vq0 (zaj (v:=vi 0) vr0 zas)) ?_;exact⟨hE1.trans (hEv.trans hE9),.inr ⟨hml,lv,rfl,(hlv NoS (λ _ h=>h.elim)).at⟩⟩
 ·refine cZ ?_;refine zau (.inr rfl) ntmps58 rfl (zaj (v:= .slice .none 0 0) ((vq1 h4)) (zaj (v:=vi 11) ((vq1 h5)) zas)) ?_;exact⟨hE1.trans hEv,.inl ⟨hgt2,rfl⟩⟩
section
variable {H : Type} {enc : TypeId × Value -> H} {P : Program} {w : World} {base : Nat} {sp : Nat -> Bool} {held : Bool}
def RdC(enc:TypeId×Value->H)(P:Program)(w:World)(base:Nat)(sp:Nat->Bool)(held:Bool)(t:TypeId)(cs:List Value):Prop:=∃n x,DataW.trod enc P w base sp held n t cs=some x/\∀k∈x.1.weights P t,k<=reachBytes
theorem RdC.one(h:RdC enc P w base sp held t [v]):Rd enc P w base sp held t v:=h
theorem Rd.c(h:Rd enc P w base sp held t v):RdC enc P w base sp held t [v]:=h
theorem zjg{a:Addr}:∀(k i:Nat) {l:List Value},l.length=k->(∀j (h:j<l.length),w.cell? (a.add (i+j))=some l[j])->zaS w a i k=some l
 |0,_,l,hl,_=>by
  have:l=[]:=yan.1 hl;subst this;rfl
 |k+1,i,l,hl,h=>by
  cases l with
  |nil=>cases hl
  |cons v l=>
   have h0:=h 0 sM;have ih:=zjg (l:=l) k (i+1) (sU hl) (λ j hj=>by
    have:=h (j+1) (sU hj);rw[show i+(j+1)=i+1+j from by omega]at this;simpa using this)
   unfold zaS;rw[yad]at h0;rw[h0,ih];rfl
theorem zgk(h:Rd enc P w base sp held t v)(ht:P.underlying t=some (.slice e))(hc:P.cellsOf e=k):
  ∃L,RowK k w v L/\(∀cs∈L,RdC enc P w base sp held e cs)/\L.length*P.bytesOf e<=reachBytes:=by
 obtain⟨n,x,h,hw⟩:=h;rcases Go.Deep.open_slice ht h with ⟨h1,_⟩| ⟨a,len,cap,m,q,D,Pl,h1,_,hl,hm,hmm,rfl,hx⟩
 ·simp only[List.cons.injEq,and_true]at h1;subst h1;exact⟨[],⟨.none,0,rfl,ynl _,λ j h=>by simp at h⟩,λ u h=>(by cases h),sM⟩
 ·simp only[List.cons.injEq,and_true]at h1;subst h1;have hml:len<=m:=by rw[hmm];split<;>omega
  simp only[DataW.weights,ht]at hw;rw[hc]at hx;obtain⟨V,hV⟩:=Go.Deep.choose_lt (α:=List Value) (p:=λ i cs=>w.cells? base (a.add (i*k)) k=some cs/\DataW.trod enc P w base sp held q e cs=some (D i,Pl i)) hx;refine⟨(List.range len).map V,⟨some a,cap,sM,by simpa using hl,λ j hj=>?_⟩,λ u hu=>?_,?_⟩
  ·simp at hj;obtain⟨_,h2,h3⟩:=World.cells?_some (hV j oM).1;have e1:((List.range len).map V)[j]'(by simpa using hj)=V j:=sM;rw[e1];show zaS w (a.add (j*k)) 0 k=_;refine zjg k 0 h2 (λ i hi=>?_);rw[yn0,h3 i oM];exact yam hi
  ·obtain⟨j,hj,rfl⟩:=yaq.1 hu;simp at hj;refine⟨_,_,(hV j oM).2,λ q hq=>hw q (yak _ (yas _ (zdl (d:=D j) ?_ hq)))⟩;exact yaq.2 ⟨j,by simpa using hj,rfl⟩
  ·have h1:=hw _ (yal ..);have h2:((List.range len).map V).length*P.bytesOf e<=(((List.range len).map D).length+((List.range (m - len)).map λ j=>D (len+j)).length)*P.bytesOf e:=ycj sM (ynl _);omega
theorem zeP{fs:Array Field}(h:RdC enc P w base sp held e cs)(he:P.underlying e=some (.struct fs)):cs.length=P.cellsOf e/\∀(i:Nat) (f:Field),fs[i]? =some f->RdC enc P w base sp held f.type ((cs.drop f.offset).take (P.cellsOf f.type)):=by
 obtain⟨n,x,h,hw⟩:=h;obtain⟨xs,m,_,rfl,hl,hxl,hf⟩:=DataW.trod_struct he h;refine⟨hl,λ i f hfi=>?_⟩;have hi:i<fs.size:=(yaa.1 hfi).1;have h1:=hf i f hfi;rw[yam oM]at h1;refine⟨m,_,h1,λ k hk=>hw k ?_⟩;simp only[DataW.weights,he];refine DataW.weights_mem_each (ts:=fs.toList.map (·.type)) (ds:=xs.map (·.1)) (j:=i) (t:=f.type) (d:=xs[i].1) ?_ ?_ k hk
 ·rw[ybP];rw[show fs.toList[i]? =some f from by simpa using hfi];rfl
 ·rw[ybP,yam oM];rfl
theorem ziz{k:IntKind}(h:RdC enc P w base sp held t cs)(ht:P.underlying t=some (.int k)):∃n,cs=[.int k n]/\(Lit.int k n).wf=true:=by
 obtain⟨n,x,h,_⟩:=h;obtain⟨m,h1,_,h2⟩:=DataW.trod_int ht h;exact⟨m,h1,h2⟩
end
set_option maxRecDepth 100000
section
variable {H : Type} {enc : TypeId × Value -> H} {P : Program} {w : World} {base : Nat} {sp : Nat -> Bool} {held : Bool}
theorem zjJ{k:IntKind}(h:Rd enc P w base sp held t v)(ht:P.underlying t=some (.slice e))(hc:P.cellsOf e=1)(he:P.underlying e=some (.int k)):∃l:List Int,Row w v (l.map (.int k))/\∀n∈l,(Lit.int k n).wf=true:=by
 obtain⟨vals,hr,hall,_⟩:=zhL h ht hc;obtain⟨m,rfl,hm⟩:=zjR (f:=λ n=>Value.int k n) (Q:=λ n=>(Lit.int k n).wf=true) (λ u hu=>by
  obtain⟨n,h1,h2⟩:=ziz (hall u hu).c he;exact⟨n,by simpa using h1,h2⟩)
 exact⟨m,hr,hm⟩
theorem wf_u32{n:Int}(h:(Lit.int .u32 n).wf=true):0<=n/\n<=4294967295:=by
 simp[Lit.wf,IntKind.min,IntKind.max,IntKind.signed,IntKind.bits]at h;omega
theorem wf_u8{n:Int}(h:(Lit.int .u8 n).wf=true):0<=n/\n<=255:=by
 simp[Lit.wf,IntKind.min,IntKind.max,IntKind.signed,IntKind.bits]at h;omega
theorem bytes_of{l:List Int}(h:∀n∈l,(Lit.int .u8 n).wf=true):∃m:List UInt8,l.map (Value.int .u8)=m.map zae:=by
 induction l with
 |nil=>exact⟨[],rfl⟩
 |cons n l ih=>
  obtain⟨m,hm⟩:=ih (λ x hx=>h x (yak _ hx));have hb:=wf_u8 (h n (yal ..));obtain⟨k,rfl⟩:∃k:Nat,n=(k:Int):=⟨n.toNat,oM⟩;exact⟨UInt8.ofNat k::m,by rw[yaU,yaU,hm,ze4 oM]⟩
theorem rd_data(h:RdC enc prog w base sp held 97 cs):∃d:DatL,DatAt w cs d/\∀n∈d.nums,0<=n/\n<=4294967295:=by
 obtain⟨hl,hf⟩:=zeP h rfl;have hl5:cs.length=5:=hl
 match cs,hl5 with
 | [c0,c1,c2,c3,c4],_=>
  obtain⟨ty,e0,_⟩:=ziz (hf 0 _ rfl) rfl;obtain⟨names,n1,_⟩:=rd_names (P:=prog) (ts:=27) (tb:=9) (RdC.one (hf 1 _ rfl)) rfl rfl rfl rfl rfl rfl;obtain⟨nums,n2,n3⟩:=zjJ (RdC.one (hf 2 _ rfl)) rfl rfl rfl;obtain⟨texts,n4,_⟩:=zfg (P:=prog) (RdC.one (hf 3 _ rfl)) (e:=9) rfl rfl rfl rfl;obtain⟨raw,n5,n6⟩:=zjJ (RdC.one (hf 4 _ rfl)) rfl rfl rfl;obtain⟨rb,hrb⟩:=bytes_of n6;rw[hrb]at n5;have e0':c0=vi ty:=ybO (show [c0]=[vi ty] from e0);exact⟨⟨ty,names,nums,texts,rb⟩,⟨c1,c2,c3,c4,by rw[e0'],n1,n2,n4,n5⟩,λ n hn=>wf_u32 (n3 n hn)⟩
theorem rd_rec(h:RdC enc prog w base sp held 101 cs):∃r:RecL,RecAt w cs r/\∀n∈r.dat.nums,0<=n/\n<=4294967295:=by
 obtain⟨hl,hf⟩:=zeP h rfl;have hl7:cs.length=7:=hl
 match cs,hl7 with
 | [c0,c1,c2,c3,c4,c5,c6],_=>
  obtain⟨owner,n0,_⟩:=zfg (P:=prog) (RdC.one (hf 0 _ rfl)) (e:=9) rfl rfl rfl rfl;obtain⟨ttl,e1,_⟩:=ziz (hf 1 _ rfl) rfl;obtain⟨d,hd,hn⟩:=rd_data (hf 2 _ rfl);have e1':c1=v32 ttl:=ybO (show [c1]=[v32 ttl] from e1);have hd':DatAt w [c2,c3,c4,c5,c6] d:=hd;exact⟨⟨owner,ttl,d⟩,⟨c0,[c2,c3,c4,c5,c6],by rw[e1'],n0,hd'⟩,hn⟩
theorem rd_recs(h:Rd enc prog w base sp held 58 v):∃R:List RecL,Rows 7 (RecAt w) w v R/\NumR R:=by
 obtain⟨L,hL,hall,_⟩:=zgk h (e:=101) (k:=7) rfl rfl;have:∀L:List (List Value),(∀cs∈L,RdC enc prog w base sp held 101 cs)->∃R:List RecL,L.length=R.length/\(∀i (h:i<L.length) (h':i<R.length),RecAt w L[i] R[i])/\NumR R:=λ L=>by
  induction L with
  |nil=>intro _;exact⟨[],rfl,λ i h=>by simp at h,λ r h=>by cases h⟩
  |cons cs L ih=>
   intro h;obtain⟨r,h1,h2⟩:=rd_rec (h cs (yal ..));obtain⟨R,a1,a2,a3⟩:=ih (λ x hx=>h x (yak _ hx));refine⟨r::R,by simp[a1],λ i a b=>?_,λ x hx=>?_⟩
   ·cases i with
    |zero=>exact h1
    |succ i=>exact a2 i (sU a) (sU b)
   ·rcases yay.1 hx with rfl|hx
    ·exact h2
    ·exact a3 x hx
 obtain⟨R,a1,a2,a3⟩:=this L hall;exact⟨R,⟨L,hL,a1,a2⟩,a3⟩
end
end Go.Proofs.YtfacfpcopcgbdaaGreat
