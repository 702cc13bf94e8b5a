/- Part of the proof. -/
import Derived.Test.YtakfdnnlhjhcfaaGreatDoorA38
import Derived.Test.YtakfdnnlhjhcfaaGreatDoorA42
set_option linter.unusedVariables false
set_option linter.unusedSimpArgs false
set_option maxRecDepth 100000
set_option maxHeartbeats 4000000
namespace Bk
open Go Go.RowKit Go.Proofs.YtakfdnnlhjhcfaaGreatDoor
def vx:Vr:=⟨⟨#[120]⟩,1,0⟩
def pA:Pg:=⟨[vx],[],.upd 40 (.var ⟨#[120]⟩) (.num 3) .nil⟩
theorem Sr:aS ⟨#[120]⟩=true:=by decide+kernel
theorem VL:(⟨#[]⟩:ByteArray).toList.isEmpty=true:=by decide+kernel
theorem Ou:bK ⟨#[120]⟩ [vx]=some 0:=by decide+kernel
section
variable{w:World}{B g2 g3 cap:Nat}(h:TrAt w B g2 g3 cap)
include h
theorem Ad:EV w B aS (.var ⟨#[120]⟩) nX∧EV w B aS (.num 3) n3:=by
 have _:=h;exact⟨⟨rfl,rfl,rfl,Sr,rfl⟩,⟨rfl,rfl,by decide,VL,rfl⟩⟩
theorem QC:KV w B 3 (nM g3 cap)∧KV w B 2 (nP g2)∧KV w B 1 nX∧KV w B 1 n3:=by
 have hx:KV w B 1 nX:=⟨by decide,by decide,by decide,by decide,fun _=>rfl,fun i hi=>absurd hi (Nat.not_lt_zero _)⟩;have h3:KV w B 1 n3:=⟨by decide,by decide,by decide,by decide,fun _=>rfl,fun i hi=>absurd hi (Nat.not_lt_zero _)⟩;have hp:KV w B 2 (nP g2):=⟨(by show(0:Int)<=40∧(40:Int)<=255;decide),(by show(-9223372036854775808:Int)<=0∧(0:Int)<=9223372036854775807;decide),aH 2,by show 2<=maxLen;unfold maxLen;omega,(fun e=>by cases e),fun i hi=>by
  match i,hi with
  |0,_=>exact⟨nX,h.kx,hx⟩
  |1,_=>exact⟨n3,h.k3,h3⟩⟩
 exact⟨⟨(by show(0:Int)<=57∧(57:Int)<=255;decide),(by show(-9223372036854775808:Int)<=0∧(0:Int)<=9223372036854775807;decide),h.cap.1,h.cap.2,(fun e=>by cases e),fun i hi=>by
  have hi:i<1:=hi;obtain rfl:i=0:=by omega
  exact⟨nP g2,h.k0,hp⟩⟩,hp,hx,h3⟩
theorem Tb:SqAt w B 2 pA.main (nM g3 cap):=by
 obtain⟨e1,e2⟩:=Ad h;refine⟨rfl,rfl,fun i hi=>?_⟩;have hi:i<1:=hi;obtain rfl:i=0:=by omega
 exact⟨nP g2,h.k0,rfl,.inl rfl,by show d7 (nP g2)=true;simp[d7,nP,VL],rfl,trivial,nX,n3,h.kx,h.k3,e1,e2⟩
theorem D4:bO w B (nM g3 cap) 0=nP g2∧bO w B (nP g2) 0=nX∧bO w B (nP g2) 1=n3:=⟨gH h.k0,gH h.kx,gH h.k3⟩
theorem Hw:f6 w B 3 (nM g3 cap) 80 2000=(true,1996):=by
 obtain⟨k0,k1,k2⟩:=D4 h;have lx:∀lf,0<lf->f6 w B 1 nX 78 lf=(true,lf-1):=fun lf hl=>by rw[f6,if_neg (by omega)];rfl
 have l3:∀lf,0<lf->f6 w B 1 n3 78 lf=(true,lf-1):=fun lf hl=>by rw[f6,if_neg (by omega)];rfl
 have lp:f6 w B 2 (nP g2) 79 1999=(true,1996):=by
  rw[f6,if_neg (by omega)];show dS _ 2 1998=_;simp only[dS,k1,k2,if_true];rw[lx 1998 (by omega)];simp only[if_true];rw[l3 _ (by omega)]
 rw[f6,if_neg (by omega)];show dS _ 1 1999=_;simp only[dS,k0,if_true];exact lp
theorem Ta:p7 w B 3 (nM g3 cap)=true:=by
 obtain⟨k0,k1,k2⟩:=D4 h;obtain⟨e1,e2⟩:=Ad h;have x1:j8 w B nX=true:=by simp only[j8,decide_eq_true_eq];exact⟨_,e1⟩
 have x2:j8 w B n3=true:=by simp only[j8,decide_eq_true_eq];exact⟨_,e2⟩
 have p1:oU w B nX=true:=by unfold oU;rw[x1];rfl
 have s1:D3 w B 2 (nP g2)=true:=by
  unfold D3;dsimp only;rw[if_pos (.inl rfl)];have hp:d7 (nP g2)=true:=by simp[d7,nP,VL]
  rw[hp,show decide ((nP g2).n=2)=true from rfl];simp[bX,k1,k2,p1,x2]
 unfold p7;rw[show decide ((nM g3 cap).k=57)=true from rfl,show d7 (nM g3 cap)=true by simp[d7,nM,VL]];show(true&&(true&&bX _ 1))=true;simp[bX,k0,s1]
theorem QD:Go.Proofs.YtakfdnnlhjhcfaaGreatDoor.validB w B 3 [vx] [] (nM g3 cap)=true:=by
 have hd:iG [vx]=true:=by simp only[iG,decide_eq_true_eq];intro v hv;simp at hv;subst hv;decide+kernel
 have hb:gZ w B 3 (nM g3 cap)=true:=by unfold gZ;rw[Hw h,Ta h];rfl
 unfold Go.Proofs.YtakfdnnlhjhcfaaGreatDoor.validB;rw[hd,hb];rfl
theorem Hv:uV w B 3 [vx] [] (nM g3 cap)=0:=by
 obtain⟨k0,k1,k2⟩:=D4 h;unfold uV;rw[if_pos (QD h)];unfold FR;have hd:oH [vx] 0=0:=by decide+kernel
 have f1:cY [vx] [] nX=0:=by
  show dT [vx] ⟨#[120]⟩ 1=0;unfold dT;rw[Ou];rfl
 have cx:dL w B [] 1 nX [vx]=0:=by
  rw[dL,f1];rfl
 have c3:dL w B [] 1 n3 [vx]=0:=rfl;have i0:bJ (nP g2) 0 [vx]= [vx]:=rfl;have i1:bJ (nP g2) 1 [vx]= [vx]:=rfl;have cp:dL w B [] 2 (nP g2) [vx]=0:=by
  rw[dL];show one 0+aY _ 2=0;simp only[aY,k1,k2,i0,i1,cx,c3];rfl
 have cm:dL w B [] 3 (nM g3 cap) [vx]=0:=by
  rw[dL];show one 0+aY _ 1=0;have j0:bJ (nM g3 cap) 0 [vx]= [vx]:=rfl;simp only[aY,k0,j0,cp];rfl
 rw[cm];show aY (oH [vx]) 1+0+0=0;simp only[aY,hd]
end
theorem Ov(n:Int):eS pA.vars [[n]] [] []=true:=by
 unfold eS;have hv:xP pA.vars=true:=by unfold xP;simp[pA,vx,tD]
 rw[hv];simp only[Bool.true_and,Bool.and_eq_true,decide_eq_true_eq];refine⟨rfl,by decide,by decide,fun i v l h1 h2=>?_⟩
 match i,h1,h2 with
 |0,h1,h2=>
  simp[pA]at h1;simp at h2;subst h1;subst h2;rfl
theorem aAL:fA pA false [[4]] [] [] 10=.ok (⟨[[7]],⟨[vx],[0],0⟩,[],[],[]⟩,9):=by kernel_rfl
theorem aAK:fA pA true [[4]] [] [] 10=.ok (⟨[[1]],⟨[vx],[0],0⟩,[],[],[]⟩,9):=by kernel_rfl
end Bk
namespace Go.Proofs.YtakfdnnlhjhcfaaGreatDoor
open Go.RowKit Bk
theorem PrgAt.prog{w:World}{lo g2:Nat}{vv v:Value}(h:PrgAt w lo vv g2 v):∃V cv g3 cap,vv=.slice V 1 cv∧v=.slice (some ⟨g3,0,none⟩) 1 cap∧ProgAt w w.heap.size 2 V 1 cv none 0 0 (nM g3 cap) pA []:=by
 obtain⟨g3,cap,rfl,ht⟩:=Bk.K1At.tree h.2;obtain⟨g1,cv,rfl,_,hg,hc,hcl⟩:=BN h.1 (by decide);have hv:VsAt w w.heap.size (some ⟨g1,0,none⟩) [vx]:=fun i u hu=>by
  match i,hu with
  |0,hu=>
   simp at hu;subst hu;exact⟨g1,0,rfl,hg,hcl 0 _ rfl,hcl 1 _ rfl,hcl 2 _ rfl⟩
 have hq:PrsAt w w.heap.size 3 none []:=fun i p hp=>by simp at hp
 refine⟨_,cv,g3,cap,rfl,rfl,⟨aH _,hv,rfl,hq,rfl,by decide,rfl,fun i c u hc=>by simp at hc,Tb ht,(QC ht).1,⟨⟩,fun W hW=>?_,fun W hW=>?_⟩⟩
 ·exact(kL (aH _) _ 1 cv [vx] hv rfl (by decide) none 0 0 [] hq rfl (by decide) (nM g3 cap) (QC ht).1 W hW).mono fun en w'' h=>⟨by rw[h.1,QD ht],h.2⟩
 ·refine(p9 (aH _) _ 1 cv [vx] hv rfl (by decide) hc (fun e=>by cases e) none 0 0 [] hq rfl (by decide) (fun p hp=>by simp at hp) (nM g3 cap) (QC ht).1 W hW).mono ?_
  rintro en w'' ⟨⟨A,c,h1⟩,h2⟩;rw[Hv ht]at h1;exact⟨A,c,h1,h2⟩
theorem PrgAt.prog'{w:World}{lo g2 g3 cv cap:Nat}{V:Option Addr}(h:PrgAt w lo (.slice V 1 cv) g2 (.slice (some ⟨g3,0,none⟩) 1 cap)):ProgAt w w.heap.size 2 V 1 cv none 0 0 (nM g3 cap) pA []:=by
 obtain⟨V',cv',g3',cap',e1,e2,h⟩:=h.prog;injection e1 with a1 a2 a3;injection e2 with b1 b2 b3;injection b1 with b1;injection b1 with b1 _ _;subst a1;subst a3;subst b1;subst b3;exact h
theorem SW.forms{w:World}{D:Nat->Prop}{vC vI vO:Value}{cs:List (List Int)}{inp out:List Int}(h:SW w D vC vI vO cs inp out):∃A n c A' n' c' A'' n'' c'',vC=.slice A n c∧vI=.slice A' n' c'∧vO=.slice A'' n'' c'':=by
 obtain⟨sv,⟨A,c,e,_⟩,_⟩:=h.row;obtain⟨A',c',e',_⟩:=h.inp;obtain⟨A'',c'',e'',_⟩:=h.out;exact⟨A,_,c,A',_,c',A'',_,c'',e,e',e''⟩
theorem SW.form1{w:World}{D:Nat->Prop}{vC vI vO:Value}{cs:List (List Int)}{inp out:List Int}(h:SW w D vC vI vO cs inp out):∃A n c,vC=.slice A n c:=by
 obtain⟨sv,⟨A,c,e,_⟩,_⟩:=h.row;exact⟨A,_,c,e⟩
theorem Z4{W:World}{lo g2 g3 cv cap:Nat}{V:Option Addr}{vC:Value}(mU:PrgAt W lo (.slice V 1 cv) g2 (.slice (some ⟨g3,0,none⟩) 1 cap))(hS:SW W (·<W.heap.size) vC (.slice none 0 0) (.slice none 0 0) [[4]] [] []):
  Calls Tryz.prog 9 #[.agg #[.slice V 1 cv,.slice none 0 0,.int .u8 57,.int .i64 0,.string ⟨#[]⟩,.slice (some ⟨g3,0,none⟩) 1 cap],.agg #[vC,.slice none 0 0,.slice none 0 0],.int .i64 10] W fun e w'=>∃A n c A' n' c' A'' n'' c'',e=.returned (.agg #[.slice A n c,.slice A' n' c',.slice A'' n'' c'',.int .i64 1,.int .i64 0])∧SW w' (fun k=>W.heap.size<=k∧k<w'.heap.size) (.slice A n c) (.slice A' n' c') (.slice A'' n'' c'') [[7]] [] []∧Below W.heap.size W w':=by
 refine(kH (fuel:=10) mU.prog' hS (Ov 4) (by omega) (aM _ _)).mono ?_;rintro e w' ⟨v,rfl,hr,hb⟩;rw[aAL]at hr;obtain⟨uC,uI,uO,rfl,hs⟩:=hr;obtain⟨A,n,c,A',n',c',A'',n'',c'',rfl,rfl,rfl⟩:=hs.forms;exact⟨A,n,c,A',n',c',A'',n'',c'',rfl,hs,hb⟩
theorem Z1{W:World}{lo g2 g3 cv cap:Nat}{V:Option Addr}{vC:Value}(mU:PrgAt W lo (.slice V 1 cv) g2 (.slice (some ⟨g3,0,none⟩) 1 cap))(hS:SW W (·<W.heap.size) vC (.slice none 0 0) (.slice none 0 0) [[4]] [] []):
  Calls Tryz.prog 10 #[.agg #[.slice V 1 cv,.slice none 0 0,.int .u8 57,.int .i64 0,.string ⟨#[]⟩,.slice (some ⟨g3,0,none⟩) 1 cap],.agg #[vC,.slice none 0 0,.slice none 0 0],.int .i64 10] W fun e w'=>∃A n c A' n' c' A'' n'' c'',e=.returned (.agg #[.slice A n c,.slice A' n' c',.slice A'' n'' c'',.int .i64 1,.int .i64 0])∧SW w' (fun k=>W.heap.size<=k∧k<w'.heap.size) (.slice A n c) (.slice A' n' c') (.slice A'' n'' c'') [[1]] [] []∧Below W.heap.size W w':=by
 refine(i6 (fuel:=10) mU.prog' hS (Ov 4) (by omega) (aM _ _)).mono ?_;rintro e w' ⟨v,rfl,hr,hb⟩;rw[aAK]at hr;obtain⟨uC,uI,uO,rfl,hs⟩:=hr;obtain⟨A,n,c,A',n',c',A'',n'',c'',rfl,rfl,rfl⟩:=hs.forms;exact⟨A,n,c,A',n',c',A'',n'',c'',rfl,hs,hb⟩
theorem SW.grow{w w':World}{D D':Nat->Prop}{vC vI vO:Value}{cs:List (List Int)}{inp out:List Int}(h:SW w D vC vI vO cs inp out)(hb:Below w.heap.size w w')(h1:∀k,D k->k<w.heap.size)(h2:∀k,D k->D' k):SW w' D' vC vI vO cs inp out:=h.map (fun b o hd=>hb.cell (p:=⟨b,o,none⟩) (h1 b hd)) h2
theorem YT{W:World}{n:Int}{vC vI vO vC' vI' vO':Value}(h:SW W (·<W.heap.size) vC vI vO [[n]] [] [])(h':SW W (·<W.heap.size) vC' vI' vO' [[n]] [] []):
  Calls Tryz.prog 12 #[.agg #[vC,vI,vO],.agg #[vC',vI',vO']] W fun e w'=>e=.returned (.bool true)∧Below W.heap.size W w':=
 (rN h h' (fun _ h=>h) (fun _ h=>h) (by simp) (by simp)).mono fun e w'⟨h1,h2⟩=>⟨by rw[h1];simp,h2⟩
theorem u6{w:World}(P1:SymAt w):Calls Tryz.prog 6 #[] w fun e w'=>e=.returned (.bool true)∧Below w.heap.size w w':=by
 have QU:=aA P1;clear P1;go_enter Tryz.func6,Tryz.ntmps6;go_wp2_with fail;refine(MP QU.out).mono ?_;rintro en w1 ⟨⟨vv,g2,v,rfl,mU⟩,aG⟩;obtain⟨V,cv,g3,cap,rfl,rfl,_⟩:=mU.prog;have Mk:=aA mU;have aO:=aA aG;clear mU aG;go_upto_region 2 with fail;refine aB ?_;intro w2 eD;have hb2:Below w1.heap.size w1 w2:=by rw[eD];go_grown
 have K2:Blk w2 w1.heap.size 28 #[.slice V 1 cv,.slice none 0 0,.int .u8 57,.int .i64 0,.string ⟨#[]⟩,.slice (some ⟨g3,0,none⟩) 1 cap]:=by rw[eD];exact aQ
 have bI:=aA K2;have aP:=aA (aO.out.next hb2);have EW:=aA (Mk.out.fr (Fr.of (O:=fun _=>False) hb2) (fun _ _ _ h=>h));clear eD hb2 K2 Mk
 go_cut [2] (fun v2 wx=>∃bR A1 n1 c1 A2 n2 c2 A3 n3' c3,v2=.pointer (some ⟨bR,0,none⟩)∧Blk wx bR 41 #[.slice A1 n1 c1,.slice A2 n2 c2,.slice A3 n3' c3,.int .i64 1,.int .i64 0]∧SW wx (·<wx.heap.size) (.slice A1 n1 c1) (.slice A2 n2 c2) (.slice A3 n3' c3) [[7]] [] []∧Below w2.heap.size w2 wx)
 case first=>
  refine wp_region_held_drew (S:=fun W=>Below w2.heap.size w2 W) (by kernel_rfl) ((aM _ _).drew) (fun hH=>?_);refine aE ?_;intro wa bP;have hX:Below w2.heap.size w2 wa:=by rw[bP];exact(aM _ _).drew
  replace hH:Below w2.heap.size w2 wa:=hX;have j5:=aA (EW.out.fr (Fr.of (O:=fun _=>False) hX) (fun _ _ _ h=>h));clear bP;refine cH 0 (v:=?_) rfl ?hy hH ?_
  case hy=>(intro bW aN;have t:=(bI.out.next aN).cell;clear aN;go_simp;try with_reducible rfl)
  (try simp only[PU,aD])
  refine wpAnyH_ready (rs:= [1,3]) (by kernel_rfl) (by simp) ?_;refine AllReadyH.cons rfl (fun K hK=>?_) (AllReadyH.cons rfl (fun K hK=>?_) (AllReadyH.nil))
  ·go_simp
   refine(iV 4 wa).mono ?_;rintro en wb ⟨⟨vC,rfl,iM⟩,aR⟩;have uE:=aA (iM.map (D':=(·<wb.heap.size)) (fun _ _ _=>rfl) (fun k hk=>hk.2));obtain⟨AC,nC,cC,rfl⟩:=SW.form1 iM;replace j5:=aA (j5.out.fr (Fr.of (O:=fun _=>False) aR) (fun _ _ _ h=>h));replace hX:=hX.next aR;clear iM aR;refine hK.out _ _ hX (fun hH=>?_);clear hK;(try simp only[PU,aD])
   refine wpAnyH_ready (rs:= [2,3]) (by kernel_rfl) (by simp) ?_;refine AllReadyH.cons rfl (fun K hK=>?_) (AllReadyH.cons rfl (fun K hK=>?_) (AllReadyH.nil))
   ·go_simp
    refine(Z4 j5.out uE.out).mono ?_;rintro en wc ⟨A1,n1,c1,A2,n2,c2,A3,n3',c3,rfl,tQ,aR⟩;have Yw:=aA (tQ.map (D':=(·<wc.heap.size)) (fun _ _ _=>rfl) (fun k hk=>hk.2));replace j5:=aA (j5.out.fr (Fr.of (O:=fun _=>False) aR) (fun _ _ _ h=>h));replace hX:=hX.next aR;clear tQ aR;refine hK.out _ _ hX (fun hH=>?_);clear hK;(try simp only[PU,aD])
    refine cE 3 (by kernel_rfl) rfl (fun K hK=>?_);go_simp;refine hK.out _ _ (hX.alloc hX.size _) (fun hH=>?_);clear hK;(try simp only[PU,aD])
    refine aE ?_;intro wd bS;have aR:Below wc.heap.size wc wd:=by rw[bS];exact(aM _ _).alloc (aH _) _
    have fL:=aA (show Blk wd wc.heap.size 41 #[.slice none 0 0,.slice none 0 0,.slice none 0 0,.int .i64 0,.int .i64 0] by rw[bS];exact Blk.new _ _ _);have JA:wc.heap.size<wd.heap.size:=fL.out.lt;have kQ:=hX.size;replace j5:=aA (j5.out.fr (Fr.of (O:=fun _=>False) aR) (fun _ _ _ h=>h));have uD:=aA (Yw.out.grow (D':=fun k=>k<wd.heap.size∧k≠wc.heap.size) aR (fun k hk=>hk) (fun k hk=>by omega));replace hX:=hX.next aR;replace hH:Below w2.heap.size w2 wd:=hX;clear bS aR;refine cE 4 (by kernel_rfl) rfl (fun K hK=>?_);obtain⟨wO,uH,tX⟩:=fL.out.open_;go_simp;refine hK.out _ _ (((((hX.setCell kQ _).setCell kQ _).setCell kQ _).setCell kQ _).setCell kQ _) (fun hH=>?_);clear hK;(try simp only[PU,aD])
    clear wO uH tX;refine wpAnyH_done (by kernel_rfl) ?_ _;have EN:=aA hH;clear hH hX JA kQ;go_wp2_with fail;go_meet;have hf:=Fr.set (Fr.set (Fr.set (Fr.set (Fr.set (Fr.refl (· =wc.heap.size) wd) (p:=⟨wc.heap.size,0,none⟩) rfl (.slice A1 n1 c1)) (p:=⟨wc.heap.size,1,none⟩) rfl (.slice A2 n2 c2)) (p:=⟨wc.heap.size,2,none⟩) rfl (.slice A3 n3' c3)) (p:=⟨wc.heap.size,3,none⟩) rfl (.int .i64 1)) (p:=⟨wc.heap.size,4,none⟩) rfl (.int .i64 0);exact⟨wc.heap.size,A1,n1,c1,A2,n2,c2,A3,n3',c3,rfl,by simpa using((((fL.out.set_ 0 (.slice A1 n1 c1)).set_ 1 (.slice A2 n2 c2)).set_ 2 (.slice A3 n3' c3)).set_ 3 (.int .i64 1)).set_ 4 (.int .i64 0),uD.out.map (fun b o hd=>hf.cell hd.1 hd.2 o) (fun k hk=>by simp;exact hk.1),EN.out⟩
   ·go_simp
    refine hK.out _ _ (hX.alloc hX.size _) (fun hH=>?_);clear hK;(try simp only[PU,aD])
    refine aE ?_;intro wc bS;have aR:Below wb.heap.size wb wc:=by rw[bS];exact(aM _ _).alloc (aH _) _
    have fL:=aA (show Blk wc wb.heap.size 41 #[.slice none 0 0,.slice none 0 0,.slice none 0 0,.int .i64 0,.int .i64 0] by rw[bS];exact Blk.new _ _ _);have JA:wb.heap.size<wc.heap.size:=fL.out.lt;have kQ:=hX.size;replace j5:=aA (j5.out.fr (Fr.of (O:=fun _=>False) aR) (fun _ _ _ h=>h));replace uE:=aA (uE.out.grow (D':=(·<wc.heap.size)) aR (fun k hk=>hk) (fun k hk=>by omega));replace hX:=hX.next aR;replace hH:Below w2.heap.size w2 wc:=hX;clear bS aR;refine cE 2 (by kernel_rfl) rfl (fun K hK=>?_);go_simp;refine(Z4 j5.out uE.out).mono ?_;rintro en wd ⟨A1,n1,c1,A2,n2,c2,A3,n3',c3,rfl,tQ,aR⟩;have Gv:wb.heap.size<wc.heap.size:=fL.out.lt;have uD:=aA (tQ.map (D':=fun k=>k<wd.heap.size∧k≠wb.heap.size) (fun _ _ _=>rfl) (fun k hk=>by omega));replace j5:=aA (j5.out.fr (Fr.of (O:=fun _=>False) aR) (fun _ _ _ h=>h));replace fL:=aA (fL.out.next aR);replace hX:=hX.next aR;clear tQ aR;refine hK.out _ _ hX (fun hH=>?_);clear hK;(try simp only[PU,aD])
    refine cE 4 (by kernel_rfl) rfl (fun K hK=>?_);obtain⟨wO,uH,tX⟩:=fL.out.open_;go_simp;refine hK.out _ _ (((((hX.setCell kQ _).setCell kQ _).setCell kQ _).setCell kQ _).setCell kQ _) (fun hH=>?_);clear hK;(try simp only[PU,aD])
    clear wO uH tX;refine wpAnyH_done (by kernel_rfl) ?_ _;have EN:=aA hH;clear hH hX JA kQ;go_wp2_with fail;go_meet;have hf:=Fr.set (Fr.set (Fr.set (Fr.set (Fr.set (Fr.refl (· =wb.heap.size) wd) (p:=⟨wb.heap.size,0,none⟩) rfl (.slice A1 n1 c1)) (p:=⟨wb.heap.size,1,none⟩) rfl (.slice A2 n2 c2)) (p:=⟨wb.heap.size,2,none⟩) rfl (.slice A3 n3' c3)) (p:=⟨wb.heap.size,3,none⟩) rfl (.int .i64 1)) (p:=⟨wb.heap.size,4,none⟩) rfl (.int .i64 0);exact⟨wb.heap.size,A1,n1,c1,A2,n2,c2,A3,n3',c3,rfl,by simpa using((((fL.out.set_ 0 (.slice A1 n1 c1)).set_ 1 (.slice A2 n2 c2)).set_ 2 (.slice A3 n3' c3)).set_ 3 (.int .i64 1)).set_ 4 (.int .i64 0),uD.out.map (fun b o hd=>hf.cell hd.1 hd.2 o) (fun k hk=>by simp;exact hk.1),EN.out⟩
  ·go_simp
   refine hK.out _ _ (hX.alloc hX.size _) (fun hH=>?_);clear hK;(try simp only[PU,aD])
   refine aE ?_;intro wb bS;have aR:Below wa.heap.size wa wb:=by rw[bS];exact(aM _ _).alloc (aH _) _
   have fL:=aA (show Blk wb wa.heap.size 41 #[.slice none 0 0,.slice none 0 0,.slice none 0 0,.int .i64 0,.int .i64 0] by rw[bS];exact Blk.new _ _ _);have JA:wa.heap.size<wb.heap.size:=fL.out.lt;have kQ:=hX.size;replace j5:=aA (j5.out.fr (Fr.of (O:=fun _=>False) aR) (fun _ _ _ h=>h));replace hX:=hX.next aR;replace hH:Below w2.heap.size w2 wb:=hX;clear bS aR;refine cE 1 (by kernel_rfl) rfl (fun K hK=>?_);go_simp;refine(iV 4 wb).mono ?_;rintro en wc ⟨⟨vC,rfl,iM⟩,aR⟩;have uE:=aA (iM.map (D':=(·<wc.heap.size)) (fun _ _ _=>rfl) (fun k hk=>hk.2));obtain⟨AC,nC,cC,rfl⟩:=SW.form1 iM;replace j5:=aA (j5.out.fr (Fr.of (O:=fun _=>False) aR) (fun _ _ _ h=>h));replace fL:=aA (fL.out.next aR);replace hX:=hX.next aR;clear iM aR;refine hK.out _ _ hX (fun hH=>?_);clear hK;(try simp only[PU,aD])
   refine cE 2 (by kernel_rfl) rfl (fun K hK=>?_);go_simp;refine(Z4 j5.out uE.out).mono ?_;rintro en wd ⟨A1,n1,c1,A2,n2,c2,A3,n3',c3,rfl,tQ,aR⟩;have Gv:wa.heap.size<wc.heap.size:=fL.out.lt;have uD:=aA (tQ.map (D':=fun k=>k<wd.heap.size∧k≠wa.heap.size) (fun _ _ _=>rfl) (fun k hk=>by omega));replace j5:=aA (j5.out.fr (Fr.of (O:=fun _=>False) aR) (fun _ _ _ h=>h));replace fL:=aA (fL.out.next aR);replace hX:=hX.next aR;clear tQ aR;refine hK.out _ _ hX (fun hH=>?_);clear hK;(try simp only[PU,aD])
   refine cE 4 (by kernel_rfl) rfl (fun K hK=>?_);obtain⟨wO,uH,tX⟩:=fL.out.open_;go_simp;refine hK.out _ _ (((((hX.setCell kQ _).setCell kQ _).setCell kQ _).setCell kQ _).setCell kQ _) (fun hH=>?_);clear hK;(try simp only[PU,aD])
   clear wO uH tX;refine wpAnyH_done (by kernel_rfl) ?_ _;have EN:=aA hH;clear hH hX JA kQ;go_wp2_with fail;go_meet;have hf:=Fr.set (Fr.set (Fr.set (Fr.set (Fr.set (Fr.refl (· =wa.heap.size) wd) (p:=⟨wa.heap.size,0,none⟩) rfl (.slice A1 n1 c1)) (p:=⟨wa.heap.size,1,none⟩) rfl (.slice A2 n2 c2)) (p:=⟨wa.heap.size,2,none⟩) rfl (.slice A3 n3' c3)) (p:=⟨wa.heap.size,3,none⟩) rfl (.int .i64 1)) (p:=⟨wa.heap.size,4,none⟩) rfl (.int .i64 0);exact⟨wa.heap.size,A1,n1,c1,A2,n2,c2,A3,n3',c3,rfl,by simpa using((((fL.out.set_ 0 (.slice A1 n1 c1)).set_ 1 (.slice A2 n2 c2)).set_ 2 (.slice A3 n3' c3)).set_ 3 (.int .i64 1)).set_ 4 (.int .i64 0),uD.out.map (fun b o hd=>hf.cell hd.1 hd.2 o) (fun k hk=>by simp;exact hk.1),EN.out⟩
 case rest=>
 obtain⟨b2,B1,m1,d1,B2,m2,d2,B3,m3,d3,rfl,VW,tQ,aT⟩:=hcut;generalize wc=w3 at *;have RY:=aA VW;have Tx:=aA tQ;have bD:=aA (aP.out.next aT);have dD:=aA (bI.out.next aT);have EX:=aA (EW.out.fr (Fr.of (O:=fun _=>False) aT) (fun _ _ _ h=>h));clear VW tQ aT bI aP EW;have EW:=EX;clear EX;go_upto_region 3 with fail
 go_cut [3] (fun v3 wx=>∃bR A1 n1 c1 A2 n2 c2 A3 n3' c3,v3=.pointer (some ⟨bR,0,none⟩)∧Blk wx bR 41 #[.slice A1 n1 c1,.slice A2 n2 c2,.slice A3 n3' c3,.int .i64 1,.int .i64 0]∧SW wx (·<wx.heap.size) (.slice A1 n1 c1) (.slice A2 n2 c2) (.slice A3 n3' c3) [[1]] [] []∧Below w3.heap.size w3 wx)
 case first=>
  refine wp_region_held_drew (S:=fun W=>Below w3.heap.size w3 W) (by kernel_rfl) ((aM _ _).drew) (fun hH=>?_);refine aE ?_;intro wa bP;have hX:Below w3.heap.size w3 wa:=by rw[bP];exact(aM _ _).drew
  replace hH:Below w3.heap.size w3 wa:=hX;have j5:=aA (EW.out.fr (Fr.of (O:=fun _=>False) hX) (fun _ _ _ h=>h));clear bP;refine cH 0 (v:=?_) rfl ?hy hH ?_
  case hy=>(intro bW aN;have t:=(dD.out.next aN).cell;clear aN;go_simp;try with_reducible rfl)
  (try simp only[PU,aD])
  refine wpAnyH_ready (rs:= [1,3]) (by kernel_rfl) (by simp) ?_;refine AllReadyH.cons rfl (fun K hK=>?_) (AllReadyH.cons rfl (fun K hK=>?_) (AllReadyH.nil))
  ·go_simp
   refine(iV 4 wa).mono ?_;rintro en wb ⟨⟨vC,rfl,iM⟩,aR⟩;have uE:=aA (iM.map (D':=(·<wb.heap.size)) (fun _ _ _=>rfl) (fun k hk=>hk.2));obtain⟨AC,nC,cC,rfl⟩:=SW.form1 iM;replace j5:=aA (j5.out.fr (Fr.of (O:=fun _=>False) aR) (fun _ _ _ h=>h));replace hX:=hX.next aR;clear iM aR;refine hK.out _ _ hX (fun hH=>?_);clear hK;(try simp only[PU,aD])
   refine wpAnyH_ready (rs:= [2,3]) (by kernel_rfl) (by simp) ?_;refine AllReadyH.cons rfl (fun K hK=>?_) (AllReadyH.cons rfl (fun K hK=>?_) (AllReadyH.nil))
   ·go_simp
    refine(Z1 j5.out uE.out).mono ?_;rintro en wc ⟨A1,n1,c1,A2,n2,c2,A3,n3',c3,rfl,tQ,aR⟩;have Yw:=aA (tQ.map (D':=(·<wc.heap.size)) (fun _ _ _=>rfl) (fun k hk=>hk.2));replace j5:=aA (j5.out.fr (Fr.of (O:=fun _=>False) aR) (fun _ _ _ h=>h));replace hX:=hX.next aR;clear tQ aR;refine hK.out _ _ hX (fun hH=>?_);clear hK;(try simp only[PU,aD])
    refine cE 3 (by kernel_rfl) rfl (fun K hK=>?_);go_simp;refine hK.out _ _ (hX.alloc hX.size _) (fun hH=>?_);clear hK;(try simp only[PU,aD])
    refine aE ?_;intro wd bS;have aR:Below wc.heap.size wc wd:=by rw[bS];exact(aM _ _).alloc (aH _) _
    have fL:=aA (show Blk wd wc.heap.size 41 #[.slice none 0 0,.slice none 0 0,.slice none 0 0,.int .i64 0,.int .i64 0] by rw[bS];exact Blk.new _ _ _);have JA:wc.heap.size<wd.heap.size:=fL.out.lt;have kQ:=hX.size;replace j5:=aA (j5.out.fr (Fr.of (O:=fun _=>False) aR) (fun _ _ _ h=>h));have uD:=aA (Yw.out.grow (D':=fun k=>k<wd.heap.size∧k≠wc.heap.size) aR (fun k hk=>hk) (fun k hk=>by omega));replace hX:=hX.next aR;replace hH:Below w3.heap.size w3 wd:=hX;clear bS aR;refine cE 4 (by kernel_rfl) rfl (fun K hK=>?_);obtain⟨wO,uH,tX⟩:=fL.out.open_;go_simp;refine hK.out _ _ (((((hX.setCell kQ _).setCell kQ _).setCell kQ _).setCell kQ _).setCell kQ _) (fun hH=>?_);clear hK;(try simp only[PU,aD])
    clear wO uH tX;refine wpAnyH_done (by kernel_rfl) ?_ _;have EN:=aA hH;clear hH hX JA kQ;go_wp2_with fail;go_meet;have hf:=Fr.set (Fr.set (Fr.set (Fr.set (Fr.set (Fr.refl (· =wc.heap.size) wd) (p:=⟨wc.heap.size,0,none⟩) rfl (.slice A1 n1 c1)) (p:=⟨wc.heap.size,1,none⟩) rfl (.slice A2 n2 c2)) (p:=⟨wc.heap.size,2,none⟩) rfl (.slice A3 n3' c3)) (p:=⟨wc.heap.size,3,none⟩) rfl (.int .i64 1)) (p:=⟨wc.heap.size,4,none⟩) rfl (.int .i64 0);exact⟨wc.heap.size,A1,n1,c1,A2,n2,c2,A3,n3',c3,rfl,by simpa using((((fL.out.set_ 0 (.slice A1 n1 c1)).set_ 1 (.slice A2 n2 c2)).set_ 2 (.slice A3 n3' c3)).set_ 3 (.int .i64 1)).set_ 4 (.int .i64 0),uD.out.map (fun b o hd=>hf.cell hd.1 hd.2 o) (fun k hk=>by simp;exact hk.1),EN.out⟩
   ·go_simp
    refine hK.out _ _ (hX.alloc hX.size _) (fun hH=>?_);clear hK;(try simp only[PU,aD])
    refine aE ?_;intro wc bS;have aR:Below wb.heap.size wb wc:=by rw[bS];exact(aM _ _).alloc (aH _) _
    have fL:=aA (show Blk wc wb.heap.size 41 #[.slice none 0 0,.slice none 0 0,.slice none 0 0,.int .i64 0,.int .i64 0] by rw[bS];exact Blk.new _ _ _);have JA:wb.heap.size<wc.heap.size:=fL.out.lt;have kQ:=hX.size;replace j5:=aA (j5.out.fr (Fr.of (O:=fun _=>False) aR) (fun _ _ _ h=>h));replace uE:=aA (uE.out.grow (D':=(·<wc.heap.size)) aR (fun k hk=>hk) (fun k hk=>by omega));replace hX:=hX.next aR;replace hH:Below w3.heap.size w3 wc:=hX;clear bS aR;refine cE 2 (by kernel_rfl) rfl (fun K hK=>?_);go_simp;refine(Z1 j5.out uE.out).mono ?_;rintro en wd ⟨A1,n1,c1,A2,n2,c2,A3,n3',c3,rfl,tQ,aR⟩;have Gv:wb.heap.size<wc.heap.size:=fL.out.lt;have uD:=aA (tQ.map (D':=fun k=>k<wd.heap.size∧k≠wb.heap.size) (fun _ _ _=>rfl) (fun k hk=>by omega));replace j5:=aA (j5.out.fr (Fr.of (O:=fun _=>False) aR) (fun _ _ _ h=>h));replace fL:=aA (fL.out.next aR);replace hX:=hX.next aR;clear tQ aR;refine hK.out _ _ hX (fun hH=>?_);clear hK;(try simp only[PU,aD])
    refine cE 4 (by kernel_rfl) rfl (fun K hK=>?_);obtain⟨wO,uH,tX⟩:=fL.out.open_;go_simp;refine hK.out _ _ (((((hX.setCell kQ _).setCell kQ _).setCell kQ _).setCell kQ _).setCell kQ _) (fun hH=>?_);clear hK;(try simp only[PU,aD])
    clear wO uH tX;refine wpAnyH_done (by kernel_rfl) ?_ _;have EN:=aA hH;clear hH hX JA kQ;go_wp2_with fail;go_meet;have hf:=Fr.set (Fr.set (Fr.set (Fr.set (Fr.set (Fr.refl (· =wb.heap.size) wd) (p:=⟨wb.heap.size,0,none⟩) rfl (.slice A1 n1 c1)) (p:=⟨wb.heap.size,1,none⟩) rfl (.slice A2 n2 c2)) (p:=⟨wb.heap.size,2,none⟩) rfl (.slice A3 n3' c3)) (p:=⟨wb.heap.size,3,none⟩) rfl (.int .i64 1)) (p:=⟨wb.heap.size,4,none⟩) rfl (.int .i64 0);exact⟨wb.heap.size,A1,n1,c1,A2,n2,c2,A3,n3',c3,rfl,by simpa using((((fL.out.set_ 0 (.slice A1 n1 c1)).set_ 1 (.slice A2 n2 c2)).set_ 2 (.slice A3 n3' c3)).set_ 3 (.int .i64 1)).set_ 4 (.int .i64 0),uD.out.map (fun b o hd=>hf.cell hd.1 hd.2 o) (fun k hk=>by simp;exact hk.1),EN.out⟩
  ·go_simp
   refine hK.out _ _ (hX.alloc hX.size _) (fun hH=>?_);clear hK;(try simp only[PU,aD])
   refine aE ?_;intro wb bS;have aR:Below wa.heap.size wa wb:=by rw[bS];exact(aM _ _).alloc (aH _) _
   have fL:=aA (show Blk wb wa.heap.size 41 #[.slice none 0 0,.slice none 0 0,.slice none 0 0,.int .i64 0,.int .i64 0] by rw[bS];exact Blk.new _ _ _);have JA:wa.heap.size<wb.heap.size:=fL.out.lt;have kQ:=hX.size;replace j5:=aA (j5.out.fr (Fr.of (O:=fun _=>False) aR) (fun _ _ _ h=>h));replace hX:=hX.next aR;replace hH:Below w3.heap.size w3 wb:=hX;clear bS aR;refine cE 1 (by kernel_rfl) rfl (fun K hK=>?_);go_simp;refine(iV 4 wb).mono ?_;rintro en wc ⟨⟨vC,rfl,iM⟩,aR⟩;have uE:=aA (iM.map (D':=(·<wc.heap.size)) (fun _ _ _=>rfl) (fun k hk=>hk.2));obtain⟨AC,nC,cC,rfl⟩:=SW.form1 iM;replace j5:=aA (j5.out.fr (Fr.of (O:=fun _=>False) aR) (fun _ _ _ h=>h));replace fL:=aA (fL.out.next aR);replace hX:=hX.next aR;clear iM aR;refine hK.out _ _ hX (fun hH=>?_);clear hK;(try simp only[PU,aD])
   refine cE 2 (by kernel_rfl) rfl (fun K hK=>?_);go_simp;refine(Z1 j5.out uE.out).mono ?_;rintro en wd ⟨A1,n1,c1,A2,n2,c2,A3,n3',c3,rfl,tQ,aR⟩;have Gv:wa.heap.size<wc.heap.size:=fL.out.lt;have uD:=aA (tQ.map (D':=fun k=>k<wd.heap.size∧k≠wa.heap.size) (fun _ _ _=>rfl) (fun k hk=>by omega));replace j5:=aA (j5.out.fr (Fr.of (O:=fun _=>False) aR) (fun _ _ _ h=>h));replace fL:=aA (fL.out.next aR);replace hX:=hX.next aR;clear tQ aR;refine hK.out _ _ hX (fun hH=>?_);clear hK;(try simp only[PU,aD])
   refine cE 4 (by kernel_rfl) rfl (fun K hK=>?_);obtain⟨wO,uH,tX⟩:=fL.out.open_;go_simp;refine hK.out _ _ (((((hX.setCell kQ _).setCell kQ _).setCell kQ _).setCell kQ _).setCell kQ _) (fun hH=>?_);clear hK;(try simp only[PU,aD])
   clear wO uH tX;refine wpAnyH_done (by kernel_rfl) ?_ _;have EN:=aA hH;clear hH hX JA kQ;go_wp2_with fail;go_meet;have hf:=Fr.set (Fr.set (Fr.set (Fr.set (Fr.set (Fr.refl (· =wa.heap.size) wd) (p:=⟨wa.heap.size,0,none⟩) rfl (.slice A1 n1 c1)) (p:=⟨wa.heap.size,1,none⟩) rfl (.slice A2 n2 c2)) (p:=⟨wa.heap.size,2,none⟩) rfl (.slice A3 n3' c3)) (p:=⟨wa.heap.size,3,none⟩) rfl (.int .i64 1)) (p:=⟨wa.heap.size,4,none⟩) rfl (.int .i64 0);exact⟨wa.heap.size,A1,n1,c1,A2,n2,c2,A3,n3',c3,rfl,by simpa using((((fL.out.set_ 0 (.slice A1 n1 c1)).set_ 1 (.slice A2 n2 c2)).set_ 2 (.slice A3 n3' c3)).set_ 3 (.int .i64 1)).set_ 4 (.int .i64 0),uD.out.map (fun b o hd=>hf.cell hd.1 hd.2 o) (fun k hk=>by simp;exact hk.1),EN.out⟩
 case rest=>
 obtain⟨b3,C1,k1,f1,C2,k2,f2,C3,k3,f3,rfl,VW,tQ,bV⟩:=hcut;generalize wc=w4 at *;have QL:=aA VW;have Na:=aA tQ;have dQ:=aA (bD.out.next bV);have ES:=aA (RY.out.next bV);have Yr:=aA (Tx.out.grow (D':=(·<w4.heap.size)) bV (fun k hk=>hk) (fun k hk=>dX hk bV.size));clear VW tQ bV RY Tx dD bD EW;go_upto_region 4 with fail;refine wp_region_held_drew (S:=fun W=>Below w4.heap.size w4 W) (by kernel_rfl) ((aM _ _).drew) (fun hH=>?_);refine aE ?_;intro wa bP;have hX:Below w4.heap.size w4 wa:=by rw[bP];exact(aM _ _).drew
 replace hH:Below w4.heap.size w4 wa:=hX;clear bP;refine aW 0 (v:=?_) rfl hH ?_;(try simp only[PU,aD])
 refine cH 1 (v:=?_) rfl ?hy hH ?_
 case hy=>(intro bW aN;have t:=(ES.out.next aN).cell;have t':=(QL.out.next aN).cell;clear aN;go_simp;try with_reducible rfl)
 (try simp only[PU,aD])
 refine aW 2 (v:=?_) rfl hH ?_;(try simp only[PU,aD])
 refine aW 3 (v:=?_) rfl hH ?_;(try simp only[PU,aD])
 refine aW 4 (v:=?_) rfl hH ?_;(try simp only[PU,aD])
 refine cH 5 (v:=?_) rfl ?hy hH ?_
 case hy=>(intro bW aN;have t:=(ES.out.next aN).cell;have t':=(QL.out.next aN).cell;clear aN;go_simp;try with_reducible rfl)
 (try simp only[PU,aD])
 refine aW 6 (v:=?_) rfl hH ?_;(try simp only[PU,aD])
 refine aW 7 (v:=?_) rfl hH ?_;(try simp only[PU,aD])
 refine aW 8 (v:=?_) rfl hH ?_;(try simp only[PU,aD])
 refine aW 9 (v:=?_) rfl hH ?_;(try simp only[PU,aD])
 refine cH 10 (v:=?_) rfl ?hy hH ?_
 case hy=>(intro bW aN;have t:=(ES.out.next aN).cell;have t':=(QL.out.next aN).cell;clear aN;go_simp;try with_reducible rfl)
 (try simp only[PU,aD])
 refine aW 11 (v:=?_) rfl hH ?_;(try simp only[PU,aD])
 refine aW 12 (v:=?_) rfl hH ?_;(try simp only[PU,aD])
 refine aW 13 (v:=?_) rfl hH ?_;(try simp only[PU,aD])
 refine aW 14 (v:=?_) rfl hH ?_;(try simp only[PU,aD])
 refine cH 15 (v:=?_) rfl ?hy hH ?_
 case hy=>(intro bW aN;have t:=(ES.out.next aN).cell;have t':=(QL.out.next aN).cell;clear aN;go_simp;try with_reducible rfl)
 (try simp only[PU,aD])
 refine aW 16 (v:=?_) rfl hH ?_;(try simp only[PU,aD])
 refine aW 17 (v:=?_) rfl hH ?_;(try simp only[PU,aD])
 refine aW 18 (v:=?_) rfl hH ?_;(try simp only[PU,aD])
 refine aW 19 (v:=?_) rfl hH ?_;(try simp only[PU,aD])
 refine cH 20 (v:=?_) rfl ?hy hH ?_
 case hy=>(intro bW aN;have t:=(ES.out.next aN).cell;have t':=(QL.out.next aN).cell;clear aN;go_simp;try with_reducible rfl)
 (try simp only[PU,aD])
 refine cE 21 (by kernel_rfl) rfl (fun K hK=>?_);go_simp;refine(iV 7 wa).mono ?_;rintro en wb ⟨⟨vC,rfl,iM⟩,aR⟩;have uE:=aA (iM.map (D':=(·<wb.heap.size)) (fun _ _ _=>rfl) (fun k hk=>hk.2));obtain⟨AC,nC,cC,rfl⟩:=SW.form1 iM;replace hX:=hX.next aR;clear iM aR;refine hK.out _ _ hX (fun hH=>?_);clear hK;(try simp only[PU,aD])
 refine cE 22 (by kernel_rfl) rfl (fun K hK=>?_);go_simp;refine(YT (Yr.out.grow (D':=(·<wb.heap.size)) hX (fun k hk=>hk) (fun k hk=>dX hk hX.size)) uE.out).mono ?_;rintro en wc ⟨rfl,aR⟩;replace hX:=hX.next aR;clear aR uE;refine hK.out _ _ hX (fun hH=>?_);clear hK;(try simp only[PU,aD])
 refine aW 23 (v:=?_) rfl hH ?_;(try simp only[PU,aD])
 refine aW 24 (v:=?_) rfl hH ?_;(try simp only[PU,aD])
 refine aW 25 (v:=?_) rfl hH ?_;(try simp only[PU,aD])
 refine cH 26 (v:=?_) rfl ?hy hH ?_
 case hy=>(intro bW aN;have t:=(ES.out.next aN).cell;have t':=(QL.out.next aN).cell;clear aN;go_simp;try with_reducible rfl)
 (try simp only[PU,aD])
 refine cE 27 (by kernel_rfl) rfl (fun K hK=>?_);go_simp;refine(iV 1 wc).mono ?_;rintro en wd ⟨⟨vC,rfl,iM⟩,aR⟩;have uE:=aA (iM.map (D':=(·<wd.heap.size)) (fun _ _ _=>rfl) (fun k hk=>hk.2));obtain⟨AC,nC,cC,rfl⟩:=SW.form1 iM;replace hX:=hX.next aR;clear iM aR;refine hK.out _ _ hX (fun hH=>?_);clear hK;(try simp only[PU,aD])
 refine cE 28 (by kernel_rfl) rfl (fun K hK=>?_);go_simp;refine(YT (Na.out.grow (D':=(·<wd.heap.size)) hX (fun k hk=>hk) (fun k hk=>dX hk hX.size)) uE.out).mono ?_;rintro en we ⟨rfl,aR⟩;replace hX:=hX.next aR;clear aR uE;refine hK.out _ _ hX (fun hH=>?_);clear hK;(try simp only[PU,aD])
 refine aW 29 (v:=?_) rfl hH ?_;(try simp only[PU,aD])
 refine aW 30 (v:=?_) rfl hH ?_;(try simp only[PU,aD])
 refine wpAnyH_done (by kernel_rfl) ?_ _;have HX:=aA hX;clear hX hH;go_wp2_with fail;go_ret;exact⟨rfl,dQ.out.next HX.out⟩
end Go.Proofs.YtakfdnnlhjhcfaaGreatDoor
