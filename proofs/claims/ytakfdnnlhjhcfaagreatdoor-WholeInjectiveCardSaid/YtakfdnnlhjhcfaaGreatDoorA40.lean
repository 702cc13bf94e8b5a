/- Part of the proof. -/
import Derived.Test.YtakfdnnlhjhcfaaGreatDoorA27
import Derived.Test.YtakfdnnlhjhcfaaGreatDoorA39
set_option linter.unusedVariables false
set_option linter.unusedSimpArgs false
set_option maxRecDepth 100000
set_option maxHeartbeats 4000000
namespace Go.Proofs.YtakfdnnlhjhcfaaGreatDoor
open Go.RowKit Bk
theorem GA{w:World}{b g c r:Nat}(h:PT w b g c r 6):Calls Tryz.prog 211 #[.pointer (some ⟨b,0,none⟩)] w fun e w'=>e=.returned (.agg #[.int .u8 1,.int .i64 3,.string ⟨#[]⟩,.slice none 0 0])∧PT w' b g c r 7∧Fr (· =b) w w':=by
 have ft0:=vH;have H:=aA h;have IY:=h.pa.blk.lt;clear h;go_enter Tryz.func211,Tryz.ntmps211;go_upto_region 1 with fail;refine aB ?_;intro w1 aF;have aG:Below w.heap.size w w1:=by rw[aF];go_grown
 have K1:Blk w1 w.heap.size 26 #[.int .u8 0,.int .i64 0,.string ⟨#[]⟩,.slice none 0 0]:=by rw[aF];exact aQ
 have a9:=aA K1;have iL:=aA (Fr.of (O:=(· =b)) aG);have H1:=aA (H.out.next aG);clear aF aG K1;go_wp2_with fail;refine(iH H1.out.pa (2,⟨#[51]⟩,18) rfl).mono ?_;rintro en w2 ⟨rfl,hb2⟩;have H2:=aA (H1.out.next hb2);have lG:=aA (iL.out.next hb2);have bI:=aA (a9.out.next hb2);clear hb2;go_wp2_with fail;refine(MO H2.out).mono ?_;rintro en w3 ⟨rfl,h3,kE⟩;have H3:=aA h3;have jK:=aA (lG.out.trans kE);have dD:=aA (kE.blk bI.out (by omega));clear h3 kE;obtain⟨XQ,SZ,RG⟩:=dD.out.open_;go_wp2_with fail;have K9:=(((dD.out.set_ 0 (.int .u8 1)).set_ 1 (.int .i64 3)).set_ 2 (.string ⟨#[]⟩)).set_ 3 (.slice none 0 0);refine bodyPost_ret_by (results_cell_row rfl _ _ w.heap.size 26 #[.int .u8 1,.int .i64 3,.string ⟨#[]⟩,.slice none 0 0] _ _ rfl (show Blk _ w.heap.size 26 #[.int .u8 1,.int .i64 3,.string ⟨#[]⟩,.slice none 0 0] by simpa using K9) Tryz.underlying26 rfl (by rw[fH];rfl)) rfl ?_;exact⟨rfl,H.out.fin H3.out jK.out (aH _) _ _ _ _⟩
theorem MS{w:World}{b g c r:Nat}(h:PT w b g c r 6):Calls Tryz.prog 202 #[.pointer (some ⟨b,0,none⟩)] w fun e w'=>e=.returned (.agg #[.int .u8 1,.int .i64 3,.string ⟨#[]⟩,.slice none 0 0])∧PT w' b g c r 7∧Fr (· =b) w w':=by
 have H:=aA h;have IY:=h.pa.blk.lt;clear h;go_enter Tryz.func202,Tryz.ntmps202;go_upto_region 1 with fail;refine aB ?_;intro w1 aF;have aG:Below w.heap.size w w1:=by rw[aF];go_grown
 have K1:Blk w1 w.heap.size 26 #[.int .u8 0,.int .i64 0,.string ⟨#[]⟩,.slice none 0 0]:=by rw[aF];exact aQ
 have a9:=aA K1;have iL:=aA (Fr.of (O:=(· =b)) aG);have H1:=aA (H.out.next aG);clear aF aG K1;go_wp2_with fail;refine(tM H1.out (2,⟨#[51]⟩,18) rfl ⟨#[45]⟩ (by decide+kernel)).mono ?_;rintro en w2 ⟨rfl,hb2⟩;have H2:=aA (H1.out.next hb2);have lG:=aA (iL.out.next hb2);have bI:=aA (a9.out.next hb2);clear hb2;go_wp2_with fail;refine(tM H2.out (2,⟨#[51]⟩,18) rfl ⟨#[33]⟩ (by decide+kernel)).mono ?_;rintro en w3 ⟨rfl,aT⟩;have H3:=aA (H2.out.next aT);have jK:=aA (lG.out.next aT);have dD:=aA (bI.out.next aT);clear aT;go_wp2_with fail;refine(GA H3.out).mono ?_;rintro en w4 ⟨rfl,h4,pI⟩;have H4:=aA h4;have l9:=aA (jK.out.trans pI);have eG:=aA (pI.blk dD.out (by omega));clear h4 pI;obtain⟨XQ,SZ,RG⟩:=eG.out.open_;go_wp2_with fail;have K9:=(((eG.out.set_ 0 (.int .u8 1)).set_ 1 (.int .i64 3)).set_ 2 (.string ⟨#[]⟩)).set_ 3 (.slice none 0 0);refine bodyPost_ret_by (results_cell_row rfl _ _ w.heap.size 26 #[.int .u8 1,.int .i64 3,.string ⟨#[]⟩,.slice none 0 0] _ _ rfl (show Blk _ w.heap.size 26 #[.int .u8 1,.int .i64 3,.string ⟨#[]⟩,.slice none 0 0] by simpa using K9) Tryz.underlying26 rfl (by rw[fH];rfl)) rfl ?_;exact⟨rfl,H.out.fin H4.out l9.out (aH _) _ _ _ _⟩
theorem XR(w:World):(zeroValue 5).run Tryz.prog w=.ok (.int .u8 0) w:=by kernel_rfl
theorem UM{w:World}{b g c r:Nat}(h:PT w b g c r 6):Calls Tryz.prog 187 #[.pointer (some ⟨b,0,none⟩),.int .i64 1] w fun e w'=>e=.returned (.agg #[.int .u8 1,.int .i64 3,.string ⟨#[]⟩,.slice none 0 0])∧PT w' b g c r 7∧Fr (· =b) w w':=by
 have ft1:=fD;have H:=aA h;have IY:=h.pa.blk.lt;clear h;go_enter Tryz.func187,Tryz.ntmps187;go_upto_region 1 with fail;refine aB ?_;intro w1 aF;have aG:Below w.heap.size w w1:=by rw[aF];go_grown
 have K1:Blk w1 w.heap.size 26 #[.int .u8 0,.int .i64 0,.string ⟨#[]⟩,.slice none 0 0]:=by rw[aF];exact aQ
 have a9:=aA K1;have iL:=aA (Fr.of (O:=(· =b)) aG);have H1:=aA (H.out.next aG);clear aF aG K1;go_wp2_with fail;refine(MS H1.out).mono ?_;rintro en w2 ⟨rfl,h2,iJ⟩;have H2:=aA h2;have lG:=aA (iL.out.trans iJ);have bI:=aA (iJ.blk a9.out (by omega));clear h2 iJ;go_upto_region 2 with fail;refine aB ?_;intro w3 dP;have aT:Below w2.heap.size w2 w3:=by rw[dP];go_grown
 have KN:Blk w3 w2.heap.size 26 #[.int .u8 1,.int .i64 3,.string ⟨#[]⟩,.slice none 0 0]:=by rw[dP];exact aQ
 have Xu:=aA KN;have H3:=aA (H2.out.next aT);have jK:=aA (lG.out.next aT);have dD:=aA (bI.out.next aT);have bD:=aA H3.out.pa.blk;clear dP aT KN
 go_loopw [] (fun wr=>w3=wr) (fun _=>0)
 case atStart=>rfl
 case round=>
  obtain rfl:=hrel;go_upto_region 2 with fail;refine wp_region_held_drew (S:=fun W=>Below w3.heap.size w3 W) (by kernel_rfl) ((aM _ _).drew) (fun hH=>?_);refine aE ?_;intro wa bP;have hX:Below w3.heap.size w3 wa:=by rw[bP];exact(aM _ _).drew
  replace hH:Below w3.heap.size w3 wa:=hX;clear bP;refine aW 0 (v:=?_) rfl hH ?_;(try simp only[PU,aD])
  refine aW 1 (v:=?_) rfl hH ?_;(try simp only[PU,aD])
  refine aW 2 (v:=?_) rfl hH ?_;(try simp only[PU,aD])
  refine cH 3 (v:=?_) rfl ?hy hH ?_
  case hy=>(intro bW aN;have t:=(bD.out.next aN).cell;clear aN;go_simp;try with_reducible rfl)
  (try simp only[PU,aD])
  refine aW 4 (v:=?_) rfl hH ?_;(try simp only[PU,aD])
  refine cE 5 (by kernel_rfl) rfl (fun K hK=>?_);go_simp;refine(iH (H3.out.next hX).pa (3,⟨#[59]⟩,19) rfl).mono ?_;rintro en wb ⟨rfl,aR⟩;replace hX:=hX.next aR;clear aR;refine hK.out _ _ hX (fun hH=>?_);clear hK;(try simp only[PU,aD])
  refine aW 6 (v:=?_) rfl hH ?_;(try simp only[PU,aD])
  refine cE 7 (by kernel_rfl) rfl (fun K hK=>?_);have hlk:=MapB.look (P:=Tryz.prog) (mty:=100) Tryz.underlying100 Tryz.underlying9 (XR _) (H3.out.next hX).mp;go_simp;refine hK.out _ _ hX (fun hH=>?_);clear hK;(try simp only[PU,aD])
  clear hlk;refine aW 8 (v:=?_) rfl hH ?_;(try simp only[PU,aD])
  refine aW 9 (v:=?_) rfl hH ?_;(try simp only[PU,aD])
  refine aW 10 (v:=?_) rfl hH ?_;(try simp only[PU,aD])
  refine aW 11 (v:=?_) rfl hH ?_;(try simp only[PU,aD])
  refine aW 12 (v:=?_) rfl hH ?_;(try simp only[PU,aD])
  refine wpAnyH_done (by kernel_rfl) ?_ _;have HX:=aA hX;have H4:=aA (H3.out.next hX);have l9:=aA (jK.out.next hX);have eG:=aA (dD.out.next hX);have YC:=aA (Xu.out.next hX);clear hX hH;obtain⟨XQ,SZ,RG⟩:=eG.out.open_;obtain⟨aBl,aAV,aAR⟩:=YC.out.open_;go_wp2_with fail;have K9:=(((eG.out.set_ 0 (.int .u8 1)).set_ 1 (.int .i64 3)).set_ 2 (.string ⟨#[]⟩)).set_ 3 (.slice none 0 0);refine bodyPost_ret_by (results_cell_row rfl _ _ w.heap.size 26 #[.int .u8 1,.int .i64 3,.string ⟨#[]⟩,.slice none 0 0] _ _ rfl (show Blk _ w.heap.size 26 #[.int .u8 1,.int .i64 3,.string ⟨#[]⟩,.slice none 0 0] by simpa using K9) Tryz.underlying26 rfl (by rw[fH];rfl)) rfl ?_;exact⟨rfl,H.out.fin H4.out l9.out (aH _) _ _ _ _⟩
def K2At(w:World)(lo g2:Nat):Prop:=Blk w g2 26 #[.int .u8 2,.int .i64 0,.string ⟨#[120]⟩,.slice none 0 0,.int .u8 1,.int .i64 3,.string ⟨#[]⟩,.slice none 0 0]∧lo<=g2
theorem MT{w:World}{b g c r:Nat}(h:PT w b g c r 4):Calls Tryz.prog 172 #[.pointer (some ⟨b,0,none⟩)] w fun e w'=>(∃g2,e=.returned (.agg #[.int .u8 40,.int .i64 0,.string ⟨#[]⟩,.slice (some ⟨g2,0,none⟩) 2 2])∧K2At w' w.heap.size g2)∧PT w' b g c r 7∧Fr (· =b) w w':=by
 have ft1:=fD;have H:=aA h;have IY:=h.pa.blk.lt;clear h;go_enter Tryz.func172,Tryz.ntmps172;go_upto_region 1 with fail;refine aB ?_;intro w1 aF;have aG:Below w.heap.size w w1:=by rw[aF];go_grown
 have K1:Blk w1 w.heap.size 26 #[.int .u8 0,.int .i64 0,.string ⟨#[]⟩,.slice none 0 0]:=by rw[aF];exact aQ
 have a9:=aA K1;have iL:=aA (Fr.of (O:=(· =b)) aG);have H1:=aA (H.out.next aG);clear aF aG K1;go_wp2_with fail;refine(VB H1.out 13 rfl (3,⟨#[43,61]⟩,15) rfl (by decide+kernel)).mono ?_;rintro en w2 ⟨rfl,h2,iJ⟩;have H2:=aA h2;have lG:=aA (iL.out.trans iJ);have bI:=aA (iJ.blk a9.out (by omega));clear h2 iJ;go_upto_region 3 with fail;refine aB ?_;intro w3 dP;have aT:Below w2.heap.size w2 w3:=by rw[dP];go_grown
 have KN:Blk w3 w2.heap.size 26 #[.int .u8 2,.int .i64 0,.string ⟨#[120]⟩,.slice none 0 0]:=by rw[dP];exact aQ
 have Xu:=aA KN;have H3:=aA (H2.out.next aT);have jK:=aA (lG.out.next aT);have dD:=aA (bI.out.next aT);have hn3:w2.heap.size≠b:=by have:=H2.out.pa.blk.lt;omega
 clear dP aT KN;go_wp2_with fail;refine(iH H3.out.pa (3,⟨#[43,61]⟩,15) rfl).mono ?_;rintro en w4 ⟨rfl,bV⟩;have H4:=aA (H3.out.next bV);have l9:=aA (jK.out.next bV);have eG:=aA (dD.out.next bV);have YC:=aA (Xu.out.next bV);clear bV;obtain⟨T7,I0,G5⟩:=H4.out.pa.blk.open_;go_upto_region 19 with fail;refine aB ?_;intro w5 jS;have r9:Fr (· =b) w4 w5:=by rw[jS];exact Fr.set (Fr.refl (· =b) _) rfl _
 have hp5:PA w5 b g 9 6 c (.map (some r)) BV 23:=H4.out.pa.step r9 (by rw[jS];simpa using H4.out.pa.blk.set_ 1 (.int .i64 6));have H5:=aA (H4.out.fr r9 hp5);have s7:=aA (l9.out.trans r9);have lX:=aA (r9.blk eG.out (by omega));have Mc:=aA (r9.blk YC.out hn3);clear jS r9 hp5 T7 I0 G5;go_wp2_with fail;refine(UM H5.out).mono ?_;rintro en w6 ⟨rfl,h6,wS⟩;have H6:=aA h6;have pQ:=aA (s7.out.trans wS);have oF:=aA (wS.blk lX.out (by omega));have IQ:=aA (wS.blk Mc.out (by exact hn3));clear h6 wS;go_upto_region 20 with fail;refine aB ?_;intro w7 hw7;have pE:Below w6.heap.size w6 w7:=by rw[hw7];go_grown
 have KM:Blk w7 w6.heap.size 26 #[.int .u8 1,.int .i64 3,.string ⟨#[]⟩,.slice none 0 0]:=by rw[hw7];exact aQ
 have H7:=aA (H6.out.next pE);have E6:=aA (pQ.out.next pE);have E8:=aA (oF.out.next pE);have Ch:=aA (IQ.out.next pE);have HM7:=aA KM;clear hw7 pE KM;have hz7:w.heap.size<=w7.heap.size:=E6.out.size;have hk7:w.heap.size<w7.heap.size:=E8.out.lt;obtain⟨Tf,Nr,Jz⟩:=E8.out.open_;obtain⟨z_N,Zx,Vn⟩:=Ch.out.open_;obtain⟨z_M,T_M,F_M⟩:=HM7.out.open_;go_wp2_with fail;have K9:=(((E8.out.set_ 0 (.int .u8 40)).set_ 1 (.int .i64 0)).set_ 2 (.string ⟨#[]⟩)).set_ 3 (.slice (some ⟨w7.heap.size,0,none⟩) 2 2);have hF:=H.out.fin H7.out E6.out (aH _) (.int .u8 40) (.int .i64 0) (.string ⟨#[]⟩) (.slice (some ⟨w7.heap.size,0,none⟩) 2 2);refine bodyPost_ret_by (results_cell_row rfl _ _ w.heap.size 26 #[.int .u8 40,.int .i64 0,.string ⟨#[]⟩,.slice (some ⟨w7.heap.size,0,none⟩) 2 2] _ _ rfl (show Blk _ w.heap.size 26 #[.int .u8 40,.int .i64 0,.string ⟨#[]⟩,.slice (some ⟨w7.heap.size,0,none⟩) 2 2]from Blk.alloc (by simpa using K9) _) Tryz.underlying26 rfl (by rw[fH];rfl)) rfl ?_;exact⟨⟨_,rfl,⟨Blk.new' (by simp) _ _,by omega⟩⟩,hF.1.next ((aM _ _).alloc (aH _) _),hF.2.next ((aM _ _).alloc (aH _) _)⟩
theorem Fk{w:World}{b g c r:Nat}(h:PT w b g c r 4):Calls Tryz.prog 148 #[.pointer (some ⟨b,0,none⟩)] w fun e w'=>(∃g2,e=.returned (.agg #[.int .u8 40,.int .i64 0,.string ⟨#[]⟩,.slice (some ⟨g2,0,none⟩) 2 2])∧K2At w' w.heap.size g2)∧PT w' b g c r 7∧Fr (· =b) w w':=by
 have ft1:=fD;have H:=aA h;have IY:=h.pa.blk.lt;clear h;go_enter Tryz.func148,Tryz.ntmps148;go_upto_region 1 with fail;refine aB ?_;intro w1 aF;have aG:Below w.heap.size w w1:=by rw[aF];go_grown
 have K1:Blk w1 w.heap.size 26 #[.int .u8 0,.int .i64 0,.string ⟨#[]⟩,.slice none 0 0]:=by rw[aF];exact aQ
 have a9:=aA K1;have iL:=aA (Fr.of (O:=(· =b)) aG);have H1:=aA (H.out.next aG);clear aF aG K1;go_wp2_with fail;refine(iH H1.out.pa (1,⟨#[120]⟩,13) rfl).mono ?_;rintro en w2 ⟨rfl,hb2⟩;have H2:=aA (H1.out.next hb2);have lG:=aA (iL.out.next hb2);have bI:=aA (a9.out.next hb2);clear hb2;go_upto_region 24 with fail;go_wp2_with fail;refine(MT H2.out).mono ?_;rintro en w3 ⟨⟨g2,rfl,k2⟩,h3,kE⟩;have H3:=aA h3;have jK:=aA (lG.out.trans kE);have dD:=aA (kE.blk bI.out (by omega));have Wx:=aA k2;have OL:w.heap.size<w2.heap.size:=bI.out.lt;clear h3 kE k2;obtain⟨XQ,SZ,RG⟩:=dD.out.open_;go_wp2_with fail;have K9:=(((dD.out.set_ 0 (.int .u8 40)).set_ 1 (.int .i64 0)).set_ 2 (.string ⟨#[]⟩)).set_ 3 (.slice (some ⟨g2,0,none⟩) 2 2);refine bodyPost_ret_by (results_cell_row rfl _ _ w.heap.size 26 #[.int .u8 40,.int .i64 0,.string ⟨#[]⟩,.slice (some ⟨g2,0,none⟩) 2 2] _ _ rfl (show Blk _ w.heap.size 26 #[.int .u8 40,.int .i64 0,.string ⟨#[]⟩,.slice (some ⟨g2,0,none⟩) 2 2] by simpa using K9) Tryz.underlying26 rfl (by rw[fH];rfl)) rfl ?_;obtain⟨kb,kl⟩:=Wx.out;exact⟨⟨g2,rfl,⟨(Fr.set (Fr.set (Fr.set (Fr.set (Fr.refl (· =w.heap.size) _) rfl _) rfl _) rfl _) rfl _).blk kb (by omega),by omega⟩⟩,H.out.fin H3.out jK.out (aH _) _ _ _ _⟩
theorem fW(c:Int)(w:World):Calls Tryz.prog 88 #[.int .u8 c] w fun e w'=>e=.returned (.bool (c==32||c==9||c==13||c==10))∧w'=w:=by
 go_enter Tryz.func88,Tryz.ntmps88;go_wp2_with fail
 all_goals go_ret
 all_goals exact⟨by simp_all,rfl⟩
theorem fP(f:FuncId)(p:Int->Bool)(eg:∀(args:Array Value)(w:World),(callFunc f args).run Tryz.prog w=.ok (.enter f args) w)(Pu:∀c w,Calls Tryz.prog f #[.int .u8 c] w fun e w'=>e=.returned (.bool (p c))∧w'=w)
  (s:ByteArray) (hs:s.size<=1000) (n:Nat) (hn:n<=s.size) (h1:∀i(h:i<s.size),i<n->p (s[i].toNat:Int)=true) (h2:∀h:n<s.size,p (s[n].toNat:Int)=false) (w:World):
  Calls Tryz.prog 85 #[.string s,.func (.func f) #[] #[]] w fun e w'=>e=.returned (.int .i64 n)∧w'=w:=by
 have H1:=aA h1;have H2:=aA h2;have HC:=aA Pu;have eg':=eg;clear h1 h2 Pu eg;go_enter Tryz.func85,Tryz.ntmps85;go_wp2_with fail
 go_loopw [8] (fun v8 wr=>∃j:Nat,j<=n∧v8=.int .i64 j∧wr=w) (fun v _=>s.size-(intOf v).toNat)
 case atStart=>exact⟨0,fI _,rfl,rfl⟩
 case round=>
  obtain⟨j,hj,rfl,rfl⟩:=hrel;by_cases eI:j<s.size
  ·have j1:(j:Int)<(s.size:Int):=by omega
   have j0:(0:Int)<=(j:Int):=by omega
   rcases Nat.lt_or_ge j n with e9|e9
   ·have hb:=H1.out j eI e9
    have HB:=aA (HC.out (s[j].toNat:Int));rw[hb]at HB;clear hb;go_wp2_with fail;refine(HB.out _).mono ?_;rintro e w' ⟨rfl,rfl⟩;go_wp2_with fail;exact⟨⟨j+1,by omega,by go_num,by trivial⟩,by simp[intOf];omega⟩
   ·obtain rfl:n=j:=by omega
    have hb:=H2.out eI;have HB:=aA (HC.out (s[n].toNat:Int));rw[hb]at HB;clear hb;go_wp2_with fail;refine(HB.out _).mono ?_;rintro e w' ⟨rfl,rfl⟩;go_wp2_with fail;go_ret;exact⟨rfl,rfl⟩
  ·obtain rfl:s.size=j:=by omega
   obtain rfl:s.size=n:=by omega
   go_wp2_with fail;go_ret;exact⟨rfl,rfl⟩
theorem x8(s:ByteArray)(h3:((s.extract 0 3).toList== [60,61,62])=false)(w:World):Calls Tryz.prog 118 #[.string s,.string ⟨#[60,61,62]⟩] w fun e w'=>e=.returned (.bool false)∧w'=w:=by
 have h:∀w,Calls Tryz.prog 151 #[.string s,.string ⟨#[60,61,62]⟩] w fun e w'=>e=.returned (.bool false)∧w'=w:=fun w=>by
  by_cases hl:3<=s.size
  ·have oS:(3:Int)<=(s.size:Int):=by omega
   go_enter Tryz.func151,Tryz.ntmps151;go_wp2_with fail;go_ret;exact⟨rfl,rfl⟩
  ·have oS:decide ((3:Int)<=(s.size:Int))=false:=by simp;omega
   go_enter Tryz.func151,Tryz.ntmps151;go_wp2_with fail;go_ret;exact⟨rfl,rfl⟩
 go_enter Tryz.func118,Tryz.ntmps118;go_wp2_with fail;refine(h _).mono ?_;rintro e w' ⟨rfl,rfl⟩;go_wp2_with fail;go_ret;exact⟨rfl,rfl⟩
theorem z8(s:ByteArray)(c:Int)(w:World):Calls Tryz.prog 119 #[.string s,.int .u8 c] w fun e w'=>e=.returned (.int .i64 (Lib.indexByte s.data.toList c.toNat.toUInt8))∧w'=w:=by
 have h:∀w,Calls Tryz.prog 152 #[.string s,.int .u8 c] w fun e w'=>e=.returned (.int .i64 (Lib.indexByte s.data.toList c.toNat.toUInt8))∧w'=w:=fun w=>by
  go_enter Tryz.func152,Tryz.ntmps152;go_wp2;rw[run_callFunc_extern Tryz.func173 (by kernel_rfl) (by kernel_rfl) (by kernel_rfl) (e:=Extern.BytealgIndexByte.indexByte) (by kernel_rfl),Lib.run_indexByteString];simp only[Result.andThen];rw[Oper.upon_value];go_wp2;go_ret;exact⟨rfl,rfl⟩
 go_enter Tryz.func119,Tryz.ntmps119;go_wp2_with fail;refine(h _).mono ?_;rintro e w' ⟨rfl,rfl⟩;go_wp2_with fail;go_ret;exact⟨rfl,rfl⟩
theorem A7(s t2:ByteArray)(hs:1<=s.size)(h3:((s.extract 0 3).toList== [60,61,62])=false)(k:Nat)(hk:min 2 s.size=k)(ht:s.extract 0 k=t2)(n1:(t2.toList== [58,61])=false)(n2:(t2.toList== [43,61])=false)(n3:(t2.toList== [45,61])=false)(n4:(t2.toList== [94,61])=false)(n5:(t2.toList== [61,61])=false)(n6:(t2.toList== [33,61])=false)(n7:(t2.toList== [60,61])=false)(n8:(t2.toList== [62,61])=false)(n9:(t2.toList== [38,38])=false)(n10:(t2.toList== [124,124])=false)
  (hix:0<=Lib.indexByte (⟨#[43,45,42,47,37,38,124,94,33,61,60,62,40,41,123,125,91,93,59,44]⟩:ByteArray).data.toList ((s[0]'(by omega)).toNat:Int).toNat.toUInt8) (w:World):Calls Tryz.prog 90 #[.string s] w fun e w'=>e=.returned (.int .i64 1)∧w'=w:=by
 have hm:min (2:Int) (s.size:Int)=(k:Int):=by omega
 have h0:(0:Int)<=(k:Int):=by omega
 have h1:(k:Int)<=(s.size:Int):=by omega
 have h2:(0:Int)<(s.size:Int):=by omega
 have nG:=aA (z8 (⟨#[43,45,42,47,37,38,124,94,33,61,60,62,40,41,123,125,91,93,59,44]⟩) ((s[0]'(by omega)).toNat:Int));obtain⟨ix,hix2⟩:∃i,Lib.indexByte (⟨#[43,45,42,47,37,38,124,94,33,61,60,62,40,41,123,125,91,93,59,44]⟩:ByteArray).data.toList ((s[0]'(by omega)).toNat:Int).toNat.toUInt8=i:=⟨_,rfl⟩;rw[hix2]at nG hix;have Io:=aA (x8 s h3);clear hix2 hk h3;go_enter Tryz.func90,Tryz.ntmps90;go_wp2_with fail;refine(Io.out _).mono ?_;rintro e w' ⟨rfl,rfl⟩;go_wp2_with fail;refine(nG.out _).mono ?_;rintro e w' ⟨rfl,rfl⟩;go_wp2_with fail;go_ret;exact⟨rfl,rfl⟩
theorem VD(s t2:ByteArray)(hs:1<=s.size)(h3:((s.extract 0 3).toList== [60,61,62])=false)(k:Nat)(hk:min 2 s.size=k)(ht:s.extract 0 k=t2)(n1:(t2.toList== [58,61])=false)(n2:(t2.toList== [43,61])=true)(w:World):Calls Tryz.prog 90 #[.string s] w fun e w'=>e=.returned (.int .i64 2)∧w'=w:=by
 have hm:min (2:Int) (s.size:Int)=(k:Int):=by omega
 have h0:(0:Int)<=(k:Int):=by omega
 have h1:(k:Int)<=(s.size:Int):=by omega
 have Io:=aA (x8 s h3);clear hk h3;go_enter Tryz.func90,Tryz.ntmps90;go_wp2_with fail;refine(Io.out _).mono ?_;rintro e w' ⟨rfl,rfl⟩;go_wp2_with fail;go_ret;exact⟨rfl,rfl⟩
theorem qC(s:ByteArray)(h0:0<s.size)(n:Int)(hl:(decide ((97:Int)<=((s[0]'h0).toNat:Int))&&decide (((s[0]'h0).toNat:Int)<=122))=true)(AR:∀w,Calls Tryz.prog 85 #[.string s,.func (.func 86) #[] #[]] w fun e w'=>e=.returned (.int .i64 n)∧w'=w)(w:World):
  Calls Tryz.prog 51 #[.string s] w fun e w'=>e=.returned (.tuple #[.int .u8 1,.int .i64 n])∧w'=w:=by
 have hz:(0:Int)<(s.size:Int):=by omega
 have hL:=fun w=>kM ((s[0]'h0).toNat:Int) w
 rw[hl]at hL;have HL:=aA hL;have Nc:=aA AR;clear hL AR hl;go_enter Tryz.func51,Tryz.ntmps51;go_wp2_with fail;refine(HL.out _).mono ?_;rintro e w' ⟨rfl,rfl⟩;go_wp2_with fail;refine(Nc.out _).mono ?_;rintro e w' ⟨rfl,rfl⟩;go_wp2_with fail
 go_ret2
 exact⟨rfl,rfl⟩
theorem MG(s:ByteArray)(h0:0<s.size)(n:Int)(hl:(decide ((97:Int)<=((s[0]'h0).toNat:Int))&&decide (((s[0]'h0).toNat:Int)<=122))=false)(hd:(decide ((48:Int)<=((s[0]'h0).toNat:Int))&&decide (((s[0]'h0).toNat:Int)<=57))=true)(AR:∀w,Calls Tryz.prog 85 #[.string s,.func (.func 87) #[] #[]] w fun e w'=>e=.returned (.int .i64 n)∧w'=w)(w:World):
  Calls Tryz.prog 51 #[.string s] w fun e w'=>e=.returned (.tuple #[.int .u8 2,.int .i64 n])∧w'=w:=by
 have hz:(0:Int)<(s.size:Int):=by omega
 have hL:=fun w=>kM ((s[0]'h0).toNat:Int) w
 have hD:=fun w=>jO ((s[0]'h0).toNat:Int) w
 rw[hl]at hL;rw[hd]at hD;have HL:=aA hL;have HD:=aA hD;have Nc:=aA AR;clear hL hD AR hl hd;go_enter Tryz.func51,Tryz.ntmps51;go_wp2_with fail;refine(HL.out _).mono ?_;rintro e w' ⟨rfl,rfl⟩;go_wp2_with fail;refine(HD.out _).mono ?_;rintro e w' ⟨rfl,rfl⟩;go_wp2_with fail;refine(Nc.out _).mono ?_;rintro e w' ⟨rfl,rfl⟩;go_wp2_with fail
 go_ret2
 exact⟨rfl,rfl⟩
theorem hZ(s:ByteArray)(h0:0<s.size)(n:Int)(hl:(decide ((97:Int)<=((s[0]'h0).toNat:Int))&&decide (((s[0]'h0).toNat:Int)<=122))=false)(hd:(decide ((48:Int)<=((s[0]'h0).toNat:Int))&&decide (((s[0]'h0).toNat:Int)<=57))=false)(hb:(((s[0]'h0).toNat:Int)==32||((s[0]'h0).toNat:Int)==9||((s[0]'h0).toNat:Int)==13||((s[0]'h0).toNat:Int)==10)=true)(AR:∀w,Calls Tryz.prog 85 #[.string s,.func (.func 88) #[] #[]] w fun e w'=>e=.returned (.int .i64 n)∧w'=w)(w:World):
  Calls Tryz.prog 51 #[.string s] w fun e w'=>e=.returned (.tuple #[.int .u8 4,.int .i64 n])∧w'=w:=by
 have hz:(0:Int)<(s.size:Int):=by omega
 have hL:=fun w=>kM ((s[0]'h0).toNat:Int) w
 have hD:=fun w=>jO ((s[0]'h0).toNat:Int) w
 have hB:=fun w=>fW ((s[0]'h0).toNat:Int) w
 rw[hl]at hL;rw[hd]at hD;rw[hb]at hB;have HL:=aA hL;have HD:=aA hD;have HB:=aA hB;have Nc:=aA AR;clear hL hD hB AR hl hd hb;go_enter Tryz.func51,Tryz.ntmps51;go_wp2_with fail;refine(HL.out _).mono ?_;rintro e w' ⟨rfl,rfl⟩;go_wp2_with fail;refine(HD.out _).mono ?_;rintro e w' ⟨rfl,rfl⟩;go_wp2_with fail;refine(HB.out _).mono ?_;rintro e w' ⟨rfl,rfl⟩;go_wp2_with fail;refine(Nc.out _).mono ?_;rintro e w' ⟨rfl,rfl⟩;go_wp2_with fail
 go_ret2
 exact⟨rfl,rfl⟩
theorem qB(s:ByteArray)(h0:0<s.size)(n:Int)(hl:(decide ((97:Int)<=((s[0]'h0).toNat:Int))&&decide (((s[0]'h0).toNat:Int)<=122))=false)(hd:(decide ((48:Int)<=((s[0]'h0).toNat:Int))&&decide (((s[0]'h0).toNat:Int)<=57))=false)(hb:(((s[0]'h0).toNat:Int)==32||((s[0]'h0).toNat:Int)==9||((s[0]'h0).toNat:Int)==13||((s[0]'h0).toNat:Int)==10)=false)(hh:(((s[0]'h0).toNat:Int)==35)=false)(hsg:∀w,Calls Tryz.prog 90 #[.string s] w fun e w'=>e=.returned (.int .i64 n)∧w'=w)(w:World):
  Calls Tryz.prog 51 #[.string s] w fun e w'=>e=.returned (.tuple #[.int .u8 3,.int .i64 n])∧w'=w:=by
 have hz:(0:Int)<(s.size:Int):=by omega
 have hL:=fun w=>kM ((s[0]'h0).toNat:Int) w
 have hD:=fun w=>jO ((s[0]'h0).toNat:Int) w
 have hB:=fun w=>fW ((s[0]'h0).toNat:Int) w
 rw[hl]at hL;rw[hd]at hD;rw[hb]at hB;have HL:=aA hL;have HD:=aA hD;have HB:=aA hB;have HSG:=aA hsg;clear hL hD hB hsg hl hd hb;go_enter Tryz.func51,Tryz.ntmps51;go_wp2_with fail;refine(HL.out _).mono ?_;rintro e w' ⟨rfl,rfl⟩;go_wp2_with fail;refine(HD.out _).mono ?_;rintro e w' ⟨rfl,rfl⟩;go_wp2_with fail;refine(HB.out _).mono ?_;rintro e w' ⟨rfl,rfl⟩;go_wp2_with fail;refine(HSG.out _).mono ?_;rintro e w' ⟨rfl,rfl⟩;go_wp2_with fail
 go_ret2
 exact⟨rfl,rfl⟩
end Go.Proofs.YtakfdnnlhjhcfaaGreatDoor
namespace Bk
open Go Go.RowKit
def nA(l:List (Int×ByteArray×Int)):List Value:=l.flatMap fun t=> [.int .u8 t.1,.string t.2.1,.int .i64 t.2.2]
theorem T1(l:List (Int×ByteArray×Int))(t:Int×ByteArray×Int):nA (l++ [t])=nA l++ [.int .u8 t.1,.string t.2.1,.int .i64 t.2.2]:=by simp[nA]
theorem T2(l:List (Int×ByteArray×Int)):∀i t,l[i]?=some t->(nA l)[i*3]?=some (.int .u8 t.1)∧(nA l)[i*3+1]?=some (.string t.2.1)∧(nA l)[i*3+2]?=some (.int .i64 t.2.2):=by
 induction l with
 |nil=>intro i t h;simp at h
 |cons a l ih=>
  intro i t h;cases i with
  |zero=>simp at h;subst h;exact⟨rfl,rfl,rfl⟩
  |succ i=>
   have h':l[i]?=some t:=by simpa using h
   obtain⟨h1,h2,h3⟩:=ih i t h';have e:nA (a::l)= [.int .u8 a.1,.string a.2.1,.int .i64 a.2.2]++nA l:=by simp[nA]
   refine⟨?_,?_,?_⟩
   ·rw[e,show(i+1)*3=i*3+3 by omega];simpa using h1
   ·rw[e,show(i+1)*3+1=i*3+1+3 by omega];simpa using h2
   ·rw[e,show(i+1)*3+2=i*3+2+3 by omega];simpa using h3
end Bk
namespace Go.Proofs.YtakfdnnlhjhcfaaGreatDoor
open Go.RowKit Bk
theorem yU:(Tryz.prog.info? 142).map (fun i=>(i.zero,i.size,i.bytes))=some (some (.agg #[.int .u8 0,.string ⟨#[]⟩,.int .i64 0]),3,32):=by kernel_rfl
theorem Ob(s:ByteArray)(hs:s.size<=1000)(m:Nat)(hm:m<=1000)(ps sz:Nat->Nat)(kd:Nat->Int)(h0:ps 0=0)(he:ps m=s.size)(hst:∀j,j<m->ps j+sz j=ps (j+1)∧1<=sz j∧ps (j+1)<=s.size)
  (hf:∀j,j<m->∀w,Calls Tryz.prog 51 #[.string (s.extract (ps j) s.size)] w fun e w'=>e=.returned (.tuple #[.int .u8 (kd j),.int .i64 (sz j)])∧w'=w) (w:World):
  Calls Tryz.prog 71 #[.string s] w fun e w'=>(∃v,e=.returned (.tuple #[v,.int .i64 0,.int .i64 0])∧w'.ownsRow w.heap.size 142 3 v m (nA ((List.range m).map fun i=>(kd i,s.extract (ps i) (ps i+sz i),(ps i:Int)))))∧Below w.heap.size w w':=by
 obtain⟨tk,htk⟩:∃tk:Nat->List (Int×ByteArray×Int),∀j,tk j=(List.range j).map fun i=>(kd i,s.extract (ps i) (ps i+sz i),(ps i:Int)):=⟨_,fun j=>rfl⟩
 rw[<-htk];have Zi:Hid (tk 0= []):=aA (by rw[htk];rfl);have HTS:Hid (∀j,tk (j+1)=tk j++ [(kd j,s.extract (ps j) (ps j+sz j),(ps j:Int))]):=aA fun j=>by rw[htk,htk,List.range_succ];simp
 have wQ:=aA hst;have tF:=aA hf;have HE:=aA he;have HP0:=aA h0;have Yd:Hid (∀j,j<=m->j<m->ps j<s.size):=aA fun j _ h=>by have:=hst j h;omega
 obtain⟨i3,li,lz,ls,lb⟩:=info_parts yU;have HI:=aA li;have HZ:=aA lz;have lI:=aA ls;have jY:=aA lb;clear htk hst hf he h0 li lz ls lb;have AQ:(s.size:Int)<=65536:=by omega
 go_enter Tryz.func71,Tryz.ntmps71;go_upto_region 5 with fail
 go_loopw [5,6] (fun v5 v6 wr=>∃(j:Nat),j<=m∧v6=.int .i64 (ps j)∧wr.ownsRow w.heap.size 142 3 v5 j (nA (tk j))∧Below w.heap.size w wr) (fun _ v _=>s.size-(intOf v).toNat)
 case atStart=>exact⟨0,fI _,by rw[HP0.out];rfl,by rw[Zi.out];exact World.ownsRow_nil _ _ _ _,aM _ _⟩
 case round=>
  obtain⟨j,hj,rfl,bB,cF⟩:=hrel;have HO:=aA bB;have cG:=aA cF;obtain⟨At,ct,rfl⟩:=aI bB;clear bB cF;have wT:=cG.out.size;rcases Nat.lt_or_ge j m with NS|NS
  ·obtain⟨q1,q2,q3⟩:=wQ.out j NS
   have QK:=aA (tF.out j NS);have HTJ:=aA (HTS.out j);obtain⟨pj,hpj⟩:∃p,ps j=p:=⟨_,rfl⟩;obtain⟨sj,hsj⟩:∃p,sz j=p:=⟨_,rfl⟩;obtain⟨kj,hkj⟩:∃p,kd j=p:=⟨_,rfl⟩;rw[hpj,hsj]at q1;rw[hsj]at q2;rw[hpj,hsj,hkj]at QK HTJ;rw[hpj];have X0:=aA q1;rw[<-q1]at q3;clear q1 hpj hsj hkj;have a0:(0:Int)<=(pj:Int):=by omega
   have a1:(pj:Int)<=(s.size:Int):=by omega
   have a2:(pj:Int)<(s.size:Int):=by omega
   have a3:(pj:Int)+(sj:Int)<=(s.size:Int):=by omega
   have a4:((sj:Int)==0)=false:=by simp;omega
   have a5:(pj:Int)<=(pj:Int)+(sj:Int):=by omega
   go_wp2_with fail;refine(QK.out _).mono ?_;rintro e w' ⟨rfl,rfl⟩;go_wp2_with (at_builtin;refine dF rfl (.tmp 26) (.tmp 36) 99 rfl w.heap.size 142 i3 _ 3 32 Tryz.underlying99 HI.out HZ.out lI.out jY.out rfl (by decide) (.slice At j ct) j (nA (tk j)) rfl (HO.out.alloc _) rfl (tS (Blk.new _ _ _)) (by intro u hu;simp at hu;rcases hu with rfl|rfl|rfl<;>rfl) (by unfold maxLen;omega) (by omega) (by simp;omega) ?_);intro v2 w2 bB eH nS;have lY:=aA bB;have hb2:Below w.heap.size w w2:=(cG.out.alloc wT _).grown eH (by simp;omega) (by intro k hk;exact(bH HO.out hk).1);have aP:=aA hb2;clear bB eH nS hb2;go_wp2_with fail;refine⟨⟨j+1,by omega,?_,?_,aP.out⟩,?_⟩
   ·rw[<-X0.out];go_num
   ·rw[HTJ.out,T1];exact lY.out
   ·simp[intOf];omega
  ·obtain rfl:m=j:=by omega
   have hee:ps m=s.size:=HE.out;rw[hee];go_wp2_with fail;go_ret3;exact⟨⟨_,rfl,HO.out⟩,cG.out⟩
def kB(t:Int×ByteArray×Int):Bool:=t.1 !=4&&t.1 !=5
theorem UC{w:World}{v:Value}{n:Nat}(l:List (Int×ByteArray×Int))(hl:l.length=n)(hn:n<=1000)(hv:Sl w (fun k=>k<w.heap.size) 3 v n (nA l)):
  Calls Tryz.prog 72 #[v] w fun e w'=>(∃v',e=.returned v'∧w'.ownsRow w.heap.size 142 3 v' (l.filter kB).length (nA (l.filter kB)))∧Below w.heap.size w w':=by
 obtain⟨A,cap,rfl,f9,hA,hR⟩:=hv;have HR:=aA hR;have HL:=aA hl;obtain⟨fl,hfl⟩:∃f:Nat->List (Int×ByteArray×Int),∀j,f j=(l.take j).filter kB:=⟨_,fun _=>rfl⟩;have La:Hid (fl 0= []):=aA (by rw[hfl];rfl);have V9:Hid (∀j t,l[j]?=some t->fl (j+1)=if kB t then fl j++ [t]else fl j):=aA fun j t ht=>by
  rw[hfl,hfl];obtain⟨h1,h2⟩:=lgS.1 ht;rw[List.take_succ_eq_append_getElem h1,List.filter_append,h2];cases hb:kB t<;>simp[hb]
 have G6:Hid (fl n=l.filter kB):=aA (by rw[hfl,<-hl,List.take_length]);have Ik:Hid (∀j,(fl j).length<=n):=aA fun j=>by rw[hfl];have:=List.length_filter_le kB (l.take j);have:=List.length_take_le' j l;omega
 obtain⟨i3,li,lz,ls,lb⟩:=info_parts yU;have HI:=aA li;have HZ:=aA lz;have lI:=aA ls;have jY:=aA lb;have CJ:=G6.out;rw[<-CJ];clear CJ hfl hR li lz ls lb hl hA;go_enter Tryz.func72,Tryz.ntmps72;go_upto_region 3 with fail
 go_loopw [3,8] (fun v3 v8 wr=>∃(j:Nat),j<=n∧v8=.int .i64 j∧wr.ownsRow w.heap.size 142 3 v3 (fl j).length (nA (fl j))∧Below w.heap.size w wr) (fun _ v _=>n-(intOf v).toNat)
 case atStart=>exact⟨0,fI _,rfl,by rw[La.out];exact World.ownsRow_nil _ _ _ _,aM _ _⟩
 case round=>
  obtain⟨j,hj,rfl,bB,cF⟩:=hrel;obtain⟨nf,hnf⟩:∃q,(fl j).length=q:=⟨_,rfl⟩;rw[hnf]at bB;have Md:=aA hnf;clear hnf;have HO:=aA bB;have cG:=aA cF;obtain⟨At,ct,rfl⟩:=aI bB;clear bB cF;have wT:=cG.out.size;by_cases e9:j<n
  ·obtain⟨t,htj⟩:∃t,l[j]?=some t:=⟨_,dR (by have:=HL.out;omega)⟩
   obtain⟨g,o,rfl,hg,hc⟩:=HR.out.2 (by omega);obtain⟨p0,p1,p2⟩:=T2 l j t htj;have QK:=aA (V9.out j t htj);obtain⟨k,s,p⟩:=t;dsimp only at *;have d0:=(cG.out.cell (p:=⟨g,o+j*3,none⟩) hg).trans (hc _ _ p0);have d1:=(cG.out.cell (p:=⟨g,o+j*3+1,none⟩) hg).trans (hc _ _ p1);have d2:=(cG.out.cell (p:=⟨g,o+j*3+2,none⟩) hg).trans (hc _ _ p2);have j0:(0:Int)<=(j:Int):=by omega
   have j1:(j:Int)<(n:Int):=by omega
   obtain⟨q4,hq4⟩:∃q,(k !=4)=q:=⟨_,rfl⟩;obtain⟨q5,hq5⟩:∃q,(k !=5)=q:=⟨_,rfl⟩;have Na:Hid (kB (k,s,p)=(q4&&q5)):=aA (by unfold kB;rw[<-hq4,<-hq5]);have Ma:=aA (Ik.out j);have aAB:=Ma.out;rw[Md.out]at aAB;clear p0 p1 p2 htj;go_upto_region 5 with fail;refine aB ?_;intro w2 eD;have hb2:Below wr.heap.size wr w2:=by rw[eD];go_grown
   have K2:Blk w2 wr.heap.size 142 #[.int .u8 k,.string s,.int .i64 p]:=by rw[eD];exact aQ
   have E9:=aA (aZ HO.out hb2 (aH _));have aP:=aA (cG.out.next hb2);have OL:w.heap.size<=w2.heap.size:=aP.out.size;clear eD hb2 d0 d1 d2 HO;obtain⟨eL,eC,eF⟩:=K2.open_;clear K2;cases q4
   ·go_wp2_with fail
    exact⟨⟨j+1,by omega,by go_num,by rw[QK.out,Na.out];simpa[Md.out]using E9.out,aP.out⟩,by simp[intOf];omega⟩
   cases q5
   ·go_wp2_with fail
    exact⟨⟨j+1,by omega,by go_num,by rw[QK.out,Na.out];simpa[Md.out]using E9.out,aP.out⟩,by simp[intOf];omega⟩
   ·go_wp2_with (at_builtin;refine dF rfl (.tmp 20) (.tmp 22) 99 rfl w.heap.size 142 i3 _ 3 32 Tryz.underlying99 HI.out HZ.out lI.out jY.out rfl (by decide) (.slice At nf ct) nf (nA (fl j)) rfl (E9.out.alloc _) rfl (tS (Blk.new _ _ _)) (by intro u hu;simp at hu;rcases hu with rfl|rfl|rfl<;>rfl) (by unfold maxLen;omega) (by omega) (by simp;omega) ?_)
    intro v2 w3 bB eH nS;have lY:=aA bB;have aT:Below w.heap.size w w3:=(aP.out.alloc OL _).grown eH (by simp;omega) (by intro k hk;exact(bH E9.out hk).1);have bD:=aA aT;clear bB eH nS aT;go_wp2_with fail;refine⟨⟨j+1,by omega,by go_num,?_,bD.out⟩,by simp[intOf];omega⟩;rw[QK.out,Na.out,Bool.and_self,if_pos rfl,T1,List.length_append,Md.out];exact lY.out
  ·obtain rfl:n=j:=by omega
   go_wp2_with fail;go_ret;exact⟨⟨_,rfl,by rw[Md.out];exact HO.out⟩,cG.out⟩
theorem A9{w:World}{B:Nat}(bG:B<=w.heap.size)(x:Nd)(s:Nat->Nat)(dE:∀i,i<x.n->∃y,Kid w B x i y∧∀W,Below B w W->Calls Tryz.prog 150 #[.agg #[.int .u8 y.k,.int .i64 y.num,.string y.nm,.slice y.A y.n y.cap]] W fun en w''=>en=.returned (.int .i64 (s i:Int))∧Below W.heap.size W w'')
  (hs:aY s x.n<=17592186043904) (hn:x.n<=17592186043904) (w':World) (hb:Below B w w'):Calls Tryz.prog 150 #[.agg #[.int .u8 x.k,.int .i64 x.num,.string x.nm,.slice x.A x.n x.cap]] w' fun en w''=>en=.returned (.int .i64 ((aY s x.n+1:Nat):Int))∧Below w'.heap.size w' w'':=by
 have HK:=aA dE;have HB:=aA hb;have bC:B<=w'.heap.size:=by have:=hb.size;omega
 obtain⟨z,hz⟩:∃z,aY s x.n=z:=⟨_,rfl⟩;rw[hz]at hs⊢;have HZ:=aA hz;obtain⟨k,num,nm,A,n,cap⟩:=x;clear dE hb hz;dsimp only at *;go_enter Tryz.func150,Tryz.ntmps150;go_upto_region 1 with fail;refine aB ?_;intro w1 aF;have lO:Below w'.heap.size w' w1:=by rw[aF];go_grown
 have K1:Blk w1 w'.heap.size 26 #[.int .u8 k,.int .i64 num,.string nm,.slice A n cap]:=by rw[aF];exact aQ
 clear aF;obtain⟨aL,aJ,aK⟩:=K1.open_;go_wp2_with fail;clear aJ aL aK K1
 go_loopw [3,9] (fun v3 v9 wr=>∃j:Nat,j<=n∧v9=.int .i64 j∧v3=.int .i64 ((aY s j+1:Nat):Int)∧aY s j<=z∧Below w1.heap.size w1 wr) (fun _ v _=>n-(intOf v).toNat)
 case atStart=>exact⟨0,fI _,rfl,rfl,fI _,aM _ _⟩
 case round=>
  obtain⟨j,hj,rfl,rfl,hdj,cF⟩:=hrel;have pD:Below w'.heap.size w' wr:=lO.next cF;have cG:=aA pD;have Be:=aA cF;clear cF;by_cases e9:j<n
  ·obtain⟨y,cS,iW⟩:=HK.out j e9
   obtain⟨g,o,eY,cR,c0,c1,c2,c3⟩:=cS.cells (HB.out.trans (pD.mono bC));simp only at eY;subst eY;have IT:=aA iW;have QY:aY s (j+1)<=z:=by rw[<-HZ.out];exact iC (show j+1<=n from e9)
   have hsj:aY s (j+1)=aY s j+s j:=rfl;have j0:(0:Int)<=(j:Int):=by omega
   have j1:(j:Int)<(n:Int):=by omega
   obtain⟨s0,hs0⟩:∃s0,aY s j=s0:=⟨_,rfl⟩;obtain⟨sj,hsj2⟩:∃q,s j=q:=⟨_,rfl⟩;rw[hs0,hsj2]at hsj;rw[hs0]at hdj⊢;rw[hsj2]at IT;rw[hsj]at QY;have Nb:=aA hsj;clear cS iW hsj hs0 hsj2 pD;go_upto_region 5 with fail;refine aB ?_;intro w2 eD;have hb2:Below wr.heap.size wr w2:=by rw[eD];go_grown
   have K2:Blk w2 wr.heap.size 26 #[.int .u8 y.k,.int .i64 y.num,.string y.nm,.slice y.A y.n y.cap]:=by rw[eD];exact aQ
   have aP:=aA (cG.out.next hb2);have zK:=aA (Be.out.next hb2);clear eD c0 c1 c2 c3 hb2;obtain⟨eL,eC,eF⟩:=K2.open_;clear K2;go_wp2_with fail;refine(IT.out _ (HB.out.trans (aP.out.mono bC))).mono ?_;rintro en w3 ⟨rfl,aT⟩;have F6:=aA (zK.out.next aT);clear eC eL eF aT;go_wp2_with fail;exact⟨⟨j+1,by omega,by go_num,by rw[Nb.out];go_num,by rw[Nb.out];omega,F6.out⟩,by simp[intOf];omega⟩
  ·obtain rfl:n=j:=by omega
   have hz:=HZ.out;rw[hz]at *;go_wp2_with fail;go_ret;exact⟨by go_num,cG.out⟩
theorem u7{w:World}{B:Nat}(bG:B<=w.heap.size)(x:Nd)(s:Nat->Nat)(dE:∀i,i<x.n->∃y,Kid w B x i y∧∀W,Below B w W->Calls Tryz.prog 149 #[.agg #[.int .u8 y.k,.int .i64 y.num,.string y.nm,.slice y.A y.n y.cap]] W fun en w''=>en=.returned (.int .i64 (s i:Int))∧Below W.heap.size W w'')
  (hs:kU s x.n<=17592186043904) (hn:x.n<=17592186043904) (w':World) (hb:Below B w w'):Calls Tryz.prog 149 #[.agg #[.int .u8 x.k,.int .i64 x.num,.string x.nm,.slice x.A x.n x.cap]] w' fun en w''=>en=.returned (.int .i64 ((kU s x.n+1:Nat):Int))∧Below w'.heap.size w' w'':=by
 have HK:=aA dE;have HB:=aA hb;have bC:B<=w'.heap.size:=by have:=hb.size;omega
 obtain⟨z,hz⟩:∃z,kU s x.n=z:=⟨_,rfl⟩;rw[hz]at hs⊢;have HZ:=aA hz;obtain⟨k,num,nm,A,n,cap⟩:=x;clear dE hb hz;dsimp only at *;go_enter Tryz.func149,Tryz.ntmps149;go_upto_region 1 with fail;refine aB ?_;intro w1 aF;have lO:Below w'.heap.size w' w1:=by rw[aF];go_grown
 have K1:Blk w1 w'.heap.size 26 #[.int .u8 k,.int .i64 num,.string nm,.slice A n cap]:=by rw[aF];exact aQ
 clear aF;obtain⟨aL,aJ,aK⟩:=K1.open_;go_wp2_with fail;clear aJ aL aK K1
 go_loopw [3,9] (fun v3 v9 wr=>∃j:Nat,j<=n∧v9=.int .i64 j∧v3=.int .i64 ((kU s j+0:Nat):Int)∧kU s j<=z∧Below w1.heap.size w1 wr) (fun _ v _=>n-(intOf v).toNat)
 case atStart=>exact⟨0,fI _,rfl,rfl,fI _,aM _ _⟩
 case round=>
  obtain⟨j,hj,rfl,rfl,hdj,cF⟩:=hrel;have pD:Below w'.heap.size w' wr:=lO.next cF;have cG:=aA pD;have Be:=aA cF;clear cF;by_cases e9:j<n
  ·obtain⟨y,cS,iW⟩:=HK.out j e9
   obtain⟨g,o,eY,cR,c0,c1,c2,c3⟩:=cS.cells (HB.out.trans (pD.mono bC));simp only at eY;subst eY;have IT:=aA iW;have QY:kU s (j+1)<=z:=by rw[<-HZ.out];exact OR (show j+1<=n from e9)
   have hsj:kU s (j+1)=max (kU s j) (s j):=rfl;have j0:(0:Int)<=(j:Int):=by omega
   have j1:(j:Int)<(n:Int):=by omega
   obtain⟨s0,hs0⟩:∃s0,kU s j=s0:=⟨_,rfl⟩;obtain⟨sj,hsj2⟩:∃q,s j=q:=⟨_,rfl⟩;rw[hs0,hsj2]at hsj;rw[hs0]at hdj⊢;rw[hsj2]at IT;rw[hsj]at QY;have Nb:=aA hsj;clear cS iW hsj hs0 hsj2 pD;go_upto_region 5 with fail;refine aB ?_;intro w2 eD;have hb2:Below wr.heap.size wr w2:=by rw[eD];go_grown
   have K2:Blk w2 wr.heap.size 26 #[.int .u8 y.k,.int .i64 y.num,.string y.nm,.slice y.A y.n y.cap]:=by rw[eD];exact aQ
   have aP:=aA (cG.out.next hb2);have zK:=aA (Be.out.next hb2);clear eD c0 c1 c2 c3 hb2;obtain⟨eL,eC,eF⟩:=K2.open_;clear K2;go_wp2_with fail;refine(IT.out _ (HB.out.trans (aP.out.mono bC))).mono ?_;rintro en w3 ⟨rfl,aT⟩;have F6:=aA (zK.out.next aT);clear eC eL eF aT;go_wp2_with fail;exact⟨⟨j+1,by omega,by go_num,by rw[Nb.out];go_num,by rw[Nb.out];omega,F6.out⟩,by simp[intOf];omega⟩
  ·obtain rfl:n=j:=by omega
   have hz:=HZ.out;rw[hz]at *;go_wp2_with fail;go_ret;exact⟨by go_num,cG.out⟩
end Go.Proofs.YtakfdnnlhjhcfaaGreatDoor
