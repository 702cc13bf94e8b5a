/- Part of the proof. -/
import Derived.Test.YtakfdnnlhjhcfaaGreatDoorA2
set_option linter.unusedVariables false
set_option linter.unusedSimpArgs false
set_option maxRecDepth 100000
set_option maxHeartbeats 4000000
namespace Go.Proofs.YtakfdnnlhjhcfaaGreatDoor
open Go.RowKit Bk
theorem L9{w:World}{B:Nat}(bG:B<=w.heap.size)(x:Nd)(hn:x.n<=9223372036854775807)(g0:FuncId)(r:Nat->Bool)(ZC:∀args W,(callFunc g0 args).run Tryz.prog W=.ok (.enter g0 args) W)(dE:∀i,i<x.n->∃y,Kid w B x i y∧∀W,Below B w W->Calls Tryz.prog g0 #[.agg #[.int .u8 y.k,.int .i64 y.num,.string y.nm,.slice y.A y.n y.cap]] W fun en w''=>en=.returned (.bool (r i))∧Below W.heap.size W w'')(w':World)(hb:Below B w w'):
  Calls Tryz.prog 92 #[.slice x.A x.n x.cap,.func (.func g0) #[] #[]] w' fun en w''=>en=.returned (.bool (bX r x.n))∧Below w'.heap.size w' w'':=by
 obtain⟨k,num,nm,A,n,cap⟩:=x;have HK:=aA dE;have HB:=aA hb;have Kb:Hid (∀j,j<n->r j=false->bX r n=false):=aA fun j h1 h2=>sN h1 h2
 obtain⟨rr,hrr⟩:∃rr,bX r n=rr:=⟨_,rfl⟩;have YJ:=aA hrr;have eg':=ZC;dsimp only at *;rw[hrr]at Kb⊢;clear dE hb hrr ZC;go_enter Tryz.func92,Tryz.ntmps92;go_wp2_with fail
 go_loopw [9] (fun v9 wr=>∃j:Nat,j<=n∧v9=.int .i64 j∧bX r j=true∧Below w'.heap.size w' wr) (fun v _=>n-(intOf v).toNat)
 case atStart=>exact⟨0,fI _,rfl,rfl,aM _ _⟩
 case round=>
  obtain⟨j,hj,rfl,fQ,cF⟩:=hrel;have cG:=aA cF;have gO:=aA fQ;clear cF fQ;by_cases e9:j<n
  ·obtain⟨y,cS,yP⟩:=HK.out j e9
   obtain⟨g,o,eY,cR,c0,c1,c2,c3⟩:=cS.cells (HB.out.trans (cG.out.mono (by have:=HB.out.size;omega)));simp only at eY;subst eY;have CH:=aA yP;have j0:(0:Int)<=(j:Int):=by omega
   have j1:(j:Int)<(n:Int):=by omega
   clear cS yP;go_upto_region 4 with fail;refine aB ?_;intro w2 eD;have hb2:Below wr.heap.size wr w2:=by rw[eD];go_grown
   have K2:Blk w2 wr.heap.size 26 #[.int .u8 y.k,.int .i64 y.num,.string y.nm,.slice y.A y.n y.cap]:=by rw[eD];exact aQ
   have aP:=aA (cG.out.next hb2);clear eD c0 c1 c2 c3 hb2;obtain⟨eL,eC,eF⟩:=K2.open_;clear K2;go_wp2_with fail;refine(CH.out w2 (HB.out.trans (aP.out.mono (by have:=HB.out.size;omega)))).mono ?_;rintro en w3 ⟨rfl,aT⟩;obtain⟨rj,hrj⟩:∃rj,r j=rj:=⟨_,rfl⟩;have o0:=aA hrj;have bD:=aA (aP.out.next aT);rw[hrj];clear eC eL eF aT hrj;cases rj with
   |false=>
    obtain rfl:rr=false:=Kb.out j e9 o0.out;go_wp2_with fail;go_ret;exact⟨rfl,bD.out⟩
   |true=>
    go_wp2_with fail;exact⟨⟨j+1,by omega,by go_num,by simp only[bX];rw[gO.out,o0.out];rfl,bD.out⟩,by simp[intOf];omega⟩
  ·obtain rfl:j=n:=by omega
   obtain rfl:rr=true:=by rw[<-YJ.out];exact gO.out
   go_wp2_with fail;go_ret;exact⟨rfl,cG.out⟩
def Dl(w:World)(B d:Nat):Prop:=∀x,KV w B d x->∀w',Below B w w'->Calls Tryz.prog 93 #[.agg #[.int .u8 x.k,.int .i64 x.num,.string x.nm,.slice x.A x.n x.cap]] w' fun en w''=>en=.returned (.bool (D3 w B d x))∧Below w'.heap.size w' w''
def wV(w:World)(B d:Nat):Prop:=∀x,KV w B d x->∀w',Below B w w'->Calls Tryz.prog 54 #[.agg #[.int .u8 x.k,.int .i64 x.num,.string x.nm,.slice x.A x.n x.cap]] w' fun en w''=>en=.returned (.bool (p7 w B d x))∧Below w'.heap.size w' w''
theorem Oe{w:World}{B d:Nat}(bG:B<=w.heap.size)(f8:wV w B d)(x:Nd)(hk:x.k=40∨x.k=41∨x.k=42∨x.k=56)(hx:KV w B (d+1) x)(w':World)(hb:Below B w w'):
  Calls Tryz.prog 93 #[.agg #[.int .u8 x.k,.int .i64 x.num,.string x.nm,.slice x.A x.n x.cap]] w' fun en w''=>en=.returned (.bool ((decide (x.num=0)&&x.nm.toList.isEmpty)&&(decide (x.n=2)&&bX (fun i=>if i=0 then oU w B (bO w B x i)else j8 w B (bO w B x i)) 2)))∧Below w'.heap.size w' w'':=by
 have HP:Hid (∀W,Calls Tryz.prog 91 #[.agg #[.int .u8 x.k,.int .i64 x.num,.string x.nm,.slice x.A x.n x.cap]] W fun e w'=>e=.returned (.bool (decide (x.num=0)&&x.nm.toList.isEmpty))∧Below W.heap.size W w'):=aA fun W=>jQ x W
 have lE:Hid (∀W,Below B w W->∀h t,Blk W h t #[.func (.func 121) #[] #[],.func (.func 122) #[] #[]]->Calls Tryz.prog 120 #[.agg #[.int .u8 x.k,.int .i64 x.num,.string x.nm,.slice x.A x.n x.cap],.slice (some ⟨h,0,none⟩) 2 2] W fun en w''=>en=.returned (.bool (decide (x.n=2)&&bX (fun i=>if i=0 then oU w B (bO w B x i)else j8 w B (bO w B x i)) 2))∧Below W.heap.size W w''):=aA fun W hW h t hf=>
  lL bG x 2 (by omega) (fun i=>if i=0 then 121 else 122) (fun i=>if i=0 then oU w B (bO w B x i)else j8 w B (bO w B x i)) (fun i hi args W=>by
   match i,hi with
   |0,_=>rfl
   |1,_=>rfl) (fun hn i hi=>by
   match i,hi with
   |0,_=>obtain⟨h1,h2⟩:=bE hx (i:=0) (by omega);exact⟨_,h1,fun W hW=>iU bG _ h2 W hW⟩
   |1,_=>obtain⟨h1,h2⟩:=bE hx (i:=1) (by omega);exact⟨_,h1,fun W hW=>sS bG _ h2 W hW⟩) W hW h t _ hf (fun i hi=>by
   match i,hi with
   |0,_=>rfl
   |1,_=>rfl)
 obtain⟨pb,hpb⟩:∃pb,(decide (x.num=0)&&x.nm.toList.isEmpty)=pb:=⟨_,rfl⟩;obtain⟨rk,hrk⟩:∃rk,(decide (x.n=2)&&bX (fun i=>if i=0 then oU w B (bO w B x i)else j8 w B (bO w B x i)) 2)=rk:=⟨_,rfl⟩;rw[hpb]at HP⊢;rw[hrk]at lE⊢;have HB:=aA hb;have bC:B<=w'.heap.size:=by have:=hb.size;omega
 clear hx hb hpb hrk f8;obtain⟨k,num,nm,A,n,cap⟩:=x;dsimp only at *;rcases hk with rfl|rfl|rfl|rfl
 ·go_enter Tryz.func93,Tryz.ntmps93
  go_upto_region 1 with fail;refine aB ?_;intro w1 aF;have aG:Below w'.heap.size w' w1:=by rw[aF];go_grown
  have K1:Blk w1 w'.heap.size 26 #[.int .u8 40,.int .i64 num,.string nm,.slice A n cap]:=by rw[aF];exact aQ
  have a9:=aA K1;have aO:=aA aG;clear aF aG;obtain⟨aL,aJ,aK⟩:=K1.open_;clear K1;go_wp2_with fail;refine(HP.out w1).mono ?_;rintro en w2 ⟨rfl,hb2⟩;have aP:=aA (aO.out.next hb2);have K2:=a9.out.next hb2;clear aJ aL aK hb2;obtain⟨aL,aJ,aK⟩:=K2.open_;clear K2;cases pb with
  |false=>
   go_wp2_with fail;go_ret;exact⟨by simp,aP.out⟩
  |true=>
   go_wp2_with fail;refine(lE.out _ ((HB.out.trans (aP.out.mono bC)).trans ((aM _ _).alloc (by have:=aP.out.size;omega) _)) _ _ (Blk.new _ _ _)).mono ?_;rintro en w3 ⟨rfl,aT⟩;have bD:Hid (Below w'.heap.size w' w3):=aA (aP.out.next (((aM _ _).alloc (aH _) _).next aT));clear aJ aL aK aT;go_wp2_with fail;go_ret;exact⟨by simp,bD.out⟩
 ·go_enter Tryz.func93,Tryz.ntmps93
  go_upto_region 1 with fail;refine aB ?_;intro w1 aF;have aG:Below w'.heap.size w' w1:=by rw[aF];go_grown
  have K1:Blk w1 w'.heap.size 26 #[.int .u8 41,.int .i64 num,.string nm,.slice A n cap]:=by rw[aF];exact aQ
  have a9:=aA K1;have aO:=aA aG;clear aF aG;obtain⟨aL,aJ,aK⟩:=K1.open_;clear K1;go_wp2_with fail;refine(HP.out w1).mono ?_;rintro en w2 ⟨rfl,hb2⟩;have aP:=aA (aO.out.next hb2);have K2:=a9.out.next hb2;clear aJ aL aK hb2;obtain⟨aL,aJ,aK⟩:=K2.open_;clear K2;cases pb with
  |false=>
   go_wp2_with fail;go_ret;exact⟨by simp,aP.out⟩
  |true=>
   go_wp2_with fail;refine(lE.out _ ((HB.out.trans (aP.out.mono bC)).trans ((aM _ _).alloc (by have:=aP.out.size;omega) _)) _ _ (Blk.new _ _ _)).mono ?_;rintro en w3 ⟨rfl,aT⟩;have bD:Hid (Below w'.heap.size w' w3):=aA (aP.out.next (((aM _ _).alloc (aH _) _).next aT));clear aJ aL aK aT;go_wp2_with fail;go_ret;exact⟨by simp,bD.out⟩
 ·go_enter Tryz.func93,Tryz.ntmps93
  go_upto_region 1 with fail;refine aB ?_;intro w1 aF;have aG:Below w'.heap.size w' w1:=by rw[aF];go_grown
  have K1:Blk w1 w'.heap.size 26 #[.int .u8 42,.int .i64 num,.string nm,.slice A n cap]:=by rw[aF];exact aQ
  have a9:=aA K1;have aO:=aA aG;clear aF aG;obtain⟨aL,aJ,aK⟩:=K1.open_;clear K1;go_wp2_with fail;refine(HP.out w1).mono ?_;rintro en w2 ⟨rfl,hb2⟩;have aP:=aA (aO.out.next hb2);have K2:=a9.out.next hb2;clear aJ aL aK hb2;obtain⟨aL,aJ,aK⟩:=K2.open_;clear K2;cases pb with
  |false=>
   go_wp2_with fail;go_ret;exact⟨by simp,aP.out⟩
  |true=>
   go_wp2_with fail;refine(lE.out _ ((HB.out.trans (aP.out.mono bC)).trans ((aM _ _).alloc (by have:=aP.out.size;omega) _)) _ _ (Blk.new _ _ _)).mono ?_;rintro en w3 ⟨rfl,aT⟩;have bD:Hid (Below w'.heap.size w' w3):=aA (aP.out.next (((aM _ _).alloc (aH _) _).next aT));clear aJ aL aK aT;go_wp2_with fail;go_ret;exact⟨by simp,bD.out⟩
 ·go_enter Tryz.func93,Tryz.ntmps93
  go_upto_region 1 with fail;refine aB ?_;intro w1 aF;have aG:Below w'.heap.size w' w1:=by rw[aF];go_grown
  have K1:Blk w1 w'.heap.size 26 #[.int .u8 56,.int .i64 num,.string nm,.slice A n cap]:=by rw[aF];exact aQ
  have a9:=aA K1;have aO:=aA aG;clear aF aG;obtain⟨aL,aJ,aK⟩:=K1.open_;clear K1;go_wp2_with fail;refine(HP.out w1).mono ?_;rintro en w2 ⟨rfl,hb2⟩;have aP:=aA (aO.out.next hb2);have K2:=a9.out.next hb2;clear aJ aL aK hb2;obtain⟨aL,aJ,aK⟩:=K2.open_;clear K2;cases pb with
  |false=>
   go_wp2_with fail;go_ret;exact⟨by simp,aP.out⟩
  |true=>
   go_wp2_with fail;refine(lE.out _ ((HB.out.trans (aP.out.mono bC)).trans ((aM _ _).alloc (by have:=aP.out.size;omega) _)) _ _ (Blk.new _ _ _)).mono ?_;rintro en w3 ⟨rfl,aT⟩;have bD:Hid (Below w'.heap.size w' w3):=aA (aP.out.next (((aM _ _).alloc (aH _) _).next aT));clear aJ aL aK aT;go_wp2_with fail;go_ret;exact⟨by simp,bD.out⟩
theorem Og{w:World}{B d:Nat}(bG:B<=w.heap.size)(f8:wV w B d)(x:Nd)(hk:x.k=43)(hx:KV w B (d+1) x)(w':World)(hb:Below B w w'):
  Calls Tryz.prog 93 #[.agg #[.int .u8 x.k,.int .i64 x.num,.string x.nm,.slice x.A x.n x.cap]] w' fun en w''=>en=.returned (.bool ((decide (x.num=0)&&x.nm.toList.isEmpty)&&(decide (x.n=2)&&bX (fun i=>if i=0 then oU w B (bO w B x i)else oU w B (bO w B x i)) 2)))∧Below w'.heap.size w' w'':=by
 have HP:Hid (∀W,Calls Tryz.prog 91 #[.agg #[.int .u8 x.k,.int .i64 x.num,.string x.nm,.slice x.A x.n x.cap]] W fun e w'=>e=.returned (.bool (decide (x.num=0)&&x.nm.toList.isEmpty))∧Below W.heap.size W w'):=aA fun W=>jQ x W
 have lE:Hid (∀W,Below B w W->∀h t,Blk W h t #[.func (.func 121) #[] #[],.func (.func 121) #[] #[]]->Calls Tryz.prog 120 #[.agg #[.int .u8 x.k,.int .i64 x.num,.string x.nm,.slice x.A x.n x.cap],.slice (some ⟨h,0,none⟩) 2 2] W fun en w''=>en=.returned (.bool (decide (x.n=2)&&bX (fun i=>if i=0 then oU w B (bO w B x i)else oU w B (bO w B x i)) 2))∧Below W.heap.size W w''):=aA fun W hW h t hf=>
  lL bG x 2 (by omega) (fun i=>if i=0 then 121 else 121) (fun i=>if i=0 then oU w B (bO w B x i)else oU w B (bO w B x i)) (fun i hi args W=>by
   match i,hi with
   |0,_=>rfl
   |1,_=>rfl) (fun hn i hi=>by
   match i,hi with
   |0,_=>obtain⟨h1,h2⟩:=bE hx (i:=0) (by omega);exact⟨_,h1,fun W hW=>iU bG _ h2 W hW⟩
   |1,_=>obtain⟨h1,h2⟩:=bE hx (i:=1) (by omega);exact⟨_,h1,fun W hW=>iU bG _ h2 W hW⟩) W hW h t _ hf (fun i hi=>by
   match i,hi with
   |0,_=>rfl
   |1,_=>rfl)
 obtain⟨pb,hpb⟩:∃pb,(decide (x.num=0)&&x.nm.toList.isEmpty)=pb:=⟨_,rfl⟩;obtain⟨rk,hrk⟩:∃rk,(decide (x.n=2)&&bX (fun i=>if i=0 then oU w B (bO w B x i)else oU w B (bO w B x i)) 2)=rk:=⟨_,rfl⟩;rw[hpb]at HP⊢;rw[hrk]at lE⊢;have HB:=aA hb;have bC:B<=w'.heap.size:=by have:=hb.size;omega
 clear hx hb hpb hrk f8;obtain⟨k,num,nm,A,n,cap⟩:=x;dsimp only at *;rcases hk with rfl
 ·go_enter Tryz.func93,Tryz.ntmps93
  go_upto_region 1 with fail;refine aB ?_;intro w1 aF;have aG:Below w'.heap.size w' w1:=by rw[aF];go_grown
  have K1:Blk w1 w'.heap.size 26 #[.int .u8 43,.int .i64 num,.string nm,.slice A n cap]:=by rw[aF];exact aQ
  have a9:=aA K1;have aO:=aA aG;clear aF aG;obtain⟨aL,aJ,aK⟩:=K1.open_;clear K1;go_wp2_with fail;refine(HP.out w1).mono ?_;rintro en w2 ⟨rfl,hb2⟩;have aP:=aA (aO.out.next hb2);have K2:=a9.out.next hb2;clear aJ aL aK hb2;obtain⟨aL,aJ,aK⟩:=K2.open_;clear K2;cases pb with
  |false=>
   go_wp2_with fail;go_ret;exact⟨by simp,aP.out⟩
  |true=>
   go_wp2_with fail;refine(lE.out _ ((HB.out.trans (aP.out.mono bC)).trans ((aM _ _).alloc (by have:=aP.out.size;omega) _)) _ _ (Blk.new _ _ _)).mono ?_;rintro en w3 ⟨rfl,aT⟩;have bD:Hid (Below w'.heap.size w' w3):=aA (aP.out.next (((aM _ _).alloc (aH _) _).next aT));clear aJ aL aK aT;go_wp2_with fail;go_ret;exact⟨by simp,bD.out⟩
theorem Oh{w:World}{B d:Nat}(bG:B<=w.heap.size)(f8:wV w B d)(x:Nd)(hk:x.k=44∨x.k=45)(hx:KV w B (d+1) x)(w':World)(hb:Below B w w'):
  Calls Tryz.prog 93 #[.agg #[.int .u8 x.k,.int .i64 x.num,.string x.nm,.slice x.A x.n x.cap]] w' fun en w''=>en=.returned (.bool ((decide (x.num=0)&&aS x.nm)&&(decide (x.n=1)&&bX (fun i=>oU w B (bO w B x i)) 1)))∧Below w'.heap.size w' w'':=by
 have HP:Hid (∀W,Calls Tryz.prog 123 #[.agg #[.int .u8 x.k,.int .i64 x.num,.string x.nm,.slice x.A x.n x.cap]] W fun e w'=>e=.returned (.bool (decide (x.num=0)&&aS x.nm))∧Below W.heap.size W w'):=aA fun W=>jP x W
 have lE:Hid (∀W,Below B w W->∀h t,Blk W h t #[.func (.func 121) #[] #[]]->Calls Tryz.prog 120 #[.agg #[.int .u8 x.k,.int .i64 x.num,.string x.nm,.slice x.A x.n x.cap],.slice (some ⟨h,0,none⟩) 1 1] W fun en w''=>en=.returned (.bool (decide (x.n=1)&&bX (fun i=>oU w B (bO w B x i)) 1))∧Below W.heap.size W w''):=aA fun W hW h t hf=>
  lL bG x 1 (by omega) (fun i=>121) (fun i=>oU w B (bO w B x i)) (fun i hi args W=>by
   match i,hi with
   |0,_=>rfl) (fun hn i hi=>by
   match i,hi with
   |0,_=>obtain⟨h1,h2⟩:=bE hx (i:=0) (by omega);exact⟨_,h1,fun W hW=>iU bG _ h2 W hW⟩) W hW h t _ hf (fun i hi=>by
   match i,hi with
   |0,_=>rfl)
 obtain⟨pb,hpb⟩:∃pb,(decide (x.num=0)&&aS x.nm)=pb:=⟨_,rfl⟩;obtain⟨rk,hrk⟩:∃rk,(decide (x.n=1)&&bX (fun i=>oU w B (bO w B x i)) 1)=rk:=⟨_,rfl⟩;rw[hpb]at HP⊢;rw[hrk]at lE⊢;have HB:=aA hb;have bC:B<=w'.heap.size:=by have:=hb.size;omega
 clear hx hb hpb hrk f8;obtain⟨k,num,nm,A,n,cap⟩:=x;dsimp only at *;rcases hk with rfl|rfl
 ·go_enter Tryz.func93,Tryz.ntmps93
  go_upto_region 1 with fail;refine aB ?_;intro w1 aF;have aG:Below w'.heap.size w' w1:=by rw[aF];go_grown
  have K1:Blk w1 w'.heap.size 26 #[.int .u8 44,.int .i64 num,.string nm,.slice A n cap]:=by rw[aF];exact aQ
  have a9:=aA K1;have aO:=aA aG;clear aF aG;obtain⟨aL,aJ,aK⟩:=K1.open_;clear K1;go_wp2_with fail;refine(HP.out w1).mono ?_;rintro en w2 ⟨rfl,hb2⟩;have aP:=aA (aO.out.next hb2);have K2:=a9.out.next hb2;clear aJ aL aK hb2;obtain⟨aL,aJ,aK⟩:=K2.open_;clear K2;cases pb with
  |false=>
   go_wp2_with fail;go_ret;exact⟨by simp,aP.out⟩
  |true=>
   go_wp2_with fail;refine(lE.out _ ((HB.out.trans (aP.out.mono bC)).trans ((aM _ _).alloc (by have:=aP.out.size;omega) _)) _ _ (Blk.new _ _ _)).mono ?_;rintro en w3 ⟨rfl,aT⟩;have bD:Hid (Below w'.heap.size w' w3):=aA (aP.out.next (((aM _ _).alloc (aH _) _).next aT));clear aJ aL aK aT;go_wp2_with fail;go_ret;exact⟨by simp,bD.out⟩
 ·go_enter Tryz.func93,Tryz.ntmps93
  go_upto_region 1 with fail;refine aB ?_;intro w1 aF;have aG:Below w'.heap.size w' w1:=by rw[aF];go_grown
  have K1:Blk w1 w'.heap.size 26 #[.int .u8 45,.int .i64 num,.string nm,.slice A n cap]:=by rw[aF];exact aQ
  have a9:=aA K1;have aO:=aA aG;clear aF aG;obtain⟨aL,aJ,aK⟩:=K1.open_;clear K1;go_wp2_with fail;refine(HP.out w1).mono ?_;rintro en w2 ⟨rfl,hb2⟩;have aP:=aA (aO.out.next hb2);have K2:=a9.out.next hb2;clear aJ aL aK hb2;obtain⟨aL,aJ,aK⟩:=K2.open_;clear K2;cases pb with
  |false=>
   go_wp2_with fail;go_ret;exact⟨by simp,aP.out⟩
  |true=>
   go_wp2_with fail;refine(lE.out _ ((HB.out.trans (aP.out.mono bC)).trans ((aM _ _).alloc (by have:=aP.out.size;omega) _)) _ _ (Blk.new _ _ _)).mono ?_;rintro en w3 ⟨rfl,aT⟩;have bD:Hid (Below w'.heap.size w' w3):=aA (aP.out.next (((aM _ _).alloc (aH _) _).next aT));clear aJ aL aK aT;go_wp2_with fail;go_ret;exact⟨by simp,bD.out⟩
theorem Oi{w:World}{B d:Nat}(bG:B<=w.heap.size)(f8:wV w B d)(x:Nd)(hk:x.k=46∨x.k=47∨x.k=48∨x.k=49)(hx:KV w B (d+1) x)(w':World)(hb:Below B w w'):
  Calls Tryz.prog 93 #[.agg #[.int .u8 x.k,.int .i64 x.num,.string x.nm,.slice x.A x.n x.cap]] w' fun en w''=>en=.returned (.bool ((decide (x.num=0)&&x.nm.toList.isEmpty)&&(decide (x.n=1)&&bX (fun i=>oU w B (bO w B x i)) 1)))∧Below w'.heap.size w' w'':=by
 have HP:Hid (∀W,Calls Tryz.prog 91 #[.agg #[.int .u8 x.k,.int .i64 x.num,.string x.nm,.slice x.A x.n x.cap]] W fun e w'=>e=.returned (.bool (decide (x.num=0)&&x.nm.toList.isEmpty))∧Below W.heap.size W w'):=aA fun W=>jQ x W
 have lE:Hid (∀W,Below B w W->∀h t,Blk W h t #[.func (.func 121) #[] #[]]->Calls Tryz.prog 120 #[.agg #[.int .u8 x.k,.int .i64 x.num,.string x.nm,.slice x.A x.n x.cap],.slice (some ⟨h,0,none⟩) 1 1] W fun en w''=>en=.returned (.bool (decide (x.n=1)&&bX (fun i=>oU w B (bO w B x i)) 1))∧Below W.heap.size W w''):=aA fun W hW h t hf=>
  lL bG x 1 (by omega) (fun i=>121) (fun i=>oU w B (bO w B x i)) (fun i hi args W=>by
   match i,hi with
   |0,_=>rfl) (fun hn i hi=>by
   match i,hi with
   |0,_=>obtain⟨h1,h2⟩:=bE hx (i:=0) (by omega);exact⟨_,h1,fun W hW=>iU bG _ h2 W hW⟩) W hW h t _ hf (fun i hi=>by
   match i,hi with
   |0,_=>rfl)
 obtain⟨pb,hpb⟩:∃pb,(decide (x.num=0)&&x.nm.toList.isEmpty)=pb:=⟨_,rfl⟩;obtain⟨rk,hrk⟩:∃rk,(decide (x.n=1)&&bX (fun i=>oU w B (bO w B x i)) 1)=rk:=⟨_,rfl⟩;rw[hpb]at HP⊢;rw[hrk]at lE⊢;have HB:=aA hb;have bC:B<=w'.heap.size:=by have:=hb.size;omega
 clear hx hb hpb hrk f8;obtain⟨k,num,nm,A,n,cap⟩:=x;dsimp only at *;rcases hk with rfl|rfl|rfl|rfl
 ·go_enter Tryz.func93,Tryz.ntmps93
  go_upto_region 1 with fail;refine aB ?_;intro w1 aF;have aG:Below w'.heap.size w' w1:=by rw[aF];go_grown
  have K1:Blk w1 w'.heap.size 26 #[.int .u8 46,.int .i64 num,.string nm,.slice A n cap]:=by rw[aF];exact aQ
  have a9:=aA K1;have aO:=aA aG;clear aF aG;obtain⟨aL,aJ,aK⟩:=K1.open_;clear K1;go_wp2_with fail;refine(HP.out w1).mono ?_;rintro en w2 ⟨rfl,hb2⟩;have aP:=aA (aO.out.next hb2);have K2:=a9.out.next hb2;clear aJ aL aK hb2;obtain⟨aL,aJ,aK⟩:=K2.open_;clear K2;cases pb with
  |false=>
   go_wp2_with fail;go_ret;exact⟨by simp,aP.out⟩
  |true=>
   go_wp2_with fail;refine(lE.out _ ((HB.out.trans (aP.out.mono bC)).trans ((aM _ _).alloc (by have:=aP.out.size;omega) _)) _ _ (Blk.new _ _ _)).mono ?_;rintro en w3 ⟨rfl,aT⟩;have bD:Hid (Below w'.heap.size w' w3):=aA (aP.out.next (((aM _ _).alloc (aH _) _).next aT));clear aJ aL aK aT;go_wp2_with fail;go_ret;exact⟨by simp,bD.out⟩
 ·go_enter Tryz.func93,Tryz.ntmps93
  go_upto_region 1 with fail;refine aB ?_;intro w1 aF;have aG:Below w'.heap.size w' w1:=by rw[aF];go_grown
  have K1:Blk w1 w'.heap.size 26 #[.int .u8 47,.int .i64 num,.string nm,.slice A n cap]:=by rw[aF];exact aQ
  have a9:=aA K1;have aO:=aA aG;clear aF aG;obtain⟨aL,aJ,aK⟩:=K1.open_;clear K1;go_wp2_with fail;refine(HP.out w1).mono ?_;rintro en w2 ⟨rfl,hb2⟩;have aP:=aA (aO.out.next hb2);have K2:=a9.out.next hb2;clear aJ aL aK hb2;obtain⟨aL,aJ,aK⟩:=K2.open_;clear K2;cases pb with
  |false=>
   go_wp2_with fail;go_ret;exact⟨by simp,aP.out⟩
  |true=>
   go_wp2_with fail;refine(lE.out _ ((HB.out.trans (aP.out.mono bC)).trans ((aM _ _).alloc (by have:=aP.out.size;omega) _)) _ _ (Blk.new _ _ _)).mono ?_;rintro en w3 ⟨rfl,aT⟩;have bD:Hid (Below w'.heap.size w' w3):=aA (aP.out.next (((aM _ _).alloc (aH _) _).next aT));clear aJ aL aK aT;go_wp2_with fail;go_ret;exact⟨by simp,bD.out⟩
 ·go_enter Tryz.func93,Tryz.ntmps93
  go_upto_region 1 with fail;refine aB ?_;intro w1 aF;have aG:Below w'.heap.size w' w1:=by rw[aF];go_grown
  have K1:Blk w1 w'.heap.size 26 #[.int .u8 48,.int .i64 num,.string nm,.slice A n cap]:=by rw[aF];exact aQ
  have a9:=aA K1;have aO:=aA aG;clear aF aG;obtain⟨aL,aJ,aK⟩:=K1.open_;clear K1;go_wp2_with fail;refine(HP.out w1).mono ?_;rintro en w2 ⟨rfl,hb2⟩;have aP:=aA (aO.out.next hb2);have K2:=a9.out.next hb2;clear aJ aL aK hb2;obtain⟨aL,aJ,aK⟩:=K2.open_;clear K2;cases pb with
  |false=>
   go_wp2_with fail;go_ret;exact⟨by simp,aP.out⟩
  |true=>
   go_wp2_with fail;refine(lE.out _ ((HB.out.trans (aP.out.mono bC)).trans ((aM _ _).alloc (by have:=aP.out.size;omega) _)) _ _ (Blk.new _ _ _)).mono ?_;rintro en w3 ⟨rfl,aT⟩;have bD:Hid (Below w'.heap.size w' w3):=aA (aP.out.next (((aM _ _).alloc (aH _) _).next aT));clear aJ aL aK aT;go_wp2_with fail;go_ret;exact⟨by simp,bD.out⟩
 ·go_enter Tryz.func93,Tryz.ntmps93
  go_upto_region 1 with fail;refine aB ?_;intro w1 aF;have aG:Below w'.heap.size w' w1:=by rw[aF];go_grown
  have K1:Blk w1 w'.heap.size 26 #[.int .u8 49,.int .i64 num,.string nm,.slice A n cap]:=by rw[aF];exact aQ
  have a9:=aA K1;have aO:=aA aG;clear aF aG;obtain⟨aL,aJ,aK⟩:=K1.open_;clear K1;go_wp2_with fail;refine(HP.out w1).mono ?_;rintro en w2 ⟨rfl,hb2⟩;have aP:=aA (aO.out.next hb2);have K2:=a9.out.next hb2;clear aJ aL aK hb2;obtain⟨aL,aJ,aK⟩:=K2.open_;clear K2;cases pb with
  |false=>
   go_wp2_with fail;go_ret;exact⟨by simp,aP.out⟩
  |true=>
   go_wp2_with fail;refine(lE.out _ ((HB.out.trans (aP.out.mono bC)).trans ((aM _ _).alloc (by have:=aP.out.size;omega) _)) _ _ (Blk.new _ _ _)).mono ?_;rintro en w3 ⟨rfl,aT⟩;have bD:Hid (Below w'.heap.size w' w3):=aA (aP.out.next (((aM _ _).alloc (aH _) _).next aT));clear aJ aL aK aT;go_wp2_with fail;go_ret;exact⟨by simp,bD.out⟩
theorem Oj{w:World}{B d:Nat}(bG:B<=w.heap.size)(f8:wV w B d)(x:Nd)(hk:x.k=52∨x.k=53)(hx:KV w B (d+1) x)(w':World)(hb:Below B w w'):
  Calls Tryz.prog 93 #[.agg #[.int .u8 x.k,.int .i64 x.num,.string x.nm,.slice x.A x.n x.cap]] w' fun en w''=>en=.returned (.bool ((decide (x.num=0)&&x.nm.toList.isEmpty)&&(decide (x.n=4)&&bX (fun i=>if i=0 then j8 w B (bO w B x i)else if i=1 then p7 w B d (bO w B x i)else if i=2 then p7 w B d (bO w B x i)else j8 w B (bO w B x i)) 4)))∧Below w'.heap.size w' w'':=by
 have HP:Hid (∀W,Calls Tryz.prog 91 #[.agg #[.int .u8 x.k,.int .i64 x.num,.string x.nm,.slice x.A x.n x.cap]] W fun e w'=>e=.returned (.bool (decide (x.num=0)&&x.nm.toList.isEmpty))∧Below W.heap.size W w'):=aA fun W=>jQ x W
 have lE:Hid (∀W,Below B w W->∀h t,Blk W h t #[.func (.func 122) #[] #[],.func (.func 54) #[] #[],.func (.func 54) #[] #[],.func (.func 122) #[] #[]]->Calls Tryz.prog 120 #[.agg #[.int .u8 x.k,.int .i64 x.num,.string x.nm,.slice x.A x.n x.cap],.slice (some ⟨h,0,none⟩) 4 4] W fun en w''=>en=.returned (.bool (decide (x.n=4)&&bX (fun i=>if i=0 then j8 w B (bO w B x i)else if i=1 then p7 w B d (bO w B x i)else if i=2 then p7 w B d (bO w B x i)else j8 w B (bO w B x i)) 4))∧Below W.heap.size W w''):=aA fun W hW h t hf=>
  lL bG x 4 (by omega) (fun i=>if i=0 then 122 else if i=1 then 54 else if i=2 then 54 else 122) (fun i=>if i=0 then j8 w B (bO w B x i)else if i=1 then p7 w B d (bO w B x i)else if i=2 then p7 w B d (bO w B x i)else j8 w B (bO w B x i)) (fun i hi args W=>by
   match i,hi with
   |0,_=>rfl
   |1,_=>rfl
   |2,_=>rfl
   |3,_=>rfl) (fun hn i hi=>by
   match i,hi with
   |0,_=>obtain⟨h1,h2⟩:=bE hx (i:=0) (by omega);exact⟨_,h1,fun W hW=>sS bG _ h2 W hW⟩
   |1,_=>obtain⟨h1,h2⟩:=bE hx (i:=1) (by omega);exact⟨_,h1,fun W hW=>f8 _ h2 W hW⟩
   |2,_=>obtain⟨h1,h2⟩:=bE hx (i:=2) (by omega);exact⟨_,h1,fun W hW=>f8 _ h2 W hW⟩
   |3,_=>obtain⟨h1,h2⟩:=bE hx (i:=3) (by omega);exact⟨_,h1,fun W hW=>sS bG _ h2 W hW⟩) W hW h t _ hf (fun i hi=>by
   match i,hi with
   |0,_=>rfl
   |1,_=>rfl
   |2,_=>rfl
   |3,_=>rfl)
 obtain⟨pb,hpb⟩:∃pb,(decide (x.num=0)&&x.nm.toList.isEmpty)=pb:=⟨_,rfl⟩;obtain⟨rk,hrk⟩:∃rk,(decide (x.n=4)&&bX (fun i=>if i=0 then j8 w B (bO w B x i)else if i=1 then p7 w B d (bO w B x i)else if i=2 then p7 w B d (bO w B x i)else j8 w B (bO w B x i)) 4)=rk:=⟨_,rfl⟩;rw[hpb]at HP⊢;rw[hrk]at lE⊢;have HB:=aA hb;have bC:B<=w'.heap.size:=by have:=hb.size;omega
 clear hx hb hpb hrk f8;obtain⟨k,num,nm,A,n,cap⟩:=x;dsimp only at *;rcases hk with rfl|rfl
 ·go_enter Tryz.func93,Tryz.ntmps93
  go_upto_region 1 with fail;refine aB ?_;intro w1 aF;have aG:Below w'.heap.size w' w1:=by rw[aF];go_grown
  have K1:Blk w1 w'.heap.size 26 #[.int .u8 52,.int .i64 num,.string nm,.slice A n cap]:=by rw[aF];exact aQ
  have a9:=aA K1;have aO:=aA aG;clear aF aG;obtain⟨aL,aJ,aK⟩:=K1.open_;clear K1;go_wp2_with fail;refine(HP.out w1).mono ?_;rintro en w2 ⟨rfl,hb2⟩;have aP:=aA (aO.out.next hb2);have K2:=a9.out.next hb2;clear aJ aL aK hb2;obtain⟨aL,aJ,aK⟩:=K2.open_;clear K2;cases pb with
  |false=>
   go_wp2_with fail;go_ret;exact⟨by simp,aP.out⟩
  |true=>
   go_wp2_with fail;refine(lE.out _ ((HB.out.trans (aP.out.mono bC)).trans ((aM _ _).alloc (by have:=aP.out.size;omega) _)) _ _ (Blk.new _ _ _)).mono ?_;rintro en w3 ⟨rfl,aT⟩;have bD:Hid (Below w'.heap.size w' w3):=aA (aP.out.next (((aM _ _).alloc (aH _) _).next aT));clear aJ aL aK aT;go_wp2_with fail;go_ret;exact⟨by simp,bD.out⟩
 ·go_enter Tryz.func93,Tryz.ntmps93
  go_upto_region 1 with fail;refine aB ?_;intro w1 aF;have aG:Below w'.heap.size w' w1:=by rw[aF];go_grown
  have K1:Blk w1 w'.heap.size 26 #[.int .u8 53,.int .i64 num,.string nm,.slice A n cap]:=by rw[aF];exact aQ
  have a9:=aA K1;have aO:=aA aG;clear aF aG;obtain⟨aL,aJ,aK⟩:=K1.open_;clear K1;go_wp2_with fail;refine(HP.out w1).mono ?_;rintro en w2 ⟨rfl,hb2⟩;have aP:=aA (aO.out.next hb2);have K2:=a9.out.next hb2;clear aJ aL aK hb2;obtain⟨aL,aJ,aK⟩:=K2.open_;clear K2;cases pb with
  |false=>
   go_wp2_with fail;go_ret;exact⟨by simp,aP.out⟩
  |true=>
   go_wp2_with fail;refine(lE.out _ ((HB.out.trans (aP.out.mono bC)).trans ((aM _ _).alloc (by have:=aP.out.size;omega) _)) _ _ (Blk.new _ _ _)).mono ?_;rintro en w3 ⟨rfl,aT⟩;have bD:Hid (Below w'.heap.size w' w3):=aA (aP.out.next (((aM _ _).alloc (aH _) _).next aT));clear aJ aL aK aT;go_wp2_with fail;go_ret;exact⟨by simp,bD.out⟩
theorem Ol{w:World}{B d:Nat}(bG:B<=w.heap.size)(f8:wV w B d)(x:Nd)(hk:x.k=54)(hx:KV w B (d+1) x)(w':World)(hb:Below B w w'):
  Calls Tryz.prog 93 #[.agg #[.int .u8 x.k,.int .i64 x.num,.string x.nm,.slice x.A x.n x.cap]] w' fun en w''=>en=.returned (.bool ((decide (x.num=0)&&aS x.nm)&&(decide (x.n=3)&&bX (fun i=>if i=0 then j8 w B (bO w B x i)else if i=1 then p7 w B d (bO w B x i)else j8 w B (bO w B x i)) 3)))∧Below w'.heap.size w' w'':=by
 have HP:Hid (∀W,Calls Tryz.prog 123 #[.agg #[.int .u8 x.k,.int .i64 x.num,.string x.nm,.slice x.A x.n x.cap]] W fun e w'=>e=.returned (.bool (decide (x.num=0)&&aS x.nm))∧Below W.heap.size W w'):=aA fun W=>jP x W
 have lE:Hid (∀W,Below B w W->∀h t,Blk W h t #[.func (.func 122) #[] #[],.func (.func 54) #[] #[],.func (.func 122) #[] #[]]->Calls Tryz.prog 120 #[.agg #[.int .u8 x.k,.int .i64 x.num,.string x.nm,.slice x.A x.n x.cap],.slice (some ⟨h,0,none⟩) 3 3] W fun en w''=>en=.returned (.bool (decide (x.n=3)&&bX (fun i=>if i=0 then j8 w B (bO w B x i)else if i=1 then p7 w B d (bO w B x i)else j8 w B (bO w B x i)) 3))∧Below W.heap.size W w''):=aA fun W hW h t hf=>
  lL bG x 3 (by omega) (fun i=>if i=0 then 122 else if i=1 then 54 else 122) (fun i=>if i=0 then j8 w B (bO w B x i)else if i=1 then p7 w B d (bO w B x i)else j8 w B (bO w B x i)) (fun i hi args W=>by
   match i,hi with
   |0,_=>rfl
   |1,_=>rfl
   |2,_=>rfl) (fun hn i hi=>by
   match i,hi with
   |0,_=>obtain⟨h1,h2⟩:=bE hx (i:=0) (by omega);exact⟨_,h1,fun W hW=>sS bG _ h2 W hW⟩
   |1,_=>obtain⟨h1,h2⟩:=bE hx (i:=1) (by omega);exact⟨_,h1,fun W hW=>f8 _ h2 W hW⟩
   |2,_=>obtain⟨h1,h2⟩:=bE hx (i:=2) (by omega);exact⟨_,h1,fun W hW=>sS bG _ h2 W hW⟩) W hW h t _ hf (fun i hi=>by
   match i,hi with
   |0,_=>rfl
   |1,_=>rfl
   |2,_=>rfl)
 obtain⟨pb,hpb⟩:∃pb,(decide (x.num=0)&&aS x.nm)=pb:=⟨_,rfl⟩;obtain⟨rk,hrk⟩:∃rk,(decide (x.n=3)&&bX (fun i=>if i=0 then j8 w B (bO w B x i)else if i=1 then p7 w B d (bO w B x i)else j8 w B (bO w B x i)) 3)=rk:=⟨_,rfl⟩;rw[hpb]at HP⊢;rw[hrk]at lE⊢;have HB:=aA hb;have bC:B<=w'.heap.size:=by have:=hb.size;omega
 clear hx hb hpb hrk f8;obtain⟨k,num,nm,A,n,cap⟩:=x;dsimp only at *;rcases hk with rfl
 ·go_enter Tryz.func93,Tryz.ntmps93
  go_upto_region 1 with fail;refine aB ?_;intro w1 aF;have aG:Below w'.heap.size w' w1:=by rw[aF];go_grown
  have K1:Blk w1 w'.heap.size 26 #[.int .u8 54,.int .i64 num,.string nm,.slice A n cap]:=by rw[aF];exact aQ
  have a9:=aA K1;have aO:=aA aG;clear aF aG;obtain⟨aL,aJ,aK⟩:=K1.open_;clear K1;go_wp2_with fail;refine(HP.out w1).mono ?_;rintro en w2 ⟨rfl,hb2⟩;have aP:=aA (aO.out.next hb2);have K2:=a9.out.next hb2;clear aJ aL aK hb2;obtain⟨aL,aJ,aK⟩:=K2.open_;clear K2;cases pb with
  |false=>
   go_wp2_with fail;go_ret;exact⟨by simp,aP.out⟩
  |true=>
   go_wp2_with fail;refine(lE.out _ ((HB.out.trans (aP.out.mono bC)).trans ((aM _ _).alloc (by have:=aP.out.size;omega) _)) _ _ (Blk.new _ _ _)).mono ?_;rintro en w3 ⟨rfl,aT⟩;have bD:Hid (Below w'.heap.size w' w3):=aA (aP.out.next (((aM _ _).alloc (aH _) _).next aT));clear aJ aL aK aT;go_wp2_with fail;go_ret;exact⟨by simp,bD.out⟩
theorem Om{w:World}{B d:Nat}(bG:B<=w.heap.size)(f8:wV w B d)(x:Nd)(hk:x.k=55)(hx:KV w B (d+1) x)(w':World)(hb:Below B w w'):
  Calls Tryz.prog 93 #[.agg #[.int .u8 x.k,.int .i64 x.num,.string x.nm,.slice x.A x.n x.cap]] w' fun en w''=>en=.returned (.bool ((decide (x.num=0)&&aS x.nm)&&(decide (x.n=1)&&bX (fun i=>p7 w B d (bO w B x i)) 1)))∧Below w'.heap.size w' w'':=by
 have HP:Hid (∀W,Calls Tryz.prog 123 #[.agg #[.int .u8 x.k,.int .i64 x.num,.string x.nm,.slice x.A x.n x.cap]] W fun e w'=>e=.returned (.bool (decide (x.num=0)&&aS x.nm))∧Below W.heap.size W w'):=aA fun W=>jP x W
 have lE:Hid (∀W,Below B w W->∀h t,Blk W h t #[.func (.func 54) #[] #[]]->Calls Tryz.prog 120 #[.agg #[.int .u8 x.k,.int .i64 x.num,.string x.nm,.slice x.A x.n x.cap],.slice (some ⟨h,0,none⟩) 1 1] W fun en w''=>en=.returned (.bool (decide (x.n=1)&&bX (fun i=>p7 w B d (bO w B x i)) 1))∧Below W.heap.size W w''):=aA fun W hW h t hf=>
  lL bG x 1 (by omega) (fun i=>54) (fun i=>p7 w B d (bO w B x i)) (fun i hi args W=>by
   match i,hi with
   |0,_=>rfl) (fun hn i hi=>by
   match i,hi with
   |0,_=>obtain⟨h1,h2⟩:=bE hx (i:=0) (by omega);exact⟨_,h1,fun W hW=>f8 _ h2 W hW⟩) W hW h t _ hf (fun i hi=>by
   match i,hi with
   |0,_=>rfl)
 obtain⟨pb,hpb⟩:∃pb,(decide (x.num=0)&&aS x.nm)=pb:=⟨_,rfl⟩;obtain⟨rk,hrk⟩:∃rk,(decide (x.n=1)&&bX (fun i=>p7 w B d (bO w B x i)) 1)=rk:=⟨_,rfl⟩;rw[hpb]at HP⊢;rw[hrk]at lE⊢;have HB:=aA hb;have bC:B<=w'.heap.size:=by have:=hb.size;omega
 clear hx hb hpb hrk f8;obtain⟨k,num,nm,A,n,cap⟩:=x;dsimp only at *;rcases hk with rfl
 ·go_enter Tryz.func93,Tryz.ntmps93
  go_upto_region 1 with fail;refine aB ?_;intro w1 aF;have aG:Below w'.heap.size w' w1:=by rw[aF];go_grown
  have K1:Blk w1 w'.heap.size 26 #[.int .u8 55,.int .i64 num,.string nm,.slice A n cap]:=by rw[aF];exact aQ
  have a9:=aA K1;have aO:=aA aG;clear aF aG;obtain⟨aL,aJ,aK⟩:=K1.open_;clear K1;go_wp2_with fail;refine(HP.out w1).mono ?_;rintro en w2 ⟨rfl,hb2⟩;have aP:=aA (aO.out.next hb2);have K2:=a9.out.next hb2;clear aJ aL aK hb2;obtain⟨aL,aJ,aK⟩:=K2.open_;clear K2;cases pb with
  |false=>
   go_wp2_with fail;go_ret;exact⟨by simp,aP.out⟩
  |true=>
   go_wp2_with fail;refine(lE.out _ ((HB.out.trans (aP.out.mono bC)).trans ((aM _ _).alloc (by have:=aP.out.size;omega) _)) _ _ (Blk.new _ _ _)).mono ?_;rintro en w3 ⟨rfl,aT⟩;have bD:Hid (Below w'.heap.size w' w3):=aA (aP.out.next (((aM _ _).alloc (aH _) _).next aT));clear aJ aL aK aT;go_wp2_with fail;go_ret;exact⟨by simp,bD.out⟩
end Go.Proofs.YtakfdnnlhjhcfaaGreatDoor
