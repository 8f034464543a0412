import Derived.Test.YtmajgldaplkpiaaGreatDoorQ40
import Derived.Test.YtmajgldaplkpiaaGreatDoorQ38
namespace Go.Proofs.YtmajgldaplkpiaaGreatDoor
open Go.RowKit Go.Maps
set_option linter.unusedVariables false
set_option maxRecDepth 100000
set_option maxHeartbeats 2000000
structure SmR (ds:List Dev)(r:Int)(S:List Src)(M:List Vir)(G:List (ByteArray×ByteArray)):Prop where
 m:∀ s∈S,s.d∈ds/\s.o.size<=1000000
 s:S.length<=700
 v:M.length<=10000
 g:G.length<=10000
theorem zLP (c:RC)(w0:World)(base:Nat)(ds:List Dev)(tx:Dev->ByteArray)(E K:List ByteArray)(hB:RB c w0 base ds tx E K)(I:Int->List Src->List Vir->List (ByteArray×ByteArray)->Prop)
  (hI:∀ r S M G S' M' G',I r S M G->NextR ds tx E K c.C r S M G S' M' G'->M.length<M'.length->I (r+1) S' M' G') (hb:∀ r S M G,I r S M G->SmR ds r S M G)
  (sa:Option Addr) (sc:Nat) (ma:Option Addr) (mc:Nat) (S:List Src) (M:List Vir) (G:List (ByteArray×ByteArray)) (w:World) (hf0:Fr (From w0.heap.size) w0 w) (h:RS c w sa sc ma mc S M G) (h1:I 1 S M G):
  Calls Tryz.prog 61 #[.pointer (some ⟨c.xb,0,none⟩)] w fun e w'=>(e=.returned (.pointer (some ⟨c.xb,0,none⟩))/\∃ r S M G S' M' G' sa' sc' ma' mc',I r S M G/\NextR ds tx E K c.C r S M G S' M' G'/\¬ M.length<(M':List Vir).length/\RS c w' sa' sc' ma' mc' S' M' G')/\Fr (From w0.heap.size) w0 w':=by
 have HB:=Lib.hid hB;have HI:=Lib.hid hI;have Hb:=Lib.hid hb;have HS:=Lib.hid (And.intro h (And.intro hf0 h1));clear hB hI hb h hf0 h1
 go_enter Tryz.func61,Tryz.ntmps61
 go_wp2_with fail
 go_loopw [3] (fun x wr=>∃ (r:Int) (S:List Src) (M:List Vir) (G:List (ByteArray×ByteArray)) (sa':Option Addr) (sc':Nat) (ma':Option Addr) (mc':Nat),x=.int .i64 r/\Hid (1<=r/\r<=M.length+1/\I r S M G)/\Hid (RS c wr sa' sc' ma' mc' S M G)/\Hid (Fr (From w0.heap.size) w0 wr)) (fun x _=>10002-(intOf x).toNat)
 case atStart=>exact⟨1,S,M,G,sa,sc,ma,mc,rfl,⟨by omega,by omega,HS.out.2.2⟩,HS.out.1,HS.out.2.1⟩
 case round=>
  obtain⟨r,Sr,Mr,Gr,sa',sc',ma',mc',rfl,HX,HR,HF⟩:=hrel;have hsm:=Hb.out _ _ _ _ HX.out.2.2;have hr1:=HX.out.1;have hr2:=HX.out.2.1;have hv:=hsm.v;have hn:=zK6 c w0 base ds tx E K HB.out sa' sc' ma' mc' Sr Mr Gr r wr HF.out HR.out hsm.m (by have:=hsm.s;omega) hsm.s hsm.v hsm.g;have Hsm:=Lib.hid hsm;clear hsm
  go_wp2_with fail
  refine hn.mono ?_;rintro e w1 ⟨⟨S',M',G',sa2,sc2,ma2,mc2,rfl,hR1,hN1⟩,hf1⟩;have HR1:=Lib.hid (And.intro hR1 (And.intro hN1 hf1));clear hn hR1 hN1 hf1;by_cases hlt:Mr.length<M'.length
  ·have hd:decide (Mr.length<M'.length)=true:=decide_eq_true hlt;rw[hd];have hI2:=HI.out _ _ _ _ _ _ _ HX.out.2.2 HR1.out.2.1 hlt;have hM2:=(Hb.out _ _ _ _ hI2).v;have HI2:=Lib.hid hI2;clear hI2 hd
   go_wp2_with fail
   go_roundw
   case rel=>exact⟨r+1,S',M',G',sa2,sc2,ma2,mc2,by first | rfl | (go_num;done) | (simp;done),⟨by omega,by omega,HI2.out⟩,HR1.out.1,HR1.out.2.2⟩
   case measure=>simp[intOf];omega
  ·have hd:decide (Mr.length<M'.length)=false:=decide_eq_false hlt;rw[hd];have Hlt:=Lib.hid hlt;clear hd hlt
   go_wp2_with fail
   go_ret;exact⟨⟨rfl,r,Sr,Mr,Gr,S',M',G',sa2,sc2,ma2,mc2,HX.out.2.2,HR1.out.2.1,Hlt.out,HR1.out.1⟩,HR1.out.2.2⟩
theorem zH9 (a ra ka ea:Option Addr)(cap rc kc ec base:Nat)(wt:Int)(ds:List Dev)(L:List Rec)(tx:Dev->ByteArray)(E K:List ByteArray)(w:World)(hl:Tr w base a cap ds)(hn:ds.length<=250)(hr:Recs w ra rc L)
  (hEnv:Env w) (hes:Strs w ea ec E) (hks:Strs w ka kc K) (hkl:K.length<=1000000) (hkz:∀ x∈K,x.size<=maxLen) (htx:TxS w w.heap.size tx ds)
  (I:Int->List Src->List Vir->List (ByteArray×ByteArray)->Prop)
  (hI:∀ r S M G S' M' G',I r S M G->NextR ds tx E K (cntL ds L 0 ds) r S M G S' M' G'->M.length<M'.length->I (r+1) S' M' G') (hb:∀ r S M G,I r S M G->SmR ds r S M G)
  (h1:I 1 ((cntL ds L 0 ds).filter fun s=>!virB ds s.d.index) [] []):
  Calls Tryz.prog 30 #[.agg #[.slice a ds.length cap],.slice ra L.length rc,.agg #[.slice ka K.length kc,.int .i64 wt],.slice ea E.length ec] w fun e w'=>
   (∃ ma mc r S M G S' M' G',e=.returned (.slice ma (M':List Vir).length mc)/\Virs w' ma mc M'/\(∀ ad,ma=some ad->w.heap.size<=ad.block)/\I r S M G/\NextR ds tx E K (cntL ds L 0 ds) r S M G S' M' G'/\¬ M.length<M'.length)/\Fr No w w':=by
 obtain⟨W0,hW0⟩:∃ W0,W0=(w.alloc (.cells #[.slice a ds.length cap] 28)).alloc (.cells #[.slice ka K.length kc,.int .i64 wt] 75):=⟨_,rfl⟩
 have x0:Fr No w W0:=by rw[hW0];exact((Fr.refl _ _).alloc _).alloc _
 have b1:W0.heap[w.heap.size]?=some (.cells #[.slice a ds.length cap] 28):=by rw[hW0];exact zL _ _ _
 have b2:W0.heap[w.heap.size+1]?=some (.cells #[.slice ka K.length kc,.int .i64 wt] 75):=by rw[hW0];exact zP _ _ _
 have s0:=x0.size;have hbg:=zKW a ra ka ea cap rc K.length kc E.length ec base wt ds L W0 (hl.no x0) hn (hr.no x0 (fun _=>id)) (hEnv.no x0).err ⟨by have:=(hEnv.no x0).sz;omega,by have:=(hEnv.no x0).sz;omega⟩;have HB0:Hid (∀ ca cc b2,RB ⟨ka,K.length,kc,wt,a,ds.length,cap,ea,E.length,ec,ca,cc,cntL ds L 0 ds,W0.heap.size+2,W0.heap.size+3,W0.heap.size+4,W0.heap.size,b2⟩ W0 base ds tx E K):=fun ca cc b2=>by
  refine⟨rfl,hEnv.no x0,hl.no x0,rfl,hn,hes.no x0 (fun _=>id),rfl,hks.no x0 (fun _=>id),rfl,hkl,hkz,?_,fun s hs=>?_,?_⟩
  ·intro d hd;obtain⟨l,g1,g2,g3,g4,g5⟩:=htx d hd;exact⟨l,g1.no x0 (fun _=>id),g2,g3,g4,fun ad e hne=>Nat.lt_of_lt_of_le (g5 ad e hne) s0⟩
  ·have:=zD7 ds L ds 0 s hs;refine⟨this.1,?_,by omega⟩;rw[this.2.1];have:=zBm hl.wf.ok hn s.d.index;omega
  ·exact Nat.le_trans (zCT ds L ds 0) hn
 have t1:W0.cell? ⟨w.heap.size,0,none⟩=some (.slice a ds.length cap):=zB b1 0;obtain⟨t2,t3⟩:=cl2 b2;have HX0:=Lib.hid x0;have HI:=Lib.hid hI;have Hb:=Lib.hid hb;have H1:=Lib.hid h1;clear hl hr hEnv hes hks htx hI hb h1 b1 b2 x0 hkz
 go_enter Tryz.func30,Tryz.ntmps30
 go_upto_region 1 with(fail)
 rw[<-hW0];clear hW0
 go_wp2_with fail
 refine hbg.mono ?_;rintro e w1 ⟨⟨ca,cc,b2,rfl,hRS,hb2⟩,hf1⟩;obtain⟨c,hc⟩:∃ c:RC,c=⟨ka,K.length,kc,wt,a,ds.length,cap,ea,E.length,ec,ca,cc,cntL ds L 0 ds,W0.heap.size+2,W0.heap.size+3,W0.heap.size+4,W0.heap.size,b2⟩:=⟨_,rfl⟩
 have HBc:=Lib.hid (HB0.out ca cc b2);have hxb:W0.heap.size+4=c.xb:=by rw[hc]
 have HC:Hid (c.C=cntL ds L 0 ds):=by rw[hc];rfl
 have HC0:Hid (c.b0=W0.heap.size):=by rw[hc];rfl
 have hb2':c.b2<=w1.heap.size:=by rw[hc];exact hb2
 rw[<-hc]at hRS HBc;obtain⟨sa,sc,ma,mc,hR⟩:=hRS.rs hb2';have hrun:=zLP c W0 base ds tx E K HBc.out I (by rw[HC.out];exact HI.out) Hb.out sa sc ma mc _ [] [] w1 (hf1.mono (fun _ _ h=>h.elim)) hR H1.out;rw[hxb];clear hc hxb hbg hRS hR t1 t2 t3 hb2 hb2' hf1
 go_wp2_with fail
 refine hrun.mono ?_;rintro e w2 ⟨⟨rfl,r,S,M,G,S',M',G',sa',sc',ma',mc',hi,hnx,hno,hR⟩,hf2⟩;have k8:w2.cell? ⟨c.xb,8,none⟩=some (.slice ma' M'.length mc'):=zB hR.k 8;obtain⟨a9,c9,hv9,hVr,hVf⟩:=Virs.of_own hR.mo;cases hv9;have HV:=Lib.hid (And.intro hVr hVf);have HN:Hid (NextR ds tx E K (cntL ds L 0 ds) r S M G S' M' G'):=by rw[<-HC.out];exact hnx
 have HNo:=Lib.hid (And.intro hi hno);have HF:=Lib.hid (HX0.out.step hf2 (fun b hb h=>by unfold From at h;omega));clear hrun hi hnx hno hR hf2 hVr hVf
 go_wp2_with fail
 go_ret;exact⟨⟨_,_,r,S,M,G,S',M',G',rfl,HV.out.1,fun ad e=>by have:=HV.out.2 ad e;rw[HC0.out]at this;omega,HNo.out.1,HN.out,HNo.out.2⟩,HF.out⟩
theorem infoR : (Tryz.prog.info? 46).map (fun i=>(i.zero,i.size,i.bytes))=some (some (.agg #[.string ByteArray.empty,.int .i64 0,.slice none 0 0,.slice none 0 0,.slice none 0 0,.slice none 0 0,.slice none 0 0,.string ByteArray.empty,.int .i64 0,.string ByteArray.empty,.string ByteArray.empty,.int .i64 0]),12,208):=by kernel_rfl
def rflat (l:List Rec):List Value:=l.flatMap (fun r=>r.vals.toList)
theorem zB8 (l:List Rec)(r:Rec):rflat (l++[r])=rflat l++r.vals.toList:=by simp[rflat]
theorem zIR (r:Rec)(j:Nat)(hj:j<12):r.vals.toList[j]?=some (r.cell j):=by
 unfold Rec.vals
 match j,hj with
 | 0,_=>rfl
 | 1,_=>rfl
 | 2,_=>rfl
 | 3,_=>rfl
 | 4,_=>rfl
 | 5,_=>rfl
 | 6,_=>rfl
 | 7,_=>rfl
 | 8,_=>rfl
 | 9,_=>rfl
 | 10,_=>rfl
 | 11,_=>rfl
theorem zFY : ∀ (l:List Rec) (i:Nat) (r:Rec),l[i]?=some r->∀ j,j<12->(rflat l)[i*12+j]?=some (r.cell j)
 | [],i,d,h,j,hj=>by simp at h
 | x::t,0,d,h,j,hj=>by
  simp at h;subst h;have:rflat (x::t)=x.vals.toList++rflat t:=by simp[rflat]
  rw[this,List.getElem?_append_left (by simp[Rec.vals];omega)]
  simpa using zIR x j hj
 | x::t,i+1,d,h,j,hj=>by
  have:rflat (x::t)=x.vals.toList++rflat t:=by simp[rflat]
  rw[this,List.getElem?_append_right (by simp[Rec.vals];omega)];have h1:=zFY t i d (by simpa using h) j hj;rw[show (i+1)*12+j-x.vals.toList.length=i*12+j from by simp[Rec.vals];omega];exact h1
theorem zBk (r:Rec):∀ u∈r.vals.toList,u.oneCell'=true:=by
 intro u hu;simp[Rec.vals]at hu;rcases hu with rfl | rfl | rfl | rfl | rfl | rfl | rfl | rfl | rfl | rfl | rfl | rfl<;>rfl
theorem Recs.of_own {w:World}{base:Nat}{e:TypeId}{v:Value}{l:List Rec}(h:w.ownsRow base e 12 v l.length (rflat l))(hok:∀ r∈l,RecOk w r):
  ∃ a cap,v=.slice a l.length cap/\Recs w a cap l/\∀ ad,a=some ad->base<=ad.block:=by
 obtain⟨_,⟨rfl,h2⟩ | ⟨g,cap,cur,rfl,hg,hb,h1,h2,h3,h4⟩⟩:=h
 ·have:l=[]:=List.eq_nil_of_length_eq_zero h2;subst this;exact⟨none,0,rfl,Recs.nil w,fun _ e=>by cases e⟩
 ·refine⟨some ⟨g,0,none⟩,cap,rfl,⟨h1,h2,(fun e=>by cases e),hok,?_⟩,fun ad e=>by cases e;exact hg⟩;intro ad e hne;cases e;refine⟨rfl,zE hb,fun i d hi j hj=>?_⟩;rw[zB hb];simp only[Nat.zero_add];have hlt:i<l.length:=(List.getElem?_eq_some_iff.1 hi).1;have e1:(cur.toList.take (l.length*12))[i*12+j]?=(rflat l)[i*12+j]?:=by rw[h4]
  rw[List.getElem?_take_of_lt (by omega),zFY l i d hi j hj]at e1;rw[<-Array.getElem?_toList,e1]
def D0 (aa:Option Addr)(ac:Nat):Dev:=⟨1,0,sxA,sxA,zZ,⟨#[]⟩,⟨#[]⟩,2,1,aa,1,ac⟩
def D1 (aa:Option Addr)(ac:Nat):Dev:=⟨2,1,sxB,sxB,zZ,⟨#[]⟩,⟨#[]⟩,2,1048576,aa,1,ac⟩
section
variable (a0 a1:Option Addr)(c0 c1:Nat)
theorem zKg : Sound (D0 a0 c0) [(zQ,sxT)]:=⟨by kernel_rfl,by kernel_rfl,by simp[D0],by kernel_rfl,by kernel_rfl,by kernel_rfl⟩
theorem zKf : Sound (D1 a1 c1) [(zQ,sxR)]:=⟨by kernel_rfl,by kernel_rfl,by simp[D1],by kernel_rfl,by kernel_rfl,by kernel_rfl⟩
theorem new0 : newO [] (D0 a0 c0)=sxPA:=by kernel_rfl
theorem zIZ : plc [D0 a0 c0] 1=sxPA:=by kernel_rfl
theorem new1 : newO [D0 a0 c0] (D1 a1 c1)=sxPB:=by kernel_rfl
theorem dep0 : depthB sxPA<=7:=by
 have:depthB sxPA=1:=by kernel_rfl
 omega
theorem dep1 : depthB sxPB<=7:=by
 have:depthB sxPB=2:=by kernel_rfl
 omega
theorem ins0 : InsOk [] (D0 a0 c0) [(zQ,sxT)]:=⟨zKg a0 c0,by kernel_rfl,by kernel_rfl,by simp,by rw[new0];exact dep0,by simp,by simp⟩
theorem zLO : decide (0<=(cmpP sxPA sxPB).1)=false:=by kernel_rfl
theorem ins1 : InsOk [D0 a0 c0] (D1 a1 c1) [(zQ,sxR)]:=⟨zKf a1 c1,by kernel_rfl,by kernel_rfl,by simp,by rw[new1];exact dep1,by
 intro x hx;obtain rfl:x=D0 a0 c0:=by simpa using hx
 rw[new1];unfold zA1;have:plc [D0 a0 c0] (D0 a0 c0).index=sxPA:=zIZ a0 c0;rw[this];exact zLO,by kernel_rfl⟩
theorem wf0 : TreeWf [D0 a0 c0]:=by
 refine⟨⟨by simp,by simp[D0],?_,?_⟩,?_,?_⟩
 ·intro k d hk;rcases k with _ | k
  ·simp at hk;subst hk;exact .inl rfl
  ·simp at hk
 ·intro d hd;obtain rfl:d=D0 a0 c0:=by simpa using hd
  exact⟨by show sxA.size<=32;decide,by show ∀ b∈sxA.data.toList,b≠47;decide⟩
 ·intro d hd e he _;rw[show d=D0 a0 c0 by simpa using hd,show e=D0 a0 c0 by simpa using he]
 ·intro d hd;obtain rfl:d=D0 a0 c0:=by simpa using hd
  have:(origin [D0 a0 c0] (D0 a0 c0).index).length=1:=by kernel_rfl
  omega
theorem org0 : origin [D0 a0 c0] 1=[sxA]:=by kernel_rfl
theorem wf1 : TreeWf [D0 a0 c0,D1 a1 c1]:=by
 have h:=((wf0 a0 c0).insert (k:=1) (d:=D1 a1 c1) (by simp) (by kernel_rfl) ⟨by show (1:Int)<=2;omega,by show (2:Int)<=_;omega⟩ ⟨by show sxB.size<=32;decide,by show ∀ b∈sxB.data.toList,b≠47;decide⟩ (by show (1:Int)≠2;omega)
  (.inr ⟨0,D0 a0 c0,by omega,rfl,rfl⟩) (fun e he=>by
   obtain rfl:e=D0 a0 c0:=by simpa using he
   show origin [D0 a0 c0] 1≠origin [D0 a0 c0] 1++[sxB]
   rw[org0];simp) (by show (origin [D0 a0 c0] 1).length<7;rw[org0];decide)).1
 exact h
theorem vir0 : virB [D0 a0 c0] 1=false:=by kernel_rfl
theorem zK8 : virB [D0 a0 c0,D1 a1 c1] 1=false:=by kernel_rfl
theorem vir1 : virB [D0 a0 c0,D1 a1 c1] 2=true:=by kernel_rfl
theorem zK9 : usedF [D0 a0 c0] 1048576=false:=by kernel_rfl
theorem max0 : maxI [D0 a0 c0]=1:=by kernel_rfl
theorem zLE : plc [D0 a0 c0,D1 a1 c1] 1=sxPA:=by kernel_rfl
theorem zLD : plc [D0 a0 c0,D1 a1 c1] 2=sxPB:=by kernel_rfl
theorem at0 : [D0 a0 c0].find? (atP [D0 a0 c0] sxPA)=some (D0 a0 c0):=by
 have:atP [D0 a0 c0] sxPA (D0 a0 c0)=true:=by
  unfold atP;rw[show (D0 a0 c0).index=1 from rfl,zIZ];simp
 rw[List.find?_cons_of_pos this]
theorem at1 : [D0 a0 c0].find? (atP [D0 a0 c0] (sxPA++(⟨#[47]⟩:ByteArray)++sxB))=none:=by
 have:atP [D0 a0 c0] (sxPA++(⟨#[47]⟩:ByteArray)++sxB) (D0 a0 c0)=false:=by
  unfold atP;rw[show (D0 a0 c0).index=1 from rfl,zIZ];kernel_rfl
 rw[List.find?_eq_none];intro x hx;obtain rfl:x=D0 a0 c0:=by simpa using hx
 rw[this];simp
theorem par0 : ParIs [] ⟨#[]⟩ 0:=.inl ⟨rfl,rfl,rfl⟩
theorem par1 : ParIs [D0 a0 c0] sxPA 1:=.inr ⟨D0 a0 c0,at0 a0 c0,rfl⟩
theorem zKi : Sized (D0 a0 c0):=⟨by show sxA.size<=_;decide,by show sxA.size<=_;decide,by show zZ.size<=_;decide,by show (0:Nat)<=_;omega,by show (0:Nat)<=_;omega⟩
theorem zJJ : Sized (D1 a1 c1):=⟨by show sxB.size<=_;decide,by show sxB.size<=_;decide,by show zZ.size<=_;decide,by show (0:Nat)<=_;omega,by show (0:Nat)<=_;omega⟩
theorem zKq : newD [D0 a0 c0] 1 sxB a1=D1 a1 1:=by kernel_rfl
def sxTx (d:Dev):ByteArray:=if d.index=1 then sxT else sxR
theorem sxd : SxD (D0 a0 c0) sxTx:=⟨rfl,rfl,rfl,rfl,rfl⟩
theorem sxp : SxP (D1 a1 c1) sxTx:=⟨rfl,rfl,rfl,rfl⟩
def sxL0 : Rec:={ Rec.zero with path:=sxPA,index:=1 }
def sxL1 : Rec:={ Rec.zero with path:=sxPB,index:=2 }
theorem zKM : cntL [D0 a0 c0] [sxL0] 0 [D0 a0 c0]=[⟨0,D0 a0 c0,sxPA,0⟩]:=by
 have h:cntB [D0 a0 c0] [sxL0] 1=true:=by kernel_rfl
 have e:=zBH [D0 a0 c0] [sxL0] [] 0 (D0 a0 c0);rw[show (D0 a0 c0).index=1 from rfl,h,zIZ]at e;exact e
theorem zKL : cntL [D0 a0 c0,D1 a1 c1] [sxL0,sxL1] 0 [D0 a0 c0,D1 a1 c1]=[⟨0,D0 a0 c0,sxPA,0⟩,⟨1,D1 a1 c1,sxPB,0⟩]:=by
 have h0:cntB [D0 a0 c0,D1 a1 c1] [sxL0,sxL1] 1=true:=by kernel_rfl
 have h1:cntB [D0 a0 c0,D1 a1 c1] [sxL0,sxL1] 2=true:=by kernel_rfl
 have e0:=zBH [D0 a0 c0,D1 a1 c1] [sxL0,sxL1] [] 0 (D0 a0 c0);rw[show (D0 a0 c0).index=1 from rfl,h0,zLE]at e0;have e1:=zBH [D0 a0 c0,D1 a1 c1] [sxL0,sxL1] [D0 a0 c0] 0 (D1 a1 c1);rw[show (D1 a1 c1).index=2 from rfl,h1,zLD]at e1;have e2:([D0 a0 c0]:List Dev)=[]++[D0 a0 c0]:=rfl;rw[e2,e0]at e1;exact e1
theorem src0 : (cntL [D0 a0 c0] [sxL0] 0 [D0 a0 c0]).filter (fun s=>!virB [D0 a0 c0] s.d.index)=[⟨0,D0 a0 c0,sxPA,0⟩]:=by
 rw[zKM];have h1:virB [D0 a0 c0] (D0 a0 c0).index=false:=vir0 a0 c0;simp[h1]
theorem src1 : (cntL [D0 a0 c0,D1 a1 c1] [sxL0,sxL1] 0 [D0 a0 c0,D1 a1 c1]).filter (fun s=>!virB [D0 a0 c0,D1 a1 c1] s.d.index)=[⟨0,D0 a0 c0,sxPA,0⟩]:=by
 rw[zKL];have h0:virB [D0 a0 c0,D1 a1 c1] (D0 a0 c0).index=false:=zK8 a0 a1 c0 c1;have h1:virB [D0 a0 c0,D1 a1 c1] (D1 a1 c1).index=true:=vir1 a0 a1 c0 c1;simp[h0,h1]
end
theorem cop0 {w w':World}{b:Nat}{a:Option Addr}{c:Nat}{ds':List Dev}(h:Cop w w' b [D0 a c] ds'):∃ a' c',ds'=[D0 a' c']:=by
 have hl:=h.len
 match ds',hl with
 | [d],_=>
  have:=(h.el 0 _ _ rfl rfl).eq;exact⟨d.aa,d.ac,by rw[this];rfl⟩
theorem cop1 {w w':World}{b:Nat}{a e:Option Addr}{c f:Nat}{ds':List Dev}(h:Cop w w' b [D0 a c,D1 e f] ds'):∃ a' c' e' f',ds'=[D0 a' c',D1 e' f']:=by
 have hl:=h.len
 match ds',hl with
 | [d,d'],_=>
  have h1:=(h.el 0 _ _ rfl rfl).eq;have h2:=(h.el 1 _ _ rfl rfl).eq;exact⟨d.aa,d.ac,d'.aa,d'.ac,by rw[h1,h2];rfl⟩
def sxI0 (a:Option Addr)(c:Nat)(r:Int)(S:List Src)(M:List Vir)(G:List (ByteArray×ByteArray)):Prop:=
 S=[⟨0,D0 a c,sxPA,0⟩]/\G=[]/\((r=1/\M=[])\/M=[sxV 1])
theorem zEL {a:Option Addr}{c:Nat}{r:Int}{S:List Src}{M:List Vir}{G:List (ByteArray×ByteArray)}{S':List Src}{M':List Vir}{G':List (ByteArray×ByteArray)}(h:sxI0 a c r S M G)(hn:NextR [D0 a c] sxTx [] [] [⟨0,D0 a c,sxPA,0⟩] r S M G S' M' G'):S'=[⟨0,D0 a c,sxPA,0⟩]/\M'=[sxV 1]/\G'=[]:=by
 obtain⟨rfl,rfl,hM⟩:=h;exact zJn (sxd a c) (hM.imp (fun h=>⟨h.2,h.1⟩) id) hn
def sxI1 (a e:Option Addr)(c f:Nat)(r:Int)(S:List Src)(M:List Vir)(G:List (ByteArray×ByteArray)):Prop:=
 (r=1/\S=[⟨0,D0 a c,sxPA,0⟩]/\M=[]/\G=[])\/
 (r=2/\S=[⟨0,D0 a c,sxPA,0⟩,⟨1,D1 e f,sxPB,1⟩]/\M=[sxV 1]/\G=[])\/
 (r=3/\S=[⟨0,D0 a c,sxPA,0⟩,⟨1,D1 e f,sxPB,1⟩]/\M=[sxV 1,sxW 2]/\G=[(mdK,sxI)])
theorem zEK {a e:Option Addr}{c f:Nat}{r:Int}{S:List Src}{M:List Vir}{G:List (ByteArray×ByteArray)}{S':List Src}{M':List Vir}{G':List (ByteArray×ByteArray)}(h:sxI1 a e c f r S M G)(hn:NextR [D0 a c,D1 e f] sxTx [] [] [⟨0,D0 a c,sxPA,0⟩,⟨1,D1 e f,sxPB,0⟩] r S M G S' M' G'):(M.length<M'.length->sxI1 a e c f (r+1) S' M' G')/\(¬ M.length<M'.length->M'=[sxV 1,sxW 2]):=by
 rcases h with⟨rfl,rfl,rfl,rfl⟩ | ⟨rfl,rfl,rfl,rfl⟩ | ⟨rfl,rfl,rfl,rfl⟩
 ·obtain⟨h1,h2,h3⟩:=zIO (sxd a c) (sxp e f) hn;exact⟨fun _=>.inr (.inl ⟨rfl,h1,h2,h3⟩),fun h=>absurd (by rw[h2];simp) h⟩
 ·obtain⟨h1,h2,h3⟩:=zFW (sxd a c) (sxp e f) (.inl ⟨rfl,rfl,rfl⟩) hn;exact⟨fun _=>.inr (.inr ⟨rfl,h1,h2,h3⟩),fun _=>h2⟩
 ·obtain⟨h1,h2,h3⟩:=zFW (sxd a c) (sxp e f) (.inr ⟨by omega,rfl,by simp⟩) hn;exact⟨fun h=>absurd h (by rw[h2];simp),fun _=>h2⟩
def revR {α:Type}(L:List α):List (Int×α):=(L.zipIdx.reverse).map fun p=>((p.2:Int),p.1)
theorem zDo {α:Type}(L:List α):(revR L).length=L.length:=by unfold revR;simp
theorem zJt {α:Type}{L:List α}{j:Nat}{x:α}(h:j<L.length)(hx:L[j]?=some x):(revR L)[L.length-1-j]?=some ((j:Int),x):=by
 unfold revR;rw[List.getElem?_map,List.getElem?_reverse (by simp;omega)];have e:L.zipIdx.length-1-(L.length-1-j)=j:=by simp;omega
 rw[e,List.getElem?_zipIdx,hx];simp
theorem zEQ {α:Type}{L:List α}{j:Nat}{x:α}(h:j<L.length)(hx:L[j]?=some x):(revR L).take (L.length-j)=(revR L).take (L.length-(j+1))++[((j:Int),x)]:=by
 have e:L.length-j=(L.length-(j+1))+1:=by omega
 have h2:=zJt h hx;have e3:L.length-1-j=L.length-(j+1):=by omega
 rw[e3]at h2;rw[e,List.take_add_one,h2];rfl
theorem zI6 (a:Option Addr)(n c:Nat)(w:World):Calls Tryz.prog 108 #[.slice a n c] w fun e w'=>e=.returned (.func (.func 165) #[] #[.pointer (some ⟨w.heap.size,0,none⟩)])/\w'=w.alloc (.cells #[.slice a n c] 26):=by
 go_enter Tryz.func108,Tryz.ntmps108
 go_wp2_with fail
 go_ret;exact⟨rfl,rfl⟩
theorem zDO (n:Nat)(hn:3<=n)(Bx:Nat)(a:Option Addr)(cap:Nat)(ds:List Dev)(w:World)(V0:Nat->Prop)(hbx:w.heap[Bx]?=some (.cells #[.slice a ds.length cap] 26))(hS:Devs w a cap ds)(hps:ds.length<=1000000)
  (hV:¬ V0 Bx/\∀ ad,a=some ad->ds≠[]->¬ V0 ad.block):
  Gives Fence.wide n Tryz.prog 165 #[.pointer (some ⟨Bx,0,none⟩)] (fun x:Int×Dev=>#[.int .i64 x.1,.agg x.2.vals]) (fun _=>False) V0 (revR ds) w:=by
 intro l J W hfr hl1 hl2 hJlt hJ hY h0;have hbW:=hfr.heap hbx id;have hSW:Devs W a cap ds:=hS.fr hfr (fun _ _ _ h=>h);have hsz:=hfr.size;have h1n:1<=n:=by omega
 have hm:=hS.lenmax;have hbl:=zE hbx;have hbd:∀ ad,a=some ad->ds≠[]->ad.block<w.heap.size:=fun ad e hne=>(hS.cell ad e hne).2.1
 show CallsIn Fence.wide n Tryz.prog 165 #[.func (.yield l) #[] #[],.pointer (some ⟨Bx,0,none⟩)] W _
 have cv:W.cell? ⟨Bx,0,none⟩=some (.slice a ds.length cap):=zB hbW 0;refine callsIn_of_wp Tryz.func165 rfl trivial ?_ rfl;simp only[Tryz.ntmps165,List.size_toArray,List.length_cons,List.length_nil,Nat.reduceAdd,Nat.reduceSub,Array.replicate_succ,Array.replicate_zero,List.push_toArray,List.append_toArray,List.nil_append,List.cons_append]
 gi_wp2
 clear cv
 gi_loopw [3] (fun i wr=>∃ (m:Nat) (V:Nat->Prop),m<=ds.length/\i=.int .i64 ((m:Int)-1)/\wr.heap[Bx]?=some (.cells #[.slice a ds.length cap] 26)/\Devs wr a cap ds/\J ((revR ds).take (ds.length-m)) V wr/\(∀ b,V b->V0 b\/w.heap.size<=b)/\W.heap.size<=wr.heap.size) (fun i _=>(intOf i+1).toNat)
 case atStart=>exact⟨ds.length,V0,Nat.le_refl _,rfl,hbW,hSW,by simpa using h0,fun b hb=>.inl hb,Nat.le_refl _⟩
 case round=>
  obtain⟨m,V,hm2,hi,hbr,hSr,hJr,hVr,hsr⟩:=hrel;cases m with
  | succ j=>
   have hej:(((j+1:Nat):Int)-1)=(j:Int):=by omega
   rw[hej]at hi;subst hi;have hlt:j<ds.length:=by omega
   have hge:(0:Int)<=(j:Int):=by omega
   have hlt':(j:Int)<ds.length:=by omega
   have cv:wr.cell? ⟨Bx,0,none⟩=some (.slice a ds.length cap):=zB hbr 0;obtain⟨bb,off,x,rfl,hx,c0,c1,c2,c3,c4,c5,c6,c7,c8,c9⟩:=hSr.dev hlt;have HTK:=Lib.hid (zEQ hlt hx);have hyl:=hY _ V ((j:Int),x) wr hJr (by rw[<-HTK.out];exact List.take_prefix _ _);obtain⟨fn,tmps,assign,body,hy,hR⟩:=hyl;unfold Dev.vals at hy;dsimp only at hy;clear hx hej
   gi_wp2
   refine hR.mono ?_;rintro e W3 ⟨rfl,V',hV',hJ3,hf3⟩;have hS3:=hSr.fr hf3 (fun ad e hne h=>by
    have h1:=hbd ad e hne;rcases h with h | h
    ·rcases hVr _ h with h' | h'
     ·exact hV.2 ad e hne h'
     ·omega
    ·omega)
   have hb3:=hf3.heap hbr (fun h=>by
    rcases h with h | h
    ·rcases hVr _ h with h' | h'
     ·exact hV.1 h'
     ·omega
    ·omega)
   have hs3:=hf3.size;have HF:=Lib.hid (And.intro hS3 (And.intro hJ3 hb3));have HV:Hid (∀ b,V' b->V0 b\/w.heap.size<=b):=fun b h=>(hV' b h).elim (hVr b) (fun h=>.inr (by omega))
   clear hS3 hJ3 hV' hSr hJr hVr hR hy hf3 hbr cv hb3
   gi_wp2
   go_roundw
   case rel=>exact⟨j,V',by omega,by first | rfl | (go_num;done),HF.out.2.2,HF.out.1,by rw[HTK.out];exact HF.out.2.1,HV.out,by omega⟩
   case measure=>simp[intOf]
  | zero=>
   have hej:(((0:Nat):Int)-1)=-1:=by omega
   rw[hej]at hi;subst hi;have hJ9:J (revR ds) V wr:=by
    have e:(revR ds).take (ds.length-0)=revR ds:=by rw[Nat.sub_zero];exact List.take_of_length_le (Nat.le_of_eq (zDo ds))
    rw[<-e];exact hJr
   gi_wp2
   go_end0
   exact⟨⟨_,rfl⟩,V,hJ9⟩
theorem zI5 (a:Option Addr)(n c:Nat)(w:World):Calls Tryz.prog 63 #[.slice a n c] w fun e w'=>e=.returned (.func (.func 107) #[] #[.pointer (some ⟨w.heap.size,0,none⟩)])/\w'=w.alloc (.cells #[.slice a n c] 71):=by
 go_enter Tryz.func63,Tryz.ntmps63
 go_wp2_with fail
 go_ret;exact⟨rfl,rfl⟩
theorem zDN (n:Nat)(hn:3<=n)(Bx:Nat)(a:Option Addr)(cap:Nat)(ds:List Vir)(w:World)(V0:Nat->Prop)(hbx:w.heap[Bx]?=some (.cells #[.slice a ds.length cap] 71))(hS:Virs w a cap ds)(hps:ds.length<=1000000)
  (hV:¬ V0 Bx/\∀ ad,a=some ad->ds≠[]->¬ V0 ad.block):
  Gives Fence.wide n Tryz.prog 107 #[.pointer (some ⟨Bx,0,none⟩)] (fun x:Int×Vir=>#[.int .i64 x.1,.agg x.2.vals]) (fun _=>False) V0 (revR ds) w:=by
 intro l J W hfr hl1 hl2 hJlt hJ hY h0;have hbW:=hfr.heap hbx id;have hSW:Virs W a cap ds:=hS.fr hfr (fun _ _ _ h=>h);have hsz:=hfr.size;have h1n:1<=n:=by omega
 have hm:=hS.lenmax;have hbl:=zE hbx;have hbd:∀ ad,a=some ad->ds≠[]->ad.block<w.heap.size:=fun ad e hne=>(hS.cell ad e hne).2.1
 show CallsIn Fence.wide n Tryz.prog 107 #[.func (.yield l) #[] #[],.pointer (some ⟨Bx,0,none⟩)] W _
 have cv:W.cell? ⟨Bx,0,none⟩=some (.slice a ds.length cap):=zB hbW 0;refine callsIn_of_wp Tryz.func107 rfl trivial ?_ rfl;simp only[Tryz.ntmps107,List.size_toArray,List.length_cons,List.length_nil,Nat.reduceAdd,Nat.reduceSub,Array.replicate_succ,Array.replicate_zero,List.push_toArray,List.append_toArray,List.nil_append,List.cons_append]
 gi_wp2
 clear cv
 gi_loopw [3] (fun i wr=>∃ (m:Nat) (V:Nat->Prop),m<=ds.length/\i=.int .i64 ((m:Int)-1)/\wr.heap[Bx]?=some (.cells #[.slice a ds.length cap] 71)/\Virs wr a cap ds/\J ((revR ds).take (ds.length-m)) V wr/\(∀ b,V b->V0 b\/w.heap.size<=b)/\W.heap.size<=wr.heap.size) (fun i _=>(intOf i+1).toNat)
 case atStart=>exact⟨ds.length,V0,Nat.le_refl _,rfl,hbW,hSW,by simpa using h0,fun b hb=>.inl hb,Nat.le_refl _⟩
 case round=>
  obtain⟨m,V,hm2,hi,hbr,hSr,hJr,hVr,hsr⟩:=hrel;cases m with
  | succ j=>
   have hej:(((j+1:Nat):Int)-1)=(j:Int):=by omega
   rw[hej]at hi;subst hi;have hlt:j<ds.length:=by omega
   have hge:(0:Int)<=(j:Int):=by omega
   have hlt':(j:Int)<ds.length:=by omega
   have cv:wr.cell? ⟨Bx,0,none⟩=some (.slice a ds.length cap):=zB hbr 0;obtain⟨bb,off,x,rfl,hx,⟨c0,c1,c2,c3⟩,hbb⟩:=hSr.elem hlt;have HTK:=Lib.hid (zEQ hlt hx);have hyl:=hY _ V ((j:Int),x) wr hJr (by rw[<-HTK.out];exact List.take_prefix _ _);obtain⟨fn,tmps,assign,body,hy,hR⟩:=hyl;unfold Vir.vals at hy;dsimp only at hy;clear hx hej
   gi_wp2
   refine hR.mono ?_;rintro e W3 ⟨rfl,V',hV',hJ3,hf3⟩;have hS3:=hSr.fr hf3 (fun ad e hne h=>by
    have h1:=hbd ad e hne;rcases h with h | h
    ·rcases hVr _ h with h' | h'
     ·exact hV.2 ad e hne h'
     ·omega
    ·omega)
   have hb3:=hf3.heap hbr (fun h=>by
    rcases h with h | h
    ·rcases hVr _ h with h' | h'
     ·exact hV.1 h'
     ·omega
    ·omega)
   have hs3:=hf3.size;have HF:=Lib.hid (And.intro hS3 (And.intro hJ3 hb3));have HV:Hid (∀ b,V' b->V0 b\/w.heap.size<=b):=fun b h=>(hV' b h).elim (hVr b) (fun h=>.inr (by omega))
   clear hS3 hJ3 hV' hSr hJr hVr hR hy hf3 hbr cv hb3
   gi_wp2
   go_roundw
   case rel=>exact⟨j,V',by omega,by first | rfl | (go_num;done),HF.out.2.2,HF.out.1,by rw[HTK.out];exact HF.out.2.1,HV.out,by omega⟩
   case measure=>simp[intOf]
  | zero=>
   have hej:(((0:Nat):Int)-1)=-1:=by omega
   rw[hej]at hi;subst hi;have hJ9:J (revR ds) V wr:=by
    have e:(revR ds).take (ds.length-0)=revR ds:=by rw[Nat.sub_zero];exact List.take_of_length_le (Nat.le_of_eq (zDo ds))
    rw[<-e];exact hJr
   gi_wp2
   go_end0
   exact⟨⟨_,rfl⟩,V,hJ9⟩
end Go.Proofs.YtmajgldaplkpiaaGreatDoor
