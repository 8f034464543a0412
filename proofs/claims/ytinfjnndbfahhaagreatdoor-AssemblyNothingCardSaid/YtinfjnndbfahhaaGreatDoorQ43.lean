import Derived.Test.YtinfjnndbfahhaaGreatDoorQ42
namespace Go.Proofs.YtinfjnndbfahhaaGreatDoor
open Go.RowKit Go.Maps
set_option linter.unusedVariables false
set_option maxRecDepth 100000
set_option maxHeartbeats 8000000
structure SmR (ds:List Dev)(r:Int)(S:List Src)(M:List Vir)(G:List (ByteArray×ByteArray)):Prop where
 m:∀ s∈S,s.d∈ds/\s.o.size<=1000000
 s:S.length<=700
 v:M.length<=10000
 g:G.length<=10000
theorem zMU (c:RC)(F:World)(J:Nat)(ds:List Dev)(tx:Dev->ByteArray)(E K:List ByteArray)(hB:RB c F J ds tx E K)(I:Int->List Src->List Vir->List (ByteArray×ByteArray)->Prop)
  (hI:∀ r S M G L o N,I r S M G->NextR ds tx E K c.C r S M G L o N->M.length<o.length->I (r+1) L o N) (hb:∀ r S M G,I r S M G->SmR ds r S M G)
  (sa:Option Addr) (sc:Nat) (ma:Option Addr) (mc:Nat) (S:List Src) (M:List Vir) (G:List (ByteArray×ByteArray)) (w:World) (R:Fr (From F.heap.size) F w) (h:RS c w sa sc ma mc S M G) (h1:I 1 S M G):
  Calls Tryz.prog 27 #[.pointer (some ⟨c.xb,0,none⟩)] w fun e w'=>(e=.returned (.pointer (some ⟨c.xb,0,none⟩))/\∃ r S M G L o N u y z A,I r S M G/\NextR ds tx E K c.C r S M G L o N/\¬ M.length<(o:List Vir).length/\RS c w' u y z A L o N)/\Fr (From F.heap.size) F w':=by
 have HB:=zh hB;have HI:=zh hI;have Hb:=zh hb;have HS:=zh (And.intro h (And.intro R h1));clear hB hI hb h R h1
 go_enter Tryz.func27,Tryz.ntmps27
 go_wp2_with fail
 go_loopw [3] (fun x wr=>∃ (r:Int) (S:List Src) (M:List Vir) (G:List (ByteArray×ByteArray)) (u:Option Addr) (y:Nat) (z:Option Addr) (A:Nat),x=.int .i64 r/\Hid (1<=r/\r<=M.length+1/\I r S M G)/\Hid (RS c wr u y z A S M G)/\Hid (Fr (From F.heap.size) F wr)) (fun x _=>10002-(intOf x).toNat)
 case atStart=>exact⟨1,S,M,G,sa,sc,ma,mc,rfl,⟨by omega,by omega,HS.out.2.2⟩,HS.out.1,HS.out.2.1⟩
 case round=>
  obtain⟨r,Sr,U,Gr,u,y,z,A,rfl,V,HR,HF⟩:=hrel;have f:=Hb.out _ _ _ _ V.out.2.2;have a8:=V.out.1;have a9:=V.out.2.1;have hv:=f.v;have hn:=zMD c F J ds tx E K HB.out u y z A Sr U Gr r wr HF.out HR.out f.m (by have:=f.s;omega) f.s f.v f.g;have b0:=zh f;clear f
  go_wp2_with fail
  refine hn.mono ?_;rintro e w1 ⟨⟨L,o,N,X,Y,Z,a2,rfl,a3,a4⟩,a5⟩;have q:=zh (And.intro a3 (And.intro a4 a5));clear hn a3 a4 a5;by_cases D:U.length<o.length
  ·have hd:decide (U.length<o.length)=true:=decide_eq_true D;rw[hd];have O:=HI.out _ _ _ _ _ _ _ V.out.2.2 q.out.2.1 D;have b1:=(Hb.out _ _ _ _ O).v;have a6:=zh O;clear O hd
   go_wp2_with fail
   go_roundw
   case rel=>exact⟨r+1,L,o,N,X,Y,Z,a2,by first | rfl | (go_num;done) | (simp;done),⟨by omega,by omega,a6.out⟩,q.out.1,q.out.2.2⟩
   case measure=>simp[intOf];omega
  ·have hd:decide (U.length<o.length)=false:=decide_eq_false D;rw[hd];have a7:=zh D;clear hd D
   go_wp2_with fail
   go_ret;exact⟨⟨rfl,r,Sr,U,Gr,L,o,N,X,Y,Z,a2,V.out.2.2,q.out.2.1,a7.out,q.out.1⟩,q.out.2.2⟩
theorem zFw (a ra F Y:Option Addr)(g rc J Z q:Nat)(U:Int)(ds:List Dev)(L:List Rec)(tx:Dev->ByteArray)(E K:List ByteArray)(w:World)(hl:Tr w q a g ds)(hn:ds.length<=250)(hr:Recs w ra rc L)
  (o:Env w) (a2:Strs w Y Z E) (a3:Strs w F J K) (c3:K.length<=1000000) (a4:∀ x∈K,x.size<=maxLen) (a5:TxS w w.heap.size tx ds)
  (I:Int->List Src->List Vir->List (ByteArray×ByteArray)->Prop)
  (hI:∀ r S M G N v O,I r S M G->NextR ds tx E K (cntL ds L 0 ds) r S M G N v O->M.length<v.length->I (r+1) N v O) (hb:∀ r S M G,I r S M G->SmR ds r S M G)
  (h1:I 1 ((cntL ds L 0 ds).filter fun s=>!virB ds s.d.index) [] []):
  Calls Tryz.prog 12 #[.agg #[.slice a ds.length g],.slice ra L.length rc,.agg #[.slice F K.length J,.int .i64 U],.slice Y E.length Z] w fun e w'=>
   (∃ ma mc r S M G N v O,e=.returned (.slice ma (v:List Vir).length mc)/\Virs w' ma mc v/\(∀ V,ma=some V->w.heap.size<=V.block)/\I r S M G/\NextR ds tx E K (cntL ds L 0 ds) r S M G N v O/\¬ M.length<v.length)/\Fr No w w':=by
 obtain⟨f,y⟩:∃ f,f=(w.alloc (.cells #[.slice a ds.length g] 48)).alloc (.cells #[.slice F K.length J,.int .i64 U] 43):=⟨_,rfl⟩
 have u:Fr No w f:=by rw[y];exact((Fr.refl _ _).alloc _).alloc _
 have b1:f.heap[w.heap.size]?=some (.cells #[.slice a ds.length g] 48):=by rw[y];exact zI _ _ _
 have z:f.heap[w.heap.size+1]?=some (.cells #[.slice F K.length J,.int .i64 U] 43):=by rw[y];exact zL _ _ _
 have s0:=u.size;have a6:=zLc a ra F Y g rc K.length J E.length Z q U ds L f (hl.no u) hn (hr.no u (fun _=>id)) (o.no u).err ⟨by have:=(o.no u).sz;omega,by have:=(o.no u).sz;omega⟩;have c4:Hid (∀ ca cc z,RB ⟨F,K.length,J,U,a,ds.length,g,Y,E.length,Z,ca,cc,cntL ds L 0 ds,f.heap.size+2,f.heap.size+3,f.heap.size+4,f.heap.size,z⟩ f q ds tx E K):=fun ca cc z=>by
  refine⟨rfl,o.no u,hl.no u,rfl,hn,a2.no u (fun _=>id),rfl,a3.no u (fun _=>id),rfl,c3,a4,?_,fun s hs=>?_,?_⟩
  ·intro d hd;obtain⟨l,g1,g2,g3,g4,g5⟩:=a5 d hd;exact⟨l,g1.no u (fun _=>id),g2,g3,g4,fun V e c5=>Nat.lt_of_lt_of_le (g5 V e c5) s0⟩
  ·have:=zEV ds L ds 0 s hs;refine⟨this.1,?_,by omega⟩;rw[this.2.1];have:=zBJ hl.wf.ok hn s.d.index;omega
  ·exact Nat.le_trans (zCe ds L ds 0) hn
 have t1:f.cell? ⟨w.heap.size,0,none⟩=some (.slice a ds.length g):=zB b1 0;obtain⟨t2,t3⟩:=cl2 z;have c6:=zh u;have HI:=zh hI;have Hb:=zh hb;have H1:=zh h1;clear hl hr o a2 a3 a5 hI hb h1 b1 z u a4
 go_enter Tryz.func12,Tryz.ntmps12
 go_upto_region 1 with(fail)
 rw[<-y];clear y
 go_wp2_with fail
 refine a6.mono ?_;rintro e w1 ⟨⟨ca,cc,z,rfl,R,a7⟩,a8⟩;obtain⟨c,X⟩:∃ c:RC,c=⟨F,K.length,J,U,a,ds.length,g,Y,E.length,Z,ca,cc,cntL ds L 0 ds,f.heap.size+2,f.heap.size+3,f.heap.size+4,f.heap.size,z⟩:=⟨_,rfl⟩
 have b3:=zh (c4.out ca cc z);have b4:f.heap.size+4=c.xb:=by rw[X]
 have HC:Hid (c.C=cntL ds L 0 ds):=by rw[X];rfl
 have c7:Hid (c.b0=f.heap.size):=by rw[X];rfl
 have A:c.b2<=w1.heap.size:=by rw[X];exact a7
 rw[<-X]at R b3;obtain⟨sa,sc,ma,mc,hR⟩:=R.rs A;have D:=zMU c f q ds tx E K b3.out I (by rw[HC.out];exact HI.out) Hb.out sa sc ma mc _ [] [] w1 (a8.mono zn) hR H1.out;rw[b4];clear X b4 a6 R hR t1 t2 t3 a7 A a8
 go_wp2_with fail
 refine D.mono ?_;rintro e w2 ⟨⟨rfl,r,S,M,G,N,v,O,d2,d3,c8,d0,hi,b5,b6,hR⟩,b7⟩;have k8:w2.cell? ⟨c.xb,8,none⟩=some (.slice c8 v.length d0):=zB hR.k 8;obtain⟨a9,c9,d1,b8,b9⟩:=Virs.of_own hR.mo;cases d1;have HV:=zh (And.intro b8 b9);have HN:Hid (NextR ds tx E K (cntL ds L 0 ds) r S M G N v O):=by rw[<-HC.out];exact b5
 have c2:=zh (And.intro hi b6);have HF:=zh (c6.out.step b7 (fun b hb h=>by unfold From at h;omega));clear D hi b5 b6 hR b7 b8 b9
 go_wp2_with fail
 go_ret;exact⟨⟨_,_,r,S,M,G,N,v,O,rfl,HV.out.1,fun V e=>by have:=HV.out.2 V e;rw[c7.out]at this;omega,c2.out.1,HN.out,c2.out.2⟩,HF.out⟩
theorem zAx {α β:Type}{f:α->β}{l:List α}(h:l.map f=[]):l=[]:=List.map_eq_nil_iff.1 h
theorem ids2_nilb {g:Mem->Bool}{f:List ByteArray}(h:IsIds2 (zo g []) f):f=[]:=by
 cases f with
 | nil=>rfl
 | cons x t=>
  obtain⟨s,o⟩:=(h.mem x).1 (by simp);cases o
theorem ids_nilb {f:List ByteArray}(h:IsIds [] f):f=[]:=by
 cases f with
 | nil=>rfl
 | cons x t=>
  have g:=(h.mem x).1 (by simp);cases g
theorem zEy {ds:List Dev}{tx:Dev->ByteArray}{E K:List ByteArray}{C:List Src}{r:Int}{u:List Src}{f:List Vir}{v:List (ByteArray×ByteArray)}(h:NextR ds tx E K C r [] [] [] u f v):f=[]:=by
 obtain⟨⟨y,Z,L4,g,O4,⟨L2,o,O2,z,L3,q,A,D,F,I,J,L,N⟩,O,R,U,V⟩,_⟩:=h;obtain rfl:=zAx (A.trans (by rfl));obtain rfl:=ids2_nilb D;obtain rfl:=zAx (F.trans (by rfl));obtain rfl:=zAx (J.trans (by rfl));obtain rfl:=ids_nilb L;obtain rfl:=zAx (O.trans (by rfl));obtain rfl:=ids2_nilb R;obtain rfl:=zAx (U.trans (by rfl));have X:z=[]:=congrArg Prod.fst I;subst X;have Y:y=[]:=N;subst Y;exact congrArg Prod.fst V
def ContS (w:World)(ds:List Dev):Prop:=∀ d∈ds,∃ l,Atts w d.aa d.ac l/\d.an=l.length/\(getP l zr).size<=100000
theorem ContS.no {w w':World}{ds:List Dev}(h:ContS w ds)(f:Fr No w w'):ContS w' ds:=fun d g=>by
 obtain⟨l,o,q⟩:=h d g;exact⟨l,o.no f (fun _=>id),q⟩
theorem ContS.cop {w w':World}{f:Nat}{ds g:List Dev}(h:ContS w ds)(q:Cop w w' f ds g):ContS w' g:=fun I u=>by
 obtain⟨d,v,o⟩:=q.mem u;obtain⟨l,y,z,A,_⟩:=o.att;obtain⟨l',C,J,D⟩:=h d v;have F:l=l':=y.det C (by omega);subst F;exact⟨l,z,by rw[o.eq];exact A,D⟩
theorem ContS.sub {w:World}{ds l:List Dev}(h:ContS w ds)(f:∀ d∈l,d∈ds):ContS w l:=fun d g=>h d (f d g)
open Classical in
theorem ContS.txs {w:World}{ds:List Dev}(h:ContS w ds):∃ tx,TxS w w.heap.size tx ds:=by
 have v:∀ d:Dev,∃ t:ByteArray,d∈ds->∃ l,Atts w d.aa d.ac l/\d.an=l.length/\getP l zr=t/\t.size<=100000:=fun d=>by
  by_cases f:d∈ds
  ·obtain⟨l,g,o,q⟩:=h d f;exact⟨_,fun _=>⟨l,g,o,rfl,q⟩⟩
  ·exact⟨⟨#[]⟩,fun h=>(f h).elim⟩
 refine⟨fun d=>Classical.choose (v d),fun d f=>?_⟩;obtain⟨l,g,o,q,y⟩:=Classical.choose_spec (v d) f;exact⟨l,g,o,q,y,fun z e u=>(g.cell z e u).2.1⟩
theorem zGk (ds:List Dev)(L:List Rec)(p:Dev->Bool):∀ (l:List Dev) (i:Nat),(∀ d∈l,p d=true)->(cntL ds L i l).filter (fun s=>!p s.d)=[]
 | [],i,_=>rfl
 | d::t,i,h=>by
  unfold cntL;rw[List.filter_append,zGk ds L p t (i+1) (fun x f=>h x (by simp[f])),List.append_nil];split
  ·rw[List.filter_cons_of_neg (by simp[h d (by simp)])];rfl
  ·rfl
theorem zJ7 (a v y z:Option Addr)(g A C D f:Nat)(V:Int)(ds:List Dev)(L:List Rec)(E K:List ByteArray)(w:World)(X:Tr w f a g ds)(Y:ds.length<=250)(Z:Recs w v A L)
  (h:Env w) (F:Strs w z D E) (I:Strs w y C K) (J:K.length<=1000000) (N:∀ x∈K,x.size<=maxLen) (O:ContS w ds) (hv:∀ d∈ds,virB ds d.index=true):
  Calls Tryz.prog 12 #[.agg #[.slice a ds.length g],.slice v L.length A,.agg #[.slice y K.length C,.int .i64 V],.slice z E.length D] w fun e w'=>
   (∃ q u,e=.returned (.slice q 0 u)/\Virs w' q u [])/\Fr No w w':=by
 obtain⟨tx,R⟩:=O.txs;refine(zFw a v y z g A C D f V ds L tx E K w X Y Z h F I J N R (fun _ S M G=>S=[]/\M=[]/\G=[]) ?_ ?_ ⟨zGk ds L (fun d=>virB ds d.index) ds 0 hv,rfl,rfl⟩).mono ?_
 ·rintro r S M G S' M' G' ⟨rfl,rfl,rfl⟩ U o;rw[zEy U]at o;cases o
 ·rintro r S M G ⟨rfl,rfl,rfl⟩;exact⟨fun s hs=>by simp at hs,by simp,by simp,by simp⟩
 ·rintro e w' ⟨⟨q,u,r,S,M,G,S',M',G',rfl,hV,_,⟨rfl,rfl,rfl⟩,U,_⟩,hf⟩;obtain rfl:=zEy U;exact⟨⟨q,u,rfl,hV⟩,hf⟩
theorem zK9 (nm:ByteArray)(f:Int)(w:World):
  Calls Tryz.prog 7 #[.string nm,.int .i64 f,.string ⟨#[]⟩] w fun e w'=>e=.returned (.agg (ocs 1 ⟨#[]⟩ ⟨0,0,⟨#[]⟩,nm,zT,⟨#[]⟩,⟨#[]⟩,2,f,none,0,0⟩ ⟨#[]⟩ ⟨#[]⟩))/\Fr No w w':=by
 obtain⟨q,o⟩:∃ q,q=w.alloc (.cells (ocs 0 ⟨#[]⟩ ⟨0,0,⟨#[]⟩,⟨#[]⟩,⟨#[]⟩,⟨#[]⟩,⟨#[]⟩,0,0,none,0,0⟩ ⟨#[]⟩ ⟨#[]⟩) 38):=⟨_,rfl⟩
 obtain⟨u,g⟩:∃ u,u=q.alloc (.cells (Dev.vals ⟨0,0,⟨#[]⟩,nm,zT,⟨#[]⟩,⟨#[]⟩,2,f,none,0,0⟩) 36):=⟨_,rfl⟩
 have A:Fr No w q:=by rw[o];exact(Fr.refl _ _).alloc _
 have z:Fr No q u:=by rw[g];exact(Fr.refl _ _).alloc _
 have C:q.heap[w.heap.size]?=some (.cells (ocs 0 ⟨#[]⟩ ⟨0,0,⟨#[]⟩,⟨#[]⟩,⟨#[]⟩,⟨#[]⟩,⟨#[]⟩,0,0,none,0,0⟩ ⟨#[]⟩ ⟨#[]⟩) 38):=by rw[o];exact zD _ _
 have D:u.heap[q.heap.size]?=some (.cells (Dev.vals ⟨0,0,⟨#[]⟩,nm,zT,⟨#[]⟩,⟨#[]⟩,2,f,none,0,0⟩) 36):=by rw[g];exact zD _ _
 have F:=zh (z.heap C id);have L:=zh (A.step z zi);have N:=zh D;unfold Dev.vals at g;unfold ocs at o;unfold zT at g;dsimp only at o g;clear C D A z
 go_enter Tryz.func7,Tryz.ntmps7
 go_upto_region 1 with(fail)
 rw[<-o];clear o
 go_upto_region 2 with(fail)
 rw[<-g];clear g;obtain⟨V,X,Y,Z,c4,c5,c6,c7,c8,c9⟩:=DevB.of N.out;have I:(Tryz.prog.info? 38).map (·.size)=some 14:=by kernel_rfl
 have O:=Tryz.underlying38;have R:=zh (setRow_heap u w.heap.size _ #[.int .i64 1,.string ⟨#[]⟩,.int .i64 0,.int .i64 0,.string ⟨#[]⟩,.string nm,.string zT,.string ⟨#[]⟩,.string ⟨#[]⟩,.int .i64 2,.int .i64 f,.slice none 0 0,.string ⟨#[]⟩,.string ⟨#[]⟩] 38 (0,0) F.out);have y:Array.all (#[.int .i64 1,.string ⟨#[]⟩,.int .i64 0,.int .i64 0,.string ⟨#[]⟩,.string nm,.string zT,.string ⟨#[]⟩,.string ⟨#[]⟩,.int .i64 2,.int .i64 f,.slice none 0 0,.string ⟨#[]⟩,.string ⟨#[]⟩]:Array Value) (·.oneCell')=true:=by simp[Value.oneCell']
 go_wp2_with (refine wpList_store_row rfl 38 _ _ rfl w.heap.size #[.int .i64 1,.string ⟨#[]⟩,.int .i64 0,.int .i64 0,.string ⟨#[]⟩,.string nm,.string zT,.string ⟨#[]⟩,.string ⟨#[]⟩,.int .i64 2,.int .i64 f,.slice none 0 0,.string ⟨#[]⟩,.string ⟨#[]⟩] rfl rfl 38 _ F.out I rfl y ?_)
 refine bodyPost_ret (v:=.agg #[.int .i64 1,.string ⟨#[]⟩,.int .i64 0,.int .i64 0,.string ⟨#[]⟩,.string nm,.string zT,.string ⟨#[]⟩,.string ⟨#[]⟩,.int .i64 2,.int .i64 f,.slice none 0 0,.string ⟨#[]⟩,.string ⟨#[]⟩]) (results_cell_row rfl _ _ w.heap.size 38 _ (0,0) _ rfl R.out O rfl I) rfl ?_;have U:Fr (Is w.heap.size) u (u.setRow w.heap.size #[.int .i64 1,.string ⟨#[]⟩,.int .i64 0,.int .i64 0,.string ⟨#[]⟩,.string nm,.string zT,.string ⟨#[]⟩,.string ⟨#[]⟩,.int .i64 2,.int .i64 f,.slice none 0 0,.string ⟨#[]⟩,.string ⟨#[]⟩]):=⟨rfl,rfl,rfl,by simp,fun b _ J=>setRow_other _ _ _ _ (fun e=>J e)⟩
 exact⟨rfl,L.out.step U (fun b J h=>by unfold Is at h;omega)⟩
def zGL : List ByteArray:=[⟨#[109,100,45,114]⟩,⟨#[109,100,45,115]⟩,⟨#[111,112,101,110,45,99]⟩,⟨#[108,118,45,118,45,49]⟩,⟨#[111,112,101,110,45,100]⟩]
def nameOk (s:ByteArray):Bool:=isName s&&preB s&&zEN (nodeOf s)&&decide (depthB (⟨#[]⟩++⟨#[47]⟩++s)<=7)
theorem zIF : ∀ s∈zGL,nameOk s=true:=List.all_eq_true.1 (show zGL.all nameOk=true by kernel_rfl)
def contOk (c:ByteArray):Bool:=c.toList.isEmpty||attrOk (zN,c)
theorem zFq : ∀ c∈zAB,contOk c=true:=List.all_eq_true.1 (show zAB.all contOk=true by kernel_rfl)
structure FK (w:World)(kb base:Nat)(a:Option Addr)(cap:Nat)(ds:List Dev)(ev:Option Addr)(en ec:Nat)(ix:Int):Prop where
 st:KSt w kb base a cap ds ev en ec ix
 fl:FlatW ds
 ct:ContS w ds
 pr:∀ d∈ds,preB d.orig=true/\d.kind=2/\d.index<=ix
 ln:(ds.length:Int)<=ix
theorem FK.no {w w':World}{o f:Nat}{a:Option Addr}{g:Nat}{ds:List Dev}{q:Option Addr}{u v:Nat}{y:Int}(h:FK w o f a g ds q u v y)(z:Fr No w w'):FK w' o f a g ds q u v y:=
 ⟨h.st.no z,h.fl,h.ct.no z,h.pr,h.ln⟩
theorem zIC {ds:List Dev}{d:Dev}(k:Nat)(f:look ds d.index=none)(h:FlatW ds)(v:1<=d.index/\d.index<=1073741824)(y:OkN d.orig)(g:d.parent=0)(z:k<=ds.length)(A:∀ e∈ds,e.orig≠d.orig):FlatW (insAt ds k d):=by
 have C:=h.ok.insert z f v y (by rw[g];omega) (.inl g) (fun e q u=>by
  rw[FlatW.origin h.ok.ok h.pa q,g,TreeOk.origin_none h.ok.ok.zero]at u;exact A e q (by simpa using u)) (by rw[g,TreeOk.origin_none h.ok.ok.zero];decide)
 exact⟨C.1,fun x o=>by
  rcases zt.1 o with rfl | o
  ·exact g
  ·exact h.pa x o⟩
theorem zJw {d x:Dev}(h:clP d x=false)(f:x.index≠d.index)(g:x.kind=2)(o:d.kind=2):x.orig≠d.orig:=fun e=>by
 unfold clP clB at h;rw[e,g,o]at h;have:(x.index != d.index)=true:=by simpa using f
 rw[this]at h;simp[numK]at h
theorem zLK (F f:Nat)(a:Option Addr)(N:Nat)(ds:List Dev)(Z:Option Addr)(I ec:Nat)(v:Int)(nm:ByteArray)(z:Int)(aa:Option Addr)(an ac:Nat)(l:List (ByteArray×ByteArray))(w:World)(q:FK w F f a N ds Z I ec v)(b2:I<=100)(b3:0<=v/\v<=100)(hb:f<=w.heap.size)
  (hA:Atts w aa ac l) (a2:an=l.length) (hl:l.length<=1) (a7:l.all attrOk=true) (a8:(getP l zr).size<=100000) (hn:nm∈zGL) (b1:1<=z/\z<=100) (hE:Env w) (h8:8<F):
  Calls Tryz.prog 6 #[.pointer (some ⟨F,0,none⟩),.agg (ocs 1 ⟨#[]⟩ ⟨0,0,⟨#[]⟩,nm,zT,⟨#[]⟩,⟨#[]⟩,2,z,aa,an,ac⟩ ⟨#[]⟩ ⟨#[]⟩)] w fun e w'=>∃ i er,e=.returned (.tuple #[.int .i64 i,.int .i64 er])/\
   (∃ a' A D O a3 R U,FK w' F f a' A D O a3 R U/\a3<=I+1/\v<=U/\U<=v+1)/\Fr (fun b=>b=F\/(Value.slice Z I ec).ownBlock=some b) w w':=by
 have V:=zIF nm hn;unfold nameOk at V;simp only[Bool.and_eq_true,decide_eq_true_eq]at V;obtain⟨⟨⟨o1,o2⟩,o3⟩,o4⟩:=V;have o5:=zE6 o1;obtain⟨x,u⟩:∃ x:Dev,x=⟨0,0,⟨#[]⟩,nm,zT,⟨#[]⟩,⟨#[]⟩,2,z,aa,an,ac⟩:=⟨_,rfl⟩
 rw[<-u];obtain⟨d,o⟩:∃ d:Dev,d=addD x v 0:=⟨_,rfl⟩
 have e1:d.index=v+1:=by rw[o];rfl
 have e2:d.parent=0:=by rw[o];rfl
 have e3:d.orig=nm:=by rw[o,u];rfl
 have e4:d.kind=2:=by rw[o,u];rfl
 have e5:d.num=z:=by rw[o,u];rfl
 have J:look ds d.index=none:=zAU.2 fun y g=>by have:=(q.pr y g).2.2;rw[e1];omega
 have a4:Sound d l:=by
  refine⟨?_,?_,?_,?_,a7,by rw[e3];exact o3⟩
  ·unfold rngB;rw[e1,e2];simp;omega
  ·rw[o,u];unfold namedB addD;dsimp only;rw[o1];kernel_rfl
  ·rw[o,u];unfold addD;simp
  ·rw[e5];simp;omega
 have a5:InsPre ds d l:=⟨a4,J,by rw[e2];rfl,by have:=q.ln;omega,by unfold newO;rw[e2,q.fl.plc0,e3];exact o4⟩
 have a9:Sized d:=by
  rw[o,u];unfold addD;have:=o5.1;refine⟨?_,?_,?_,?_,?_⟩<;>dsimp only<;>first | (unfold maxLen;omega) | (unfold maxLen;decide)
 have L:(sameO ds d||ds.any (clP d))=false->FlatW (insAt ds (insK ds d) d):=fun h=>by
  rw[Bool.or_eq_false_iff,List.any_eq_false]at h;refine zIC _ J q.fl (by rw[e1];omega) (by rw[e3];exact o5) e2 (by rcases zE7 ds d with⟨_,h2⟩ | ⟨_,h2⟩<;>omega) (fun y g=>?_);exact zJw (by simpa using h.2 y g) (by have:=(q.pr y g).2.2;rw[e1];omega) (q.pr y g).2.1 e4
 obtain⟨m,hm⟩:=hE.len;have h0:=hE.sz;refine(zL2 F ⟨#[]⟩ ⟨#[]⟩ ⟨#[]⟩ x w (fun i er w'=>∃ W,Fr No w W/\AddOut W w' F f ds d Z I ec v (.returned (.tuple #[.int .i64 i,.int .i64 er]))) (fun W hW=>?_)).mono ?_
 ·have C:Fr No w W:=by rw[hW];exact(Fr.refl _ _).alloc _
  have hs:=C.size;have:=zKO F f a N ds Z I ec v ⟨#[]⟩ ⟨#[]⟩ ⟨#[]⟩ x 1 0 l m W (q.st.no C) (by omega) (by omega) (by omega) (by rw[u];exact hA.no C (fun _=>id)) hl (by rw[u];exact a2) (by rw[u]) (o▸a9) (.inl ⟨?_,rfl,rfl⟩) (by decide) (o▸a5) (fun h w' D X=>?_) (C.cell hm id) (by omega) (by omega)
  ·refine this.mono ?_;rintro e w' h;rw[<-o]at h;rcases h with⟨Y,rfl,g2⟩ | ⟨Y,rfl,g2⟩
   ·exact⟨_,_,rfl,W,C,.inl ⟨Y,rfl,g2⟩⟩
   ·exact⟨_,_,rfl,W,C,.inr ⟨Y,rfl,g2⟩⟩
  ·rw[List.find?_eq_none];intro y g;unfold atP;rw[q.fl.plc g];intro hh;have h2:(pathOf [y.orig]).toList=[]:=by simpa using hh
   have h3:(pathOf [y.orig]).data.toList=[]:=by rw[<-ByteArray.toList_eq];exact h2
   rw[zBW]at h3;simp[Lib.joinTail]at h3
  ·rw[<-o]at h X;exact((L h).map X.strip).ok
 ·rintro e w' ⟨i,er,rfl,W,C,h⟩;refine⟨i,er,rfl,?_⟩;rcases h with⟨Y,_,g2⟩ | ⟨Y,_,⟨a',A,D,O,R,gK,gC⟩,g3⟩
  ·have a6:=C.step g2 zi;exact⟨⟨a,N,ds,Z,I,ec,v,q.no a6,by omega,by omega,by omega⟩,a6.mono zn⟩
  ·refine⟨⟨a',A,D,O,I+1,R,v+1,⟨gK,(L Y).map gC.strip,?_,fun d' b0=>?_,?_⟩,by omega,by omega,by omega⟩,(C.mono zn).step g3 zi⟩
   ·refine ContS.cop (w:=W) (fun y g=>?_) gC;rcases zt.1 g with rfl | g
    ·exact⟨l,by rw[o,u];exact hA.no C (fun _=>id),by rw[o,u];exact a2,a8⟩
    ·exact q.ct.no C y g
   ·obtain⟨y,g,X⟩:=gC.mem b0;have q1:d'.orig=y.orig:=by rw[X.eq]
    have q2:d'.kind=y.kind:=by rw[X.eq]
    have q3:d'.index=y.index:=by rw[X.eq]
    rw[q1,q2,q3];rcases zt.1 g with rfl | g
    ·exact⟨by rw[e3];exact o2,e4,by rw[e1];omega⟩
    ·have:=q.pr y g;exact⟨this.1,this.2.1,by omega⟩
   ·rw[gC.len];have:=q.ln;unfold insAt;rw[List.length_append,List.length_cons,List.length_take,List.length_drop];omega
theorem zH1 {s t:ByteArray}(h:(pathOf [s]).toList=(pathOf [t]).toList):s=t:=by
 rw[ByteArray.toList_eq,ByteArray.toList_eq,zBW,zBW]at h;simp[Lib.joinTail]at h;exact ByteArray.ext h
theorem FlatW.find {ds:List Dev}(h:FlatW ds){d:Dev}(f:d∈ds):ds.find? (atP ds (pathOf [d.orig]))=some d:=by
 have q:∀ e∈ds,atP ds (pathOf [d.orig]) e=true->e=d:=fun e g o=>by
  unfold atP at o;rw[h.plc g]at o;have u:=zH1 (by simpa using o);exact h.ok.uo e g d f (by rw[FlatW.origin h.ok.ok h.pa g,FlatW.origin h.ok.ok h.pa f,u])
 cases hf:ds.find? (atP ds (pathOf [d.orig]))with
 | none=>
  rw[List.find?_eq_none]at hf;exact absurd (by unfold atP;rw[h.plc f];simp) (hf d f)
 | some e=>rw[q e (List.mem_of_find?_eq_some hf) (List.find?_some hf)]
theorem zL7 (z f:Nat)(a:Option Addr)(A:Nat)(cs L:List Dev)(d:Dev)(N:Option Addr)(C O:Nat)(R:Int)(w:World)(J:FK w z f a A cs N C O R)(U:C<=5000)(hn:cs.length<=256)(hb:f<=w.heap.size)(V:FlatW (L++[d]))(X:cs.map strip=(L++[d]).map strip):
  Calls Tryz.prog 6 #[.pointer (some ⟨z,0,none⟩),.agg (ocs 2 (pathOf [d.orig]) ZD ⟨#[]⟩ ⟨#[]⟩)] w fun e w'=>e=.returned (.tuple #[.int .i64 0,.int .i64 0])/\
   (∃ Y g h q o u,FK w' z f Y g h q o u R/\o<=C+cs.length/\h.map strip=L.map strip)/\Fr (fun b=>b=z\/(Value.slice N C O).ownBlock=some b) w w':=by
 have D:=zIy (ds:=cs) (pathOf [d.orig]);rw[X,zIy,V.find (by simp)]at D;cases hf:cs.find? (atP cs (pathOf [d.orig]))with
 | none=>rw[hf]at D;cases D
 | some F=>
  rw[hf]at D;have h2:strip d=strip F:=Option.some.inj D;have hi:F.index=d.index:=(congrArg Dev.index h2.symm:(strip F).index=(strip d).index)
  have hr:(remL F.index cs).map strip=L.map strip:=by rw[hi];exact(V.step X).2.2.1
  have I:FlatW L:=V.sub (List.sublist_append_left L [d]);refine(zJj z f a A cs N C O R (pathOf [d.orig]) ⟨#[]⟩ ⟨#[]⟩ ZD F w J.st U hn hb hf (fun W w' h _ Z=>(I.map (Z.strip.trans hr)).ok)).mono ?_;rintro e w' ⟨rfl,⟨Y,g,h,q,o,u,g1,g2,g3⟩,a2⟩;have v:=g3.strip.trans hr;refine⟨rfl,⟨Y,g,h,q,o,u,⟨g1,I.map v,(J.ct.sub (fun y hy=>(List.mem_filter.1 hy).1)).cop g3,fun y' a3=>?_,?_⟩,g2,v⟩,a2⟩
  ·obtain⟨y,hy,Z⟩:=g3.mem a3;have:=J.pr y (List.mem_filter.1 hy).1;rw[Z.eq];exact this
  ·have h3:=congrArg List.length v;have h4:=congrArg List.length X;have:=J.ln;simp at h3 h4;omega
theorem infoR : (Tryz.prog.info? 89).map (fun i=>(i.zero,i.size,i.bytes))=some (some (.agg #[.string ByteArray.empty,.int .i64 0,.slice none 0 0,.slice none 0 0,.slice none 0 0,.slice none 0 0,.slice none 0 0,.string ByteArray.empty,.int .i64 0,.string ByteArray.empty,.string ByteArray.empty,.int .i64 0]),12,208):=by kernel_rfl
def rflat (l:List Rec):List Value:=l.flatMap (fun r=>r.vals.toList)
theorem zG9 (l:List Rec)(r:Rec):rflat (l++[r])=rflat l++r.vals.toList:=by simp[rflat]
theorem zJK (r:Rec)(j:Nat)(f:j<12):r.vals.toList[j]?=some (r.cell j):=by
 unfold Rec.vals
 match j,f with
 | 0,_=>rfl
 | 1,_=>rfl
 | 2,_=>rfl
 | 3,_=>rfl
 | 4,_=>rfl
 | 5,_=>rfl
 | 6,_=>rfl
 | 7,_=>rfl
 | 8,_=>rfl
 | 9,_=>rfl
 | 10,_=>rfl
 | 11,_=>rfl
theorem zGB : ∀ (l:List Rec) (i:Nat) (r:Rec),l[i]?=some r->∀ j,j<12->(rflat l)[i*12+j]?=some (r.cell j)
 | [],i,d,h,j,f=>by simp at h
 | x::t,0,d,h,j,f=>by
  simp at h;subst h;have:rflat (x::t)=x.vals.toList++rflat t:=by simp[rflat]
  rw[this,List.getElem?_append_left (by simp[Rec.vals];omega)]
  simpa using zJK x j f
 | x::t,i+1,d,h,j,f=>by
  have:rflat (x::t)=x.vals.toList++rflat t:=by simp[rflat]
  rw[this,List.getElem?_append_right (by simp[Rec.vals];omega)];have g:=zGB t i d (by simpa using h) j f;rw[show (i+1)*12+j-x.vals.toList.length=i*12+j from by simp[Rec.vals];omega];exact g
theorem zEu (r:Rec):∀ u∈r.vals.toList,u.oneCell'=true:=by
 intro u f;simp[Rec.vals]at f;rcases f with rfl | rfl | rfl | rfl | rfl | rfl | rfl | rfl | rfl | rfl | rfl | rfl<;>rfl
theorem Recs.of_own {w:World}{o:Nat}{e:TypeId}{v:Value}{l:List Rec}(h:w.ownsRow o e 12 v l.length (rflat l))(u:∀ r∈l,RecOk w r):
  ∃ a f,v=.slice a l.length f/\Recs w a f l/\∀ q,a=some q->o<=q.block:=by
 obtain⟨_,⟨rfl,y⟩ | ⟨g,f,z,rfl,F,A,I,y,R,J⟩⟩:=h
 ·have:l=[]:=List.eq_nil_of_length_eq_zero y;subst this;exact⟨none,0,rfl,Recs.nil w,fun _ e=>by cases e⟩
 ·refine⟨some ⟨g,0,none⟩,f,rfl,⟨I,y,(fun e=>by cases e),u,?_⟩,fun q e=>by cases e;exact F⟩;intro q e L;cases e;refine⟨rfl,zC A,fun i d C j N=>?_⟩;rw[zB A];simp only[Nat.zero_add];have O:i<l.length:=(List.getElem?_eq_some_iff.1 C).1;have D:(z.toList.take (l.length*12))[i*12+j]?=(rflat l)[i*12+j]?:=by rw[J]
  rw[List.getElem?_take_of_lt (by omega),zGB l i d C j N]at D;rw[<-Array.getElem?_toList,D]


def recA (p:ByteArray)(i:Int)(pa:Option Addr)(ps:List (ByteArray×ByteArray)):Rec:=⟨p,i,ps,[],pa,ps.length,none,0,none,0,0,none,0,0,none,0,0,⟨#[]⟩,0,⟨#[]⟩,⟨#[]⟩,0⟩
def recL (ds l:List Dev):List Rec:=l.map fun d=>recA (pathOf (origin ds d.index)) d.index none []
theorem zKv (w:World)(ds l:List Dev):∀ r∈recL ds l,RecOk w r:=fun r f=>by
 obtain⟨d,_,rfl⟩:=List.mem_map.1 f;exact⟨Atts.nil w,Strs.nil w⟩
theorem zDm (tv:Value)(a:Option Addr)(f:Nat)(ds:List Dev)(w:World)(hl:Devs w a f ds)(hT:TreeOk ds)(hn:ds.length<=1000):
  Calls Tryz.prog 13 #[tv,.agg #[.slice a ds.length f],.bool true] w fun e w'=>(∃ ra rc,e=.returned (.slice ra (recL ds ds).length rc)/\Recs w' ra rc (recL ds ds)/\∀ ad,ra=some ad->w.heap.size<=ad.block)/\Fr No w w':=by
 obtain⟨i0,b9,c2,c3,c5⟩:=info_parts infoR;have hm:=hl.lenmax;have h0:Fr No w (w.alloc (.cells #[.slice a ds.length f] 48)):=(Fr.refl _ _).alloc _;have q3:=zD w (.cells #[.slice a ds.length f] 48);have d7:(w.alloc (.cells #[.slice a ds.length f] 48)).heap.size=w.heap.size+1:=by simp
 have a5:=hl.no h0 (fun _=>id);have c6:=zh h0
 go_enter Tryz.func13,Tryz.ntmps13
 go_wp2_with fail
 generalize w.alloc (.cells #[.slice a ds.length f] 48)=w1 at *;clear hl h0
 go_loopw [7,8] (fun v i wr=>∃ (k:Nat) (R:List Rec) (av:Option Addr) (cv:Nat),k<=ds.length/\v=.slice av R.length cv/\i=.int .i64 (k:Int)/\Hid (R=recL ds (ds.take k))/\R.length<=k/\wr.ownsRow w1.heap.size 89 12 (.slice av R.length cv) R.length (rflat R)/\Fr (From w1.heap.size) w1 wr) (fun _ i _=>ds.length-(intOf i).toNat)
 case atStart=>exact⟨0,[],none,0,by omega,rfl,rfl,by unfold Hid recL;simp,by simp,World.ownsRow_nil _ _ _ _,Fr.refl _ _⟩
 case round=>
  obtain⟨k,R,av,cv,d8,rfl,rfl,HR,d9,o,y⟩:=hrel;obtain⟨N,rfl⟩:∃ N,N=wr:=⟨_,rfl⟩
  have a6:∀ b,b<w1.heap.size->¬ From w1.heap.size b:=fun b h1 h3=>by unfold From at h3;omega
  have I:=y.heap q3 (a6 _ (by omega));have c4:N.cell? ⟨w.heap.size,0,none⟩=some (.slice a ds.length f):=zB I 0;have e0:=y.size;by_cases Y:k<ds.length
  ·have d6:(k:Int)<ds.length:=by omega
   have z:Devs N a f ds:=a5.fr y (fun ad e c7=>a6 _ (a5.cell ad e c7).2.1);obtain⟨bb,a7,x,L,Z,y0,_,_,_,_,_,_,_,_,_⟩:=z.dev Y;have c8:=(z.cell _ L (by intro e;rw[e]at Y;simp at Y)).2.1;have V:=z;rw[L]at z;have e1:=hT.ix x (List.mem_of_getElem? Z);have c9:Hid (recL ds (ds.take (k+1))=recL ds (ds.take k)++[recA (pathOf (origin ds x.index)) x.index none []]):=by
    unfold Hid recL;rw[List.take_add_one,Z,List.map_append];rfl
   have e2:=zh L;have d0:=zh y;rw[L]at c4 I;clear Z y L;simp only at c8
   go_upto_region 5 with(fail)
   go_cut [9] (fun v wc=>∃ b7,v=.pointer (some ⟨b7,0,none⟩)/\wc.heap[b7]?=some (.cells (recA (pathOf (origin ds x.index)) x.index none []).vals 89)/\N.heap.size<=b7/\Fr No N wc)
   case first=>
    refine zb (From N.heap.size) (.q 0 (.q 1 (.q 2 (.q 3 (.q 4 (.q 5 (.q 6 (.q 8 (.q 9 (.q 10 (.q 11 (.q 12 (.q 13 (.m2 7 (.q 14 (.m1 15 (.m1 16 .fin))) 15 (.m1 7 (.q 14 (.m1 16 .fin))))))))))))))))) _ (by kernel_rfl) (by kernel_rfl) (fun w0 J=>?_) zj;have e3:=J.size;have e4:=zC I;have g3:∀ g:Gr (From N.heap.size) w0,g.W.cell? ⟨w.heap.size,0,none⟩=some (.slice (some ⟨bb,a7,none⟩) ds.length f):=fun g=>g.fr.cell (zB (J.heap I id) 0) (by unfold From;simp only;omega)
    have g0:∀ g:Gr (From N.heap.size) w0,g.W.cell? ⟨bb,a7+k*10,none⟩=some (.int .i64 x.index):=fun g=>g.fr.cell (J.cell y0 id) (by unfold From;simp only;omega)
    have a8:=z.no J (fun _=>id);have a9:=zh J;obtain⟨rx,b0⟩:∃ rx,rx=recA (pathOf (origin ds x.index)) x.index none []:=⟨_,rfl⟩
    have e5:=zh b0;clear y0 I z V o J b0 c4
    repeat (apply zM rfl rfl rfl;intro K hK;go_big_quiet_op;go_big_quiet_on)
    clear g3 g0;refine zv rfl rfl ?_ ?_
    ·go_wp2_with fail
     refine(zEw _ f ds x.index _ a8 hT (by omega)).mono ?_;rintro e w5 ⟨rfl,u⟩;generalize d1:pathOf (origin ds x.index)=pp at *
     go_wp2_with fail
     refine zm u ?_
     repeat (apply zM rfl rfl rfl;intro K hK;go_big_quiet_op;go_big_quiet_on)
     refine zH rfl ?_
     go_wp2_with fail
     refine zp ?_;refine zH rfl ?_
     go_wp2_with fail
     refine OnlyN.mk ⟨Fr.swap _ _ _ (by have:=u.size;unfold From;omega),?_⟩;refine zX ?_
     go_wp2_with fail
     go_meet
     exact⟨w5.heap.size,rfl,zD _ _,by have:=u.size;omega,(a9.out.step u zi).alloc _⟩
    ·go_wp2_with fail
     refine zp ?_;generalize hX:w0.alloc (.cells #[.string ⟨#[]⟩,.int .i64 0,.slice none 0 0,.slice none 0 0,.slice none 0 0,.slice none 0 0,.slice none 0 0,.string ⟨#[]⟩,.int .i64 0,.string ⟨#[]⟩,.string ⟨#[]⟩,.int .i64 0] 89)=X;have d2:X.heap[w0.heap.size]?=some (.cells #[.string ⟨#[]⟩,.int .i64 0,.slice none 0 0,.slice none 0 0,.slice none 0 0,.slice none 0 0,.slice none 0 0,.string ⟨#[]⟩,.int .i64 0,.string ⟨#[]⟩,.string ⟨#[]⟩,.int .i64 0] 89):=by rw[<-hX];exact zD _ _
     have b1:Fr No w0 X:=by rw[<-hX];exact(Fr.refl _ _).alloc _
     clear hX;refine zH rfl ?_
     go_wp2_with fail
     refine(zEw _ f ds x.index _ (a8.no b1 (fun _=>id)) hT (by omega)).mono ?_;rintro e w5 ⟨rfl,u⟩;generalize d1:pathOf (origin ds x.index)=pp at *
     go_wp2_with fail
     refine zm u ?_
     repeat (apply zM rfl rfl rfl;intro K hK;go_big_quiet_op;go_big_quiet_on)
     refine zH rfl ?_;have a2:=u.heap d2 id;obtain⟨z0,z1,z2,z3,z4,z5,z6,z7,z8,z9,b2,b3⟩:=cl12 a2;obtain⟨y0,y1,y2,y3,y4,y5,y6,y7,y8,y9,e6,e7⟩:=fl12 a2
     go_wp2_with fail
     have O:=zKs a2 rfl (recA pp x.index none []);unfold recA at O;refine OnlyN.mk ⟨O.2.mono (fun _ _ h=>by unfold Is at h;unfold From;omega),?_⟩;refine zX ?_
     go_wp2_with fail
     go_meet
     exact⟨w0.heap.size,rfl,O.1,by omega,((a9.out.step b1 zi).step u zi).step O.2 (fun b hb e=>by unfold Is at e;omega)⟩
   case rest=>
    obtain⟨b7,rfl,q7,e8,U⟩:=hcut;obtain⟨W5,rfl⟩:∃ W5,W5=wc:=⟨_,rfl⟩
    have A:=zAK o U (fun _ _=>id);have d3:=zh (d0.out.step U zn);have e9:=U.size;generalize pathOf (origin ds x.index)=pp at *;unfold Rec.vals recA at q7;simp only[List.length_nil]at q7;obtain⟨z0,z1,z2,z3,z4,z5,z6,z7,z8,z9,b2,b3⟩:=cl12 q7;clear y0 I z V o c4 q7 U
    go_wp2_with (at_builtin;refine wpList_append_own _ rfl _ _ 52 rfl w1.heap.size 89 i0 (.agg #[.string ByteArray.empty,.int .i64 0,.slice none 0 0,.slice none 0 0,.slice none 0 0,.slice none 0 0,.slice none 0 0,.string ByteArray.empty,.int .i64 0,.string ByteArray.empty,.string ByteArray.empty,.int .i64 0]) 12 208 Tryz.underlying52 b9 c2 c3 c5 rfl (by decide) _ _ _ rfl (A.alloc _) ⟨W5.heap.size,0,none⟩ 1 1 [.string pp,.int .i64 x.index,.slice none 0 0,.slice none 0 0,.slice none 0 0,.slice none 0 0,.slice none 0 0,.string ⟨#[]⟩,.int .i64 0,.string ⟨#[]⟩,.string ⟨#[]⟩,.int .i64 0] rfl rfl (ze _ _ _ rfl) (zEu (recA pp x.index none [])) (by unfold maxLen;omega) (by omega) (by first | omega | (simp;omega)) ?_;intro v' w7 C D _;obtain⟨b4,b5,rfl⟩:=zJ C)
    have b6:Fr (From w1.heap.size) W5 w7:=zBc A D;have d4:=zh (d3.out.step b6 (fun b hb h=>h));have a3:Hid (w7.ownsRow w1.heap.size 89 12 (.slice b4 (R++[recA pp x.index none []]).length b5) (R++[recA pp x.index none []]).length (rflat (R++[recA pp x.index none []]))):=by
     unfold Hid;rw[zG9,List.length_append];exact C
    have b8:R.length+1=(R++[recA pp x.index none []]).length:=by simp
    clear b6 C D A z0 z1 z2 z3 z4 z5 z6 z7 z8 z9 b2 b3
    go_roundw
    case rel=>exact⟨k+1,R++[recA pp x.index none []],b4,b5,by omega,by rw[<-b8],by go_num,by unfold Hid;rw[c9.out,HR.out],by rw[<-b8];omega,a3.out,d4.out⟩
    case measure=>simp[intOf];omega
  ·obtain rfl:k=ds.length:=by omega
   have hR:=HR.out;rw[List.take_length]at hR;obtain⟨a',c',d5,a4,F⟩:=Recs.of_own o (fun r hr=>zKv _ ds ds r (hR▸hr));cases d5;rw[hR]at a4 ⊢;have H:=zh (And.intro a4 (And.intro F ((c6.out.step y (fun b hb h=>by unfold From at h;omega)))));clear o y a4 F hR HR
   go_wp2_with fail
   go_ret;exact⟨⟨_,_,rfl,H.out.1,fun ad e=>by have:=H.out.2.1 ad e;omega⟩,H.out.2.2⟩
end Go.Proofs.YtinfjnndbfahhaaGreatDoor
