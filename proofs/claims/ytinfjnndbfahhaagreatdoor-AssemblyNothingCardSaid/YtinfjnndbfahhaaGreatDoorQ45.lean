import Derived.Test.YtinfjnndbfahhaaGreatDoorQ44
namespace Go.Proofs.YtinfjnndbfahhaaGreatDoor
open Go.RowKit Go.Maps
set_option linter.unusedVariables false
set_option maxRecDepth 100000
set_option maxHeartbeats 8000000
def D0 (aa:Option Addr)(ac:Nat):Dev:=⟨1,0,sxA,sxA,zT,⟨#[]⟩,⟨#[]⟩,2,1,aa,1,ac⟩
def D1 (aa:Option Addr)(ac:Nat):Dev:=⟨2,1,sxB,sxB,zT,⟨#[]⟩,⟨#[]⟩,2,1048576,aa,1,ac⟩
section
variable (a0 a1:Option Addr)(c0 c1:Nat)
theorem zLk : Sound (D0 a0 c0) [(zN,sxT)]:=⟨by kernel_rfl,by kernel_rfl,by simp[D0],by kernel_rfl,by kernel_rfl,by kernel_rfl⟩
theorem zLj : Sound (D1 a1 c1) [(zN,sxR)]:=⟨by kernel_rfl,by kernel_rfl,by simp[D1],by kernel_rfl,by kernel_rfl,by kernel_rfl⟩
theorem new0 : newO [] (D0 a0 c0)=sxPA:=by kernel_rfl
theorem zJT : plc [D0 a0 c0] 1=sxPA:=by kernel_rfl
theorem new1 : newO [D0 a0 c0] (D1 a1 c1)=sxPB:=by kernel_rfl
theorem dep0 : depthB sxPA<=7:=by
 have:depthB sxPA=1:=by kernel_rfl
 omega
theorem dep1 : depthB sxPB<=7:=by
 have:depthB sxPB=2:=by kernel_rfl
 omega
theorem ins0 : InsOk [] (D0 a0 c0) [(zN,sxT)]:=⟨zLk a0 c0,by kernel_rfl,by kernel_rfl,by simp,by rw[new0];exact dep0,by simp,by simp⟩
theorem zMT : decide (0<=(cmpP sxPA sxPB).1)=false:=by kernel_rfl
theorem ins1 : InsOk [D0 a0 c0] (D1 a1 c1) [(zN,sxR)]:=⟨zLj a1 c1,by kernel_rfl,by kernel_rfl,by simp,by rw[new1];exact dep1,by
 intro x f;obtain rfl:x=D0 a0 c0:=by simpa using f
 rw[new1];unfold zAE;have:plc [D0 a0 c0] (D0 a0 c0).index=sxPA:=zJT a0 c0;rw[this];exact zMT,by kernel_rfl⟩
theorem wf0 : TreeWf [D0 a0 c0]:=by
 refine⟨⟨by simp,by simp[D0],?_,?_⟩,?_,?_⟩
 ·intro k d g;rcases k with _ | k
  ·simp at g;subst g;exact .inl rfl
  ·simp at g
 ·intro d f;obtain rfl:d=D0 a0 c0:=by simpa using f
  exact⟨by show sxA.size<=32;decide,by show ∀ b∈sxA.data.toList,b≠47;decide⟩
 ·intro d f e h _;rw[show d=D0 a0 c0 by simpa using f,show e=D0 a0 c0 by simpa using h]
 ·intro d f;obtain rfl:d=D0 a0 c0:=by simpa using f
  have:(origin [D0 a0 c0] (D0 a0 c0).index).length=1:=by kernel_rfl
  omega
theorem org0 : origin [D0 a0 c0] 1=[sxA]:=by kernel_rfl
theorem wf1 : TreeWf [D0 a0 c0,D1 a1 c1]:=by
 have h:=((wf0 a0 c0).insert (k:=1) (d:=D1 a1 c1) (by simp) (by kernel_rfl) ⟨by show (1:Int)<=2;omega,by show (2:Int)<=_;omega⟩ ⟨by show sxB.size<=32;decide,by show ∀ b∈sxB.data.toList,b≠47;decide⟩ (by show (1:Int)≠2;omega)
  (.inr ⟨0,D0 a0 c0,by omega,rfl,rfl⟩) (fun e f=>by
   obtain rfl:e=D0 a0 c0:=by simpa using f
   show origin [D0 a0 c0] 1≠origin [D0 a0 c0] 1++[sxB]
   rw[org0];simp) (by show (origin [D0 a0 c0] 1).length<7;rw[org0];decide)).1
 exact h
theorem vir0 : virB [D0 a0 c0] 1=false:=by kernel_rfl
theorem zMF : virB [D0 a0 c0,D1 a1 c1] 1=false:=by kernel_rfl
theorem vir1 : virB [D0 a0 c0,D1 a1 c1] 2=true:=by kernel_rfl
theorem zMG : usedF [D0 a0 c0] 1048576=false:=by kernel_rfl
theorem max0 : maxI [D0 a0 c0]=1:=by kernel_rfl
theorem zML : plc [D0 a0 c0,D1 a1 c1] 1=sxPA:=by kernel_rfl
theorem zMK : plc [D0 a0 c0,D1 a1 c1] 2=sxPB:=by kernel_rfl
theorem at0 : [D0 a0 c0].find? (atP [D0 a0 c0] sxPA)=some (D0 a0 c0):=by
 have:atP [D0 a0 c0] sxPA (D0 a0 c0)=true:=by
  unfold atP;rw[show (D0 a0 c0).index=1 from rfl,zJT];simp
 rw[List.find?_cons_of_pos this]
theorem at1 : [D0 a0 c0].find? (atP [D0 a0 c0] (sxPA++(⟨#[47]⟩:ByteArray)++sxB))=none:=by
 have:atP [D0 a0 c0] (sxPA++(⟨#[47]⟩:ByteArray)++sxB) (D0 a0 c0)=false:=by
  unfold atP;rw[show (D0 a0 c0).index=1 from rfl,zJT];kernel_rfl
 rw[List.find?_eq_none];intro x f;obtain rfl:x=D0 a0 c0:=by simpa using f
 rw[this];simp
theorem par0 : ParIs [] ⟨#[]⟩ 0:=.inl ⟨rfl,rfl,rfl⟩
theorem par1 : ParIs [D0 a0 c0] sxPA 1:=.inr ⟨D0 a0 c0,at0 a0 c0,rfl⟩
theorem zLm : Sized (D0 a0 c0):=⟨by show sxA.size<=_;decide,by show sxA.size<=_;decide,by show zT.size<=_;decide,by show (0:Nat)<=_;omega,by show (0:Nat)<=_;omega⟩
theorem zKJ : Sized (D1 a1 c1):=⟨by show sxB.size<=_;decide,by show sxB.size<=_;decide,by show zT.size<=_;decide,by show (0:Nat)<=_;omega,by show (0:Nat)<=_;omega⟩
theorem zLv : newD [D0 a0 c0] 1 sxB a1=D1 a1 1:=by kernel_rfl
def sxTx (d:Dev):ByteArray:=if d.index=1 then sxT else sxR
theorem sxd : SxD (D0 a0 c0) sxTx:=⟨rfl,rfl,rfl,rfl,rfl⟩
theorem sxp : SxP (D1 a1 c1) sxTx:=⟨rfl,rfl,rfl,rfl⟩
def sxL0 : Rec:={ Rec.zero with path:=sxPA,index:=1 }
def sxL1 : Rec:={ Rec.zero with path:=sxPB,index:=2 }
theorem zLS : cntL [D0 a0 c0] [sxL0] 0 [D0 a0 c0]=[⟨0,D0 a0 c0,sxPA,0⟩]:=by
 have h:cntB [D0 a0 c0] [sxL0] 1=true:=by kernel_rfl
 have e:=zBP [D0 a0 c0] [sxL0] [] 0 (D0 a0 c0);rw[show (D0 a0 c0).index=1 from rfl,h,zJT]at e;exact e
theorem zLR : cntL [D0 a0 c0,D1 a1 c1] [sxL0,sxL1] 0 [D0 a0 c0,D1 a1 c1]=[⟨0,D0 a0 c0,sxPA,0⟩,⟨1,D1 a1 c1,sxPB,0⟩]:=by
 have h:cntB [D0 a0 c0,D1 a1 c1] [sxL0,sxL1] 1=true:=by kernel_rfl
 have o:cntB [D0 a0 c0,D1 a1 c1] [sxL0,sxL1] 2=true:=by kernel_rfl
 have g:=zBP [D0 a0 c0,D1 a1 c1] [sxL0,sxL1] [] 0 (D0 a0 c0);rw[show (D0 a0 c0).index=1 from rfl,h,zML]at g;have f:=zBP [D0 a0 c0,D1 a1 c1] [sxL0,sxL1] [D0 a0 c0] 0 (D1 a1 c1);rw[show (D1 a1 c1).index=2 from rfl,o,zMK]at f;have q:([D0 a0 c0]:List Dev)=[]++[D0 a0 c0]:=rfl;rw[q,g]at f;exact f
theorem src0 : (cntL [D0 a0 c0] [sxL0] 0 [D0 a0 c0]).filter (fun s=>!virB [D0 a0 c0] s.d.index)=[⟨0,D0 a0 c0,sxPA,0⟩]:=by
 rw[zLS];have f:virB [D0 a0 c0] (D0 a0 c0).index=false:=vir0 a0 c0;simp[f]
theorem src1 : (cntL [D0 a0 c0,D1 a1 c1] [sxL0,sxL1] 0 [D0 a0 c0,D1 a1 c1]).filter (fun s=>!virB [D0 a0 c0,D1 a1 c1] s.d.index)=[⟨0,D0 a0 c0,sxPA,0⟩]:=by
 rw[zLR];have f:virB [D0 a0 c0,D1 a1 c1] (D0 a0 c0).index=false:=zMF a0 a1 c0 c1;have g:virB [D0 a0 c0,D1 a1 c1] (D1 a1 c1).index=true:=vir1 a0 a1 c0 c1;simp[f,g]
end
theorem cop0 {w w':World}{b:Nat}{a:Option Addr}{c:Nat}{f:List Dev}(h:Cop w w' b [D0 a c] f):∃ g c',f=[D0 g c']:=by
 have o:=h.len
 match f,o with
 | [d],_=>
  have:=(h.el 0 _ _ rfl rfl).eq;exact⟨d.aa,d.ac,by rw[this];rfl⟩
theorem cop1 {w w':World}{b:Nat}{a e:Option Addr}{c f:Nat}{g:List Dev}(h:Cop w w' b [D0 a c,D1 e f] g):∃ q c' u v,g=[D0 q c',D1 u v]:=by
 have y:=h.len
 match g,y with
 | [d,o],_=>
  have z:=(h.el 0 _ _ rfl rfl).eq;have A:=(h.el 1 _ _ rfl rfl).eq;exact⟨d.aa,d.ac,o.aa,o.ac,by rw[z,A];rfl⟩
def sxI0 (a:Option Addr)(c:Nat)(r:Int)(S:List Src)(M:List Vir)(G:List (ByteArray×ByteArray)):Prop:=
 S=[⟨0,D0 a c,sxPA,0⟩]/\G=[]/\((r=1/\M=[])\/M=[sxV 1])
theorem zEm {a:Option Addr}{c:Nat}{r:Int}{S:List Src}{M:List Vir}{G:List (ByteArray×ByteArray)}{f:List Src}{g:List Vir}{o:List (ByteArray×ByteArray)}(h:sxI0 a c r S M G)(q:NextR [D0 a c] sxTx [] [] [⟨0,D0 a c,sxPA,0⟩] r S M G f g o):f=[⟨0,D0 a c,sxPA,0⟩]/\g=[sxV 1]/\o=[]:=by
 obtain⟨rfl,rfl,u⟩:=h;exact zKn (sxd a c) (u.imp (fun h=>⟨h.2,h.1⟩) id) q
def sxI1 (a e:Option Addr)(c f:Nat)(r:Int)(S:List Src)(M:List Vir)(G:List (ByteArray×ByteArray)):Prop:=
 (r=1/\S=[⟨0,D0 a c,sxPA,0⟩]/\M=[]/\G=[])\/
 (r=2/\S=[⟨0,D0 a c,sxPA,0⟩,⟨1,D1 e f,sxPB,1⟩]/\M=[sxV 1]/\G=[])\/
 (r=3/\S=[⟨0,D0 a c,sxPA,0⟩,⟨1,D1 e f,sxPB,1⟩]/\M=[sxV 1,sxW 2]/\G=[(mdK,sxI)])
theorem zEl {a e:Option Addr}{c f:Nat}{r:Int}{S:List Src}{M:List Vir}{G:List (ByteArray×ByteArray)}{y:List Src}{o:List Vir}{z:List (ByteArray×ByteArray)}(h:sxI1 a e c f r S M G)(v:NextR [D0 a c,D1 e f] sxTx [] [] [⟨0,D0 a c,sxPA,0⟩,⟨1,D1 e f,sxPB,0⟩] r S M G y o z):(M.length<o.length->sxI1 a e c f (r+1) y o z)/\(¬ M.length<o.length->o=[sxV 1,sxW 2]):=by
 rcases h with⟨rfl,rfl,rfl,rfl⟩ | ⟨rfl,rfl,rfl,rfl⟩ | ⟨rfl,rfl,rfl,rfl⟩
 ·obtain⟨q,g,u⟩:=zJG (sxd a c) (sxp e f) v;exact⟨fun _=>.inr (.inl ⟨rfl,q,g,u⟩),fun h=>absurd (by rw[g];simp) h⟩
 ·obtain⟨q,g,u⟩:=zF8 (sxd a c) (sxp e f) (.inl ⟨rfl,rfl,rfl⟩) v;exact⟨fun _=>.inr (.inr ⟨rfl,q,g,u⟩),fun _=>g⟩
 ·obtain⟨q,g,u⟩:=zF8 (sxd a c) (sxp e f) (.inr ⟨by omega,rfl,by simp⟩) v;exact⟨fun h=>absurd h (by rw[g];simp),fun _=>g⟩
theorem zGj {w w':World}{g:Nat}{a f:Option Addr}{c c':Nat}(h:Cop w w' g [D0 a c] [D0 f c']){t:ByteArray}(o:Atts w a c [(zN,t)]):Atts w' f c' [(zN,t)]:=by
 obtain⟨l,q,u,v,y⟩:=(h.el 0 _ _ rfl rfl).att;have e:l=[(zN,t)]:=Atts.det (w:=w) (a:=a) (c:=c) (c':=c) q o v.symm;subst e;exact u
theorem zGi {w w':World}{v:Nat}{a g e o:Option Addr}{c c' f q:Nat}(h:Cop w w' v [D0 a c,D1 e f] [D0 g c',D1 o q]){t u:ByteArray}(z:Atts w a c [(zN,t)])(A:Atts w e f [(zN,u)]):Atts w' g c' [(zN,t)]/\Atts w' o q [(zN,u)]:=by
 obtain⟨l,C,D,F,N⟩:=(h.el 0 _ _ rfl rfl).att;obtain⟨k,I,J,L,O⟩:=(h.el 1 _ _ rfl rfl).att;have x:l=[(zN,t)]:=Atts.det (w:=w) (a:=a) (c:=c) (c':=c) C z F.symm;have y:k=[(zN,u)]:=Atts.det (w:=w) (a:=e) (c:=f) (c':=f) I A L.symm;subst x;subst y;exact⟨D,J⟩
theorem getT (t:ByteArray):getP [(zN,t)] zr=t:=by
 have h:isKey zr (zN,t)=true:=by simp[isKey,zN,zr]
 unfold getP;rw[List.find?_cons_of_pos h];rfl
theorem txs0 {w:World}{a:Option Addr}{c:Nat}(h:Atts w a c [(zN,sxT)]):TxS w w.heap.size sxTx [D0 a c]:=fun d g=>by
 obtain rfl:d=D0 a c:=by simpa using g
 exact⟨_,h,rfl,getT _,by show sxT.size<=_;decide,fun o e f=>(h.cell o e f).2.1⟩
theorem txs1 {w:World}{a e:Option Addr}{c f:Nat}(h:Atts w a c [(zN,sxT)])(u:Atts w e f [(zN,sxR)]):TxS w w.heap.size sxTx [D0 a c,D1 e f]:=fun d o=>by
 rcases List.mem_cons.1 o with rfl | o
 ·exact⟨_,h,rfl,getT _,by show sxT.size<=_;decide,fun q e g=>(h.cell q e g).2.1⟩
 ·obtain rfl:d=D1 e f:=by simpa using o
  exact⟨_,u,rfl,getT _,by show sxR.size<=_;decide,fun q e g=>(u.cell q e g).2.1⟩
theorem zKI (w:World):∀ r∈[sxL0,sxL1],RecOk w r:=fun r f=>by
 rcases List.mem_cons.1 f with rfl | f
 ·exact⟨Atts.nil w,Strs.nil w⟩
 ·obtain rfl:r=sxL1:=by simpa using f
  exact⟨Atts.nil w,Strs.nil w⟩
theorem zLu {w:World}{q:Nat}{y:Option Addr}{D:Nat}{k:Int}{f nm u:ByteArray}{x:Dev}(h:w.ownsRow q 38 14 (.slice y 1 D) 1 (ocs k f x nm u).toList):∃ g,y=some ⟨g,0,none⟩/\OpB w g k f x nm u/\g<w.heap.size:=by
 obtain⟨L,⟨z,F⟩ | ⟨g,I,v,z,N,A,O,R,U,J⟩⟩:=h
 ·cases F
 ·cases z;have C:∀ j,j<14->v[j]?=(ocs k f x nm u)[j]?:=fun j C=>by
   rw[<-Array.getElem?_toList,<-Array.getElem?_toList,<-J,List.getElem?_take_of_lt (by omega)]
  have o:∀ j,j<14->w.cell? ⟨g,j,none⟩=(ocs k f x nm u)[j]?:=fun j h=>by rw[zB A j];exact C j h
  exact⟨g,rfl,⟨o 0 (by omega),o 1 (by omega),o 2 (by omega),o 3 (by omega),o 4 (by omega),o 5 (by omega),o 6 (by omega),o 7 (by omega),o 8 (by omega),o 9 (by omega),o 10 (by omega),o 11 (by omega),o 12 (by omega),o 13 (by omega)⟩,zC A⟩
theorem zKp (a:Option Addr)(c:Nat)(r:Int)(S:List Src)(M:List Vir)(G:List (ByteArray×ByteArray))(h:sxI0 a c r S M G):SmR [D0 a c] r S M G:=by
 obtain⟨rfl,rfl,f⟩:=h;refine⟨fun s g=>?_,by simp,?_,by simp⟩
 ·obtain rfl:s=⟨0,D0 a c,sxPA,0⟩:=by simpa using g
  exact⟨by simp,by show sxPA.size<=_;decide⟩
 ·rcases f with⟨_,rfl⟩ | rfl<;>simp
theorem zKo (a e:Option Addr)(c f:Nat)(r:Int)(S:List Src)(M:List Vir)(G:List (ByteArray×ByteArray))(h:sxI1 a e c f r S M G):SmR [D0 a c,D1 e f] r S M G:=by
 rcases h with⟨rfl,rfl,rfl,rfl⟩ | ⟨rfl,rfl,rfl,rfl⟩ | ⟨rfl,rfl,rfl,rfl⟩
 ·refine⟨fun s g=>?_,by simp,by simp,by simp⟩;obtain rfl:s=⟨0,D0 a c,sxPA,0⟩:=by simpa using g
  exact⟨by simp,by show sxPA.size<=_;decide⟩
 all_goals
  refine⟨fun s g=>?_,by simp,by simp,by simp⟩;rcases List.mem_cons.1 g with rfl | g
  ·exact⟨by simp,by show sxPA.size<=_;decide⟩
  ·obtain rfl:s=⟨1,D1 e f,sxPB,1⟩:=by simpa using g
   exact⟨by simp,by show sxPB.size<=_;decide⟩
theorem zLB (w:World)(hE:Env w):Calls Tryz.prog 15 #[] w fun e w'=>e=.returned (.bool true)/\Fr No w w':=by
 obtain⟨m,hm⟩:=hE.len;have h9:=hE.sz;have HE:=zh hE;have HM:=zh hm;clear hE hm
 go_enter Tryz.func15,Tryz.ntmps15
 go_wp2_with fail
 refine(zL0 w).mono ?_;rintro e w1 ⟨rfl,d2⟩;have f0:Hid (KSt w1 w.heap.size w.heap.size none 0 [] none 0 0 0):=by unfold Hid;rw[d2];exact KSt.new w _
 have k6:Hid (Fr No w w1):=by unfold Hid;rw[d2];exact(Fr.refl _ _).alloc _
 obtain⟨J,d3⟩:∃ J,J=w.heap.size:=⟨_,rfl⟩
 rw[<-d3]at f0 ⊢;have L:=zh d3;clear d2 d3
 go_wp2_with fail
 refine(zKN sxA sxT 1 w1 (by kernel_rfl) (by show sxT.size<=_;decide)).mono ?_;rintro e w2 ⟨⟨b,rfl,d4,k7,k8⟩,d5⟩;have k9:=zh (k6.out.step d5 zi);have C:=k_do J ⟨#[]⟩ ⟨#[]⟩ ⟨#[]⟩ ⟨0,0,⟨#[]⟩,sxA,zT,⟨#[]⟩,⟨#[]⟩,2,1,some ⟨b,0,none⟩,1,1⟩ 1 0 w2 (fun w'=>(∃ a' c' X Y N O,KSt w' J J a' c' [D0 X Y] N 1 O 1/\Atts w' X Y [(zN,sxT)])/\Fr No w w') (fun W hW=>by
  have hx:Fr No w2 W:=by rw[hW];exact(Fr.refl _ _).alloc _
  have D:=k9.out.step hx zi;have hk:=(f0.out.no d5).no hx;have a3:=zL3 J J none 0 [] none 0 0 0 ⟨#[]⟩ ⟨#[]⟩ ⟨#[]⟩ ⟨0,0,⟨#[]⟩,sxA,zT,⟨#[]⟩,⟨#[]⟩,2,1,some ⟨b,0,none⟩,1,1⟩ 1 0 [(zN,sxT)] m W hk (by omega) (by omega) (by rw[L.out];exact D.size) (d4.no hx (fun _=>id)) (by simp) rfl rfl (zLm (some ⟨b,0,none⟩) 1) par0 (by decide) (ins0 (some ⟨b,0,none⟩) 1)
   (fun w' d6 hC=>by obtain⟨a',c',rfl⟩:=cop0 (a:=some ⟨b,0,none⟩) (c:=1) hC;exact wf0 _ _) (D.cell HM.out id) (by have:=D.size;omega) (by rw[L.out];omega)
  refine a3.mono ?_;rintro e w' ⟨rfl,⟨a',c',d6,N,O,d7,hC⟩,b1⟩;obtain⟨X,Y,rfl⟩:=cop0 (a:=some ⟨b,0,none⟩) (c:=1) hC;have d8:=zGj (a:=some ⟨b,0,none⟩) (c:=1) hC (d4.no hx (fun _=>id));exact⟨rfl,⟨a',c',X,Y,N,O,d7,d8⟩,D.step b1 (fun k hk h=>by
   rcases h with h | h
   ·rw[h,L.out]at hk;omega
   ·cases h)⟩)
 clear d4 k7 k8
 go_wp2_with fail
 refine C.mono ?_;rintro e w3 ⟨rfl,⟨a1,c1,X,Y,b2,b3,f1,c3⟩,f2⟩;have f3:=zh (And.intro f1 c3);have d9:=zh f2;clear C f1 c3 f2 d5;obtain⟨W4,Z⟩:∃ W4,W4=w3.alloc (.cells sxL0.vals 89):=⟨_,rfl⟩
 have f4:Fr No w3 W4:=by rw[Z];exact(Fr.refl _ _).alloc _
 have b4:W4.heap[w3.heap.size]?=some (.cells sxL0.vals 89):=by rw[Z];exact zD _ _
 unfold sxL0 Rec.vals Rec.zero sxPA at Z;simp only[List.length_nil]at Z
 go_upto_region 8 with(fail)
 rw[<-Z];clear Z;have a4:W4.ownsRow w.heap.size 89 12 (.slice (some ⟨w3.heap.size,0,none⟩) 1 1) [sxL0].length (rflat [sxL0]):=⟨rfl,.inr ⟨w3.heap.size,1,_,rfl,d9.out.size,b4,Nat.le_refl _,by decide,rfl,rfl⟩⟩
 have l0:=zh a4;have l1:=zh (d9.out.step f4 zi);have o:=zh (And.intro (f3.out.1.no f4) (f3.out.2.no f4 (fun _=>id)));have f5:Hid (∀ W,Fr No W4 W->Recs W (some ⟨w3.heap.size,0,none⟩) 1 [sxL0]):=fun W hW=>by
  obtain⟨x,y,hv,hr,_⟩:=Recs.of_own (zG a4 hW (fun _ _=>id)) (fun r hr=>zKI W r (by simp at hr;simp[hr]));cases hv;exact hr
 have F:=zGU J a1 c1 [D0 X Y] b2 1 b3 1 W4 o.out.1.blk o.out.1.tr.dv (by simp) (fun d hd=>by
  obtain⟨l,g1,g2,g3⟩:=(o.out.1.tr.el d hd).att;exact⟨l,g1,g2,g3⟩)
 clear a4 f4 b4
 go_wp2_with fail
 refine F.mono ?_;rintro e w5 ⟨⟨a5,c5,p2,rfl,f6,l2,c4,b5⟩,b6⟩;obtain⟨x5,y5,rfl⟩:=cop0 b5;have f7:=zGj b5 o.out.2;have f8:=zDz o.out.1 f6 c4 b5 (wf0 x5 y5);have f9:=zh (l1.out.step b6 zi);have A:=zFw a5 (some ⟨w3.heap.size,0,none⟩) none none c5 1 0 0 W4.heap.size 0 [D0 x5 y5] [sxL0] sxTx [] [] w5 f8 (by simp) (f5.out w5 b6) (HE.out.no f9.out) (Strs.nil _) (Strs.nil _) (by simp) (by simp) (txs0 f7) (sxI0 x5 y5)
  (fun r S M G S' M' G' h1 h2 h3=>by
   rw[zLS]at h2;obtain⟨g1,g2,g3⟩:=zEm h1 h2;exact⟨g1,g3,.inr g2⟩) (zKp x5 y5) ⟨src0 x5 y5,rfl,.inl ⟨rfl,rfl⟩⟩
 have g0:=zh b6;clear F f6 l2 c4 b5 f7 f8 b6
 go_wp2_with fail
 refine A.mono ?_;rintro e w6 ⟨⟨ma,mc,r6,S6,M6,G6,p3,p4,p5,rfl,g4,g5,g6,e0,g7⟩,e3⟩;rw[zLS]at e0;obtain⟨-,rfl,-⟩:=zEm g6 e0;have l3:=zh g4;have I:=zh (g0.out.step e3 zi);have l4:=zh (f9.out.step e3 zi);clear A g4 g5 g6 e0 g7 e3;have F:=zGU J a1 c1 [D0 X Y] b2 1 b3 1 w6 (o.out.1.no I.out).blk (o.out.1.no I.out).tr.dv (by simp) (fun d hd=>by
  obtain⟨l,g1,g2,g3⟩:=((o.out.1.no I.out).tr.el d hd).att;exact⟨l,g1,g2,g3⟩)
 go_wp2_with fail
 refine F.mono ?_;rintro e w7 ⟨⟨a7,c7,p6,rfl,g8,l5,c6,e4⟩,b7⟩;obtain⟨x7,y7,rfl⟩:=cop0 e4;have g9:=zDz (o.out.1.no I.out) g8 c6 e4 (wf0 x7 y7);have e5:=zh (l4.out.step b7 zi);have h0:=zh (I.out.step b7 zi);have h4:=zh (l3.out.fr b7 (fun _ _ _=>id));have a6:=zLZ w6.heap.size a7 c7 [D0 x7 y7] ma mc sxPA sxB sxR 1 1 m w7 g9 (by simp) (HE.out.no e5.out) (fun d hd=>by
  obtain rfl:d=D0 x7 y7:=by simpa using hd
  exact vir0 x7 y7) h4.out (par1 x7 y7) (at1 x7 y7) (by show sxPA.size<=_;decide) (by show sxB.size<=_;decide) (by kernel_rfl) (by show sxR.size<=_;decide) (zMG x7 y7) (fun d hd=>by
  obtain rfl:d=D0 x7 y7:=by simpa using hd
  show (Lit.int .i64 1).wf=true
  decide) (by rw[max0];omega) (by decide) (fun q=>by rw[zLv];exact ins1 x7 q y7 1) (fun q=>by rw[zLv];exact zKJ q 1) (e5.out.cell HM.out id)
 clear F g8 l5 c6 e4 g9 b7
 go_wp2_with fail
 refine a6.mono ?_;rintro e w8 ⟨⟨bt,av,cv,rfl,h5,h6,h7,n9⟩,b8⟩;have l6:=zh (e5.out.step b8 zi);have U:=zh (h0.out.step b8 zi);obtain⟨g,rfl,i1,p7⟩:=zLu h5;have p8:=zh i1;have i2:=zh (And.intro h6 h7);obtain⟨mb,p0,u,rfl,i3,⟨m0,m1,m2,m3⟩,p9⟩:=(h4.out.fr b8 (fun _ _ _=>id)).elem (k:=0) (by simp);obtain rfl:u=sxV 1:=by simpa using i3.symm
 simp only[Nat.zero_mul,Nat.add_zero]at m0 m1 m2 m3;unfold sxV sxB at m1;dsimp only at m1;obtain⟨o0,o1,o2,o3,o4,o5,o6,o7,o8,o9,l7,l8,l9,m4⟩:=i1;unfold sxPA at o1;clear a6 h5 h6 h7 b8 i3 m0 m2 m3
 go_upto_region 12 with(fail)
 clear m1;have C:=k_do J sxPA ⟨#[]⟩ ⟨#[]⟩ ⟨0,0,⟨#[]⟩,sxB,zT,⟨#[]⟩,⟨#[]⟩,2,1048576,some ⟨bt,0,none⟩,1,1⟩ 2 0 w8 (fun w'=>(∃ a' c' x y z u N O,KSt w' J J a' c' [D0 x y,D1 z u] N 2 O 2/\Atts w' x y [(zN,sxT)]/\Atts w' z u [(zN,sxR)])/\Fr No w w'/\Fr (fun b=>b=J\/(Value.slice b2 1 b3).ownBlock=some b) w8 w') (fun W hW=>by
  have hx:Fr No w8 W:=by rw[hW];exact(Fr.refl _ _).alloc _
  have D:=l6.out.step hx zi;have i4:=U.out.step hx zi;have hk:=o.out.1.no i4;have a3:=zL3 J J a1 c1 [D0 X Y] b2 1 b3 1 sxPA ⟨#[]⟩ ⟨#[]⟩ ⟨0,0,⟨#[]⟩,sxB,zT,⟨#[]⟩,⟨#[]⟩,2,1048576,some ⟨bt,0,none⟩,1,1⟩ 1 1 [(zN,sxR)] m W hk (by omega) (by omega) (by rw[L.out];exact D.size) (i2.out.1.no hx (fun _=>id)) (by simp) rfl rfl (zKJ (some ⟨bt,0,none⟩) 1) (par1 X Y) (by decide) (ins1 X (some ⟨bt,0,none⟩) Y 1)
   (fun w' d6 hC=>by obtain⟨x,y,z,u,rfl⟩:=cop1 (a:=X) (c:=Y) (e:=some ⟨bt,0,none⟩) (f:=1) hC;exact wf1 _ _ _ _) (D.cell HM.out id) (by have:=D.size;omega) (by rw[L.out];omega)
  refine a3.mono ?_;rintro e w' ⟨rfl,⟨a',c',d6,N,O,d7,hC⟩,b1⟩;obtain⟨x,y,z,u,rfl⟩:=cop1 (a:=X) (c:=Y) (e:=some ⟨bt,0,none⟩) (f:=1) hC;have d8:=zGi (a:=X) (c:=Y) (e:=some ⟨bt,0,none⟩) (f:=1) hC (o.out.2.no i4 (fun _=>id)) (i2.out.1.no hx (fun _=>id));refine⟨rfl,⟨a',c',x,y,z,u,N,O,d7,d8⟩,D.step b1 (fun k m5 h=>by
   rcases h with h | h
   ·rw[h,L.out]at m5;omega
   ·obtain⟨xs,ho⟩:=hk.own;have:=zP ho h;unfold From at this;rw[L.out]at this;omega),(hx.mono zn).step b1 zi⟩)
 unfold sxPA at C;unfold zT at C o6;unfold sxB at C o5;unfold ocs at C
 (try dsimp only at C)
 go_wp2_with fail
 refine C.mono ?_;rintro e w9 ⟨rfl,⟨a9,c9,x9,y9,z9,u9,m6,m7,i5,i6,c8⟩,i7,i8⟩;have a2:=zh (And.intro i5 (And.intro i6 c8));have m8:=zh i7;have i9:Hid (w9.ownsRow w.heap.size 89 12 (.slice (some ⟨w3.heap.size,0,none⟩) 1 1) [sxL0].length (rflat [sxL0])):=by
  have h8:=zG l0.out U.out (fun _ _=>id);refine zG h8 i8 (fun b hb h=>?_);rcases h with h | h
  ·subst h;have m9:=(o.out.1.no U.out).blk;exact zR h8 m9 (by decide) hb
  ·obtain⟨xs,ho⟩:=(o.out.1.no U.out).own;obtain⟨ad,e1,e2⟩:=zAn hb;rw[<-e2]at h;exact BlkT.ne ho (zAI h8) (by decide) ad e1 h
 clear C i5 i6 c8 i7 i8 o0 o1 o2 o3 o4 o5 o6 o7 o8 o9 l7 l8 l9 m4;have F:=zGU J a9 c9 [D0 x9 y9,D1 z9 u9] m6 2 m7 2 w9 a2.out.1.blk a2.out.1.tr.dv (by simp) (fun d hd=>by
  obtain⟨l,g1,g2,g3⟩:=(a2.out.1.tr.el d hd).att;exact⟨l,g1,g2,g3⟩)
 go_wp2_with fail
 refine F.mono ?_;rintro e wA ⟨⟨aA,cA,q0,rfl,j0,n0,d0,b9⟩,e6⟩;obtain⟨xA,yA,zA,uA,rfl⟩:=cop1 b9;have j1:=zGi b9 a2.out.2.1 a2.out.2.2;have j2:=zDz a2.out.1 j0 d0 b9 (wf1 xA zA yA uA);have a8:=zh (And.intro j2 j1);have j3:=zh (m8.out.step e6 zi);have n1:=zh (zG i9.out e6 (fun _ _=>id));clear F j0 n0 d0 b9 j1 j2 e6;obtain⟨i0,n2,n3,n4,n5⟩:=info_parts infoR;have n6:wA.ownsRow w.heap.size 89 12 (.slice (some ⟨w3.heap.size,0,none⟩) 1 1) 1 (rflat [sxL0]):=n1.out;have q1:=j3.out.size;have q2:w3.heap.size<w9.heap.size:=zV i9.out rfl;have q3:=d9.out.size
 go_wp2_with (at_builtin;refine wpList_append_own_at _ rfl _ _ 52 rfl w.heap.size 89 i0 (.agg #[.string ByteArray.empty,.int .i64 0,.slice none 0 0,.slice none 0 0,.slice none 0 0,.slice none 0 0,.slice none 0 0,.string ByteArray.empty,.int .i64 0,.string ByteArray.empty,.string ByteArray.empty,.int .i64 0]) 12 208 Tryz.underlying52 n2 n3 n4 n5 rfl (by decide) _ _ _ rfl (n6.alloc _) ⟨wA.heap.size,0,none⟩ 1 1 (Rec.vals sxL1).toList rfl rfl (ze _ (Rec.vals sxL1) _ rfl) (zEu _) (by decide) (by decide) (by rw[World.size_alloc];omega) ?_;intro v' wB R V _ j4;obtain⟨e7,e8,rfl⟩:=zJ R)
 have j5:Fr No wA (wA.alloc (.cells (Rec.vals sxL1) 89)):=(Fr.refl _ _).alloc _;have b0:Fr (Is w3.heap.size) wA wB:=(j5.mono zn).step (Fr.of_grown V) (fun b _ h=>by injection h with h;exact h.symm);have j6:=zh (j3.out.step b0 (fun b hb h=>by unfold Is at h;omega));have c2:∀ b,w9.heap.size<=b->¬ Is w3.heap.size b:=fun b hb h=>by unfold Is at h;omega
 have j7:Tr wB w9.heap.size aA cA [D0 xA yA,D1 zA uA]:=a8.out.1.fr b0 c2;have j8:=a8.out.2.1.fr b0 (fun ad e _=>c2 _ ((a8.out.1.el (D0 xA yA) (by simp)).fresh ad e));have j9:=a8.out.2.2.fr b0 (fun ad e _=>c2 _ ((a8.out.1.el (D1 zA uA) (by simp)).fresh ad e));have k0:Recs wB e7 e8 [sxL0,sxL1]:=by
  obtain⟨x,y,hv,hr,_⟩:=Recs.of_own (l:=[sxL0,sxL1]) (v:=.slice e7 2 e8) R (zKI wB);cases hv;exact hr
 have A:=zFw aA e7 none none cA e8 0 0 w9.heap.size 0 [D0 xA yA,D1 zA uA] [sxL0,sxL1] sxTx [] [] wB j7 (by simp) k0 (HE.out.no j6.out) (Strs.nil _) (Strs.nil _) (by simp) (by simp) (txs1 j8 j9) (sxI1 xA zA yA uA)
  (fun r S M G S' M' G' h1 h2 h3=>by
   rw[zLR]at h2;exact(zEl h1 h2).1 h3) (zKo xA zA yA uA) (.inl ⟨rfl,src1 xA zA yA uA,rfl,rfl⟩)
 clear R V j4 j5 b0 c2 j7 j8 j9 k0;refine A.mono ?_;rintro e wC ⟨⟨mC,cC,rC,SC,MC,GC,q4,q5,q6,rfl,k1,k2,k3,e9,d1⟩,k4⟩;rw[zLR]at e9;obtain rfl:=(zEl k3 e9).2 d1;have n7:=zh (j6.out.step k4 zi);obtain⟨q7,n8,u2,rfl,k5,⟨m0,m1,m2,m3⟩,p1⟩:=k1.elem (k:=1) (by simp);obtain rfl:u2=sxW 2:=by simpa using k5.symm
 unfold sxW sxM sxX at m0 m1 m2 m3;simp only[Nat.one_mul]at m0 m1 m2 m3;clear A k1 k2 k3 e9 d1 k4 k5
 go_wp2_with fail
 go_ret;exact⟨by simp,n7.out⟩
theorem zK8 (nm c:ByteArray)(f:Int)(w:World)(v:c∈zAB):
  Calls Tryz.prog 7 #[.string nm,.int .i64 f,.string c] w fun e w'=>(∃ y z A l,e=.returned (.agg (ocs 1 ⟨#[]⟩ ⟨0,0,⟨#[]⟩,nm,zT,⟨#[]⟩,⟨#[]⟩,2,f,y,z,A⟩ ⟨#[]⟩ ⟨#[]⟩))/\Atts w' y A l/\z=l.length/\l.length<=1/\l.all attrOk=true/\(getP l zr).size<=100000)/\Fr No w w':=by
 have D:=zEU c v;have h:=zFq c v;by_cases o:c.toList.isEmpty=true
 ·have q:c=⟨#[]⟩:=by
   rw[ByteArray.toList_eq]at o;have g:c.data.toList=[]:=by simpa using o
   exact ByteArray.ext (Array.toList_inj.1 g)
  subst q;refine(zK9 nm f w).mono ?_;rintro e w' ⟨rfl,u⟩;exact⟨⟨none,0,0,[],rfl,Atts.nil w',rfl,by decide,rfl,by decide⟩,u⟩
 ·have g:c.toList.isEmpty=false:=by simpa using o
  refine(zKN nm c f w g (by unfold maxLen;omega)).mono ?_;rintro e w' ⟨⟨b,rfl,C,_,_⟩,u⟩;refine⟨⟨some ⟨b,0,none⟩,1,1,[(zN,c)],rfl,C,rfl,by simp,?_,?_⟩,u⟩
  ·unfold contOk at h;rw[g,Bool.false_or]at h;simp[h]
  ·have:getP [(zN,c)] zr=c:=getT c;rw[this];omega
theorem FK.low {S:Nat->Prop}{w w':World}{y f:Nat}{a:Option Addr}{q:Nat}{ds:List Dev}{z:Option Addr}{A C:Nat}{D:Int}(h:FK w y f a q ds z A C D)(J:y<=f)(g:Fr S w w')(o:∀ b,y<=b->¬ S b):FK w' y f a q ds z A C D:=
 ⟨⟨g.heap h.st.blk (o _ (Nat.le_refl _)),h.st.tr.fr g (fun b F=>o b (by omega)),h.st.ta.fr g (fun u e=>o _ (by have:=h.st.tr.fresh u e;omega)),fun d v=>(h.st.te d v).fr g (fun u e=>o _ (by have:=(h.st.tr.el d v).fresh u e;omega)),h.st.own.elim fun L I=>⟨L,zG I g (fun b F=>o _ (by have:=(zAG I F).1;omega))⟩,h.st.nm⟩,h.fl,fun d v=>by
  obtain⟨l,N,O⟩:=h.ct d v;exact⟨l,N.fr g (fun u e _=>o _ (by have:=(h.st.tr.el d v).fresh u e;omega)),O⟩,h.pr,h.ln⟩
theorem nothing_walk (la:Option Addr)(lc:Nat)(l:List Int)(w:World)(hl:Ints w la lc l)(hE:Env w):
  Calls Tryz.prog 3 #[.slice la l.length lc] w fun e w'=>e=.returned (.bool true)/\Fr No w w':=by
 have h9:=hE.sz;obtain⟨A,I⟩:∃ A,A=w.alloc (.cells #[.slice la l.length lc,.int .i64 0] 25):=⟨_,rfl⟩
 have f1:Fr No w A:=by rw[I];exact(Fr.refl _ _).alloc _
 have d2:Tape A w.heap.size w.heap.size 0:=by rw[I];exact Tape.make hl 25
 have h6:A.heap.size=w.heap.size+1:=by rw[I];simp
 have a2:=zh hE;have h7:=zh (hE.no f1);have h8:=zh f1;have j8:l.length<=9223372036854775807:=by have h1:=hl.len;have h2:=hl.max;unfold maxLen at h2;omega
 clear hl hE f1
 go_enter Tryz.func3,Tryz.ntmps3
 go_upto_region 2 with(fail)
 rw[<-I];clear I
 go_wp2_with fail
 refine(zL0 A).mono ?_;rintro e w2 ⟨rfl,a3⟩;have f2:Fr No A w2:=by rw[a3];exact(Fr.refl _ _).alloc _
 have d3:KSt w2 A.heap.size (A.heap.size+1) none 0 [] none 0 0 0:=by rw[a3];exact KSt.new A _
 have d5:w2.heap.size=A.heap.size+1:=by rw[a3];simp
 have d7:Hid (FK w2 A.heap.size (A.heap.size+1) none 0 [] none 0 0 0):=⟨d3,⟨TreeWf.nil,fun d hd=>by simp at hd⟩,fun d hd=>by simp at hd,fun d hd=>by simp at hd,by simp⟩
 have d8:=d2.fr f2 (fun _ _=>id) id;have k0:=zh (h7.out.no f2);have i0:Hid (Fr No w w2):=h8.out.step f2 zi;obtain⟨f,b8⟩:∃ f,f=A.heap.size:=⟨_,rfl⟩
 have i1:=zh b8;have i2:=zh d5;have i3:=zh d8;rw[<-b8]at d7 ⊢;have k1:w.heap.size<f:=by omega
 clear a3 f2 d3 d2 d5 d8 h6 b8
 go_wp2_with fail
 go_loopw [6] (fun x wr=>∃ (j:Nat) (a:Option Addr) (v:Nat) (ds:List Dev) (Y:Option Addr) (J Z:Nat) (L:Int) (kk:Nat),j<=5/\x=.int .i64 (j:Int)/\J<=j/\0<=L/\L<=j/\kk<=2*j/\Hid (FK wr f (f+1) a v ds Y J Z L)/\Hid (Tape wr w.heap.size w.heap.size kk)/\Hid (Fr No w wr)/\f+1<=wr.heap.size) (fun x _=>5-(intOf x).toNat)
 case atStart=>exact⟨0,none,0,[],none,0,0,0,0,by omega,rfl,by omega,by omega,by omega,by omega,d7,i3,i0,by have:=i2.out;have:=i1.out;omega⟩
 case round=>
  obtain⟨j,a,v,ds,Y,J,Z,L,kk,hj,rfl,k2,k3,k4,i4,HK,HT,HF,k5⟩:=hrel;obtain⟨wA,rfl⟩:∃ wA,wA=wr:=⟨_,rfl⟩
  by_cases d9:j<5
  ·have j9:(j:Int)<5:=by omega
   have EA:Hid (Env wA):=a2.out.no HF.out
   go_wp2_with fail
   refine(zEJ wA).mono ?_;rintro e N ⟨rfl,e0,y⟩;have e1:=zh e0;have e2:Hid (Tape N w.heap.size w.heap.size kk):=HT.out.fr y (fun _ _=>id) id;have e3:=zh y;have s3:=y.size;clear e0 y;have a8:=zK3 w.heap.size w.heap.size kk 5 zGL N e2.out (by omega) #[.string ⟨#[109,100,45,114]⟩,.string ⟨#[109,100,45,115]⟩,.string ⟨#[111,112,101,110,45,99]⟩,.string ⟨#[108,118,45,118,45,49]⟩,.string ⟨#[111,112,101,110,45,100]⟩] rfl rfl (by decide) (by decide)
   go_wp2_with fail
   refine a8.mono ?_;rintro e w4 ⟨⟨nm,rfl,e4⟩,e5,b9⟩;have s4:=b9.size;have e6:=zh b9;have i5:=zh e4;have O:=zEj w.heap.size w.heap.size (kk+1) 16 w4 e5 (by omega) (by omega) (by omega);clear a8 e5 b9 e4
   go_wp2_with fail
   refine O.mono ?_;rintro e w5 ⟨q,rfl,i6,k6,e7,z⟩;obtain⟨q,rfl⟩:=Int.eq_ofNat_of_zero_le i6;have i7:q<zAB.length:=by rw[zBO];omega
   have s5:=z.size;have c2:Fr (Is w.heap.size) N w5:=e6.out.step z zi;have S5:Strs w5 (some ⟨wA.heap.size,0,none⟩) 16 zAB:=e1.out.fr c2 (fun ad e _ h=>by cases e;unfold Is at h;dsimp only at h;omega);obtain⟨b,k7,c,he,e8,e9⟩:=S5.at i7;cases he;rw[Nat.zero_add]at e9;have f0:=List.mem_of_getElem? e8;have c3:Hid (Fr (Is w.heap.size) wA w5):=(e3.out.mono zn).step c2 zi;have i8:=zh e7;have f3:=zK8 nm c (1+(j:Int)) w5 f0;clear O e7 z S5 e8 f0 c2 e6 e3 e1 e2
   go_wp2_with fail
   refine f3.mono ?_;rintro e w6 ⟨⟨aa,an,ac,ll,rfl,hA,c4,f5,f7,f8⟩,D⟩;have s6:=D.size;have c5:FK w6 f (f+1) a v ds Y J Z L:=(HK.out.low (by omega) c3.out (fun b hb h=>by unfold Is at h;omega)).no D;have E6:Env w6:=(EA.out.fr c3.out (fun b hb h=>by unfold Is at h;omega)).no D;have c6:=zLK f (f+1) a v ds Y J Z L nm (1+(j:Int)) aa an ac ll w6 c5 (by omega) (by omega) (by omega) hA c4 f5 f7 f8 i5.out (by omega) E6 (by omega);have T6:Hid (Tape w6 w.heap.size w.heap.size (kk+1+1)):=i8.out.fr D (fun _ _=>id) id;have R:Hid (Fr No w w6):=(HF.out.step c3.out (fun b hb h=>by unfold Is at h;omega)).step D zi;have O6:Hid (∀ b,(Value.slice Y J Z).ownBlock=some b->f+1<=b):=fun b h=>by
    obtain⟨xs,hx⟩:=c5.st.own;exact(zAG hx h).1
   have k8:=zh c4;clear f3 hA D c5 E6 e9 f7 f8 c4 f5;unfold ocs at c6
   go_wp2_with fail
   refine c6.mono ?_;rintro e w7 ⟨i,er,rfl,⟨a',U,i9,c7,c8,c9,j0,f9,g1,g2,g3⟩,u⟩;have j1:=zh f9;have a4:∀ b,b<=w.heap.size->¬ (b=f\/(Value.slice Y J Z).ownBlock=some b):=fun b hb h=>by
    rcases h with h | h
    ·omega
    ·have:=O6.out b h;omega
   have j2:Hid (Tape w7 w.heap.size w.heap.size (kk+1+1)):=T6.out.fr u (fun b hb=>a4 b (by omega)) (a4 _ (Nat.le_refl _));have j3:Hid (Fr No w w7):=R.out.step u (fun b hb h=>a4 b (by omega) h);have s7:=u.size;clear c6 f9 u a4
   go_wp2_with fail
   go_roundw
   case rel=>exact⟨j+1,a',U,i9,c7,c8,c9,j0,kk+1+1,by omega,by go_num,by omega,by omega,by omega,by omega,j1,j2,j3,by omega⟩
   case measure=>simp[intOf];omega
  ·obtain rfl:j=5:=by omega
   have EA:Hid (Env wA):=a2.out.no HF.out
   go_wp2_with fail
   refine(zK7 wA).mono ?_;rintro e N ⟨⟨k,x,rfl,hk,hx,g0,g4⟩,y⟩;obtain⟨W4,a5⟩:∃ W4,W4=N.alloc (.cells #[.slice (some ⟨k,0,none⟩) 2 2,.int .i64 0] 43):=⟨_,rfl⟩
   have f4:Fr No N W4:=by rw[a5];exact(Fr.refl _ _).alloc _
   have b4:W4.heap[N.heap.size]?=some (.cells #[.slice (some ⟨k,0,none⟩) 2 2,.int .i64 0] 43):=by rw[a5];exact zD _ _
   have F4:=zh (y.step f4 zi);have F:=zh (And.intro (hk.no f4 (fun _=>id)) (And.intro (hx.no f4 (fun _=>id)) (And.intro (g0.fr f4 (fun _ _=>id)) (g4.fr f4 (fun _ _=>id)))));have B4:=zh b4;have s4:=F4.out.size;have l4:=zC b4;have K4:Hid (FK W4 f (f+1) a v ds Y J Z L):=HK.out.no F4.out;clear hk hx g0 g4 y f4 b4
   go_upto_region 11 with(fail)
   rw[<-a5];clear a5;have V:=zFm f (f+1) a v ds Y J Z L W4 K4.out (by have:=K4.out.ln;omega)
   go_wp2_with fail
   refine V.mono ?_;rintro e w5 ⟨⟨ta,tc,dt,rfl,hT,g5⟩,z⟩;have k9:dt.length<=50:=by have:=K4.out.ln;have h:=congrArg List.length g5;rw[List.length_map,List.length_map]at h;omega
   obtain⟨o,a6⟩:∃ o,o=w5.alloc (.cells #[.slice ta dt.length tc] 48):=⟨_,rfl⟩
   have f6:Fr No w5 o:=by rw[a6];exact(Fr.refl _ _).alloc _
   have b6:o.heap[w5.heap.size]?=some (.cells #[.slice ta dt.length tc] 48):=by rw[a6];exact zD _ _
   have R:=zh (z.step f6 zi);have T6:=zh (And.intro (hT.no f6) b6);have l6:=zC b6;have s5:=z.size;have d0:=zh (R.out.heap B4.out id);have g6:Hid (Fr No w o):=(HF.out.step F4.out zi).step R.out zi;clear hT g5 z f6 b6 V
   go_upto_region 12 with(fail)
   rw[<-a6];clear a6;refine zQ (fun b=>TyS f o b\/o.heap.size<=b) [(0,false),(1,false),(3,false),(4,false),(2,true),(5,true),(6,false),(7,false),(8,false),(9,false),(10,false),(11,false),(12,true),(13,false),(14,false)] (by kernel_rfl) (by kernel_rfl) (fun w7 u=>?_);have ns:∀ b cs T,o.heap[b]?=some (.cells cs T)->b<o.heap.size->T≠60->T≠104->¬ (TyS f o b\/o.heap.size<=b):=fun b cs T h1 h2 h3 h4 h=>h.elim (TyS.ne h1 h3 h4) (by omega)
   have d6:=u.heap T6.out.2 id;have d4:=u.heap d0.out id;have n6:=ns _ _ _ T6.out.2 l6 (by decide) (by decide);have n4:=ns _ _ _ d0.out (by omega) (by decide) (by decide);have t6:∀ g:Gr (fun b=>TyS f o b\/o.heap.size<=b) w7,g.W.cell? ⟨w5.heap.size,0,none⟩=some (.slice ta dt.length tc):=fun g=>zB (g.fr.heap d6 n6) 0
   have t4:∀ g:Gr (fun b=>TyS f o b\/o.heap.size<=b) w7,g.W.cell? ⟨N.heap.size,0,none⟩=some (.slice (some ⟨k,0,none⟩) 2 2):=fun g=>zB (g.fr.heap d4 n4) 0
   have t5:∀ g:Gr (fun b=>TyS f o b\/o.heap.size<=b) w7,g.W.cell? ⟨N.heap.size,1,none⟩=some (.int .i64 0):=fun g=>zB (g.fr.heap d4 n4) 1
   have a9:=zDm (.pointer none) ta tc dt w7 (T6.out.1.no u).tr.dv T6.out.1.fl.ok.ok (by omega);have F7:=zh u;have i4:f<o.heap.size:=by omega
   have N4:=zh n4;clear d6 d4 u n6 n4
   repeat((first|apply zS rfl rfl rfl|apply zW rfl rfl rfl);intro K hK;go_big_quiet_op;go_big_quiet_on)
   apply zk;exact rfl
   go_wp2_with fail
   refine a9.mono ?_;rintro e w8 ⟨⟨ra,rc,rfl,hR,_⟩,d1⟩;have F8:=zh (F7.out.step d1 zi);have E8:Hid (Env w8):=(a2.out.no g6.out).no F8.out;have X:=zIZ ta ra (some ⟨k,0,none⟩) (some ⟨x,0,none⟩) tc rc 2 2 W4.heap.size 0 dt (recL dt dt) expE keysE w8 (T6.out.1.no F8.out) (by omega) hR E8.out ((F.out.2.1.no R.out (fun _=>id)).no F8.out (fun _=>id)) ((F.out.1.no R.out (fun _=>id)).no F8.out (fun _=>id)) (by decide) (by decide);clear a9 hR
   go_wp2_with fail
   refine zm d1 ?_;clear d1;apply zk;exact rfl
   go_wp2_with fail
   refine X.mono ?_;rintro e w9 ⟨⟨ma,mc,rfl,_⟩,a7⟩;have F9:=zh (F8.out.step a7 zi);have s9:=F9.out.size;have K9:Hid (FK w9 f (f+1) a v ds Y J Z L):=(K4.out.no R.out).no F9.out;have b0:=zIQ f f (f+1) a v ds Y J Z L (some ⟨k,0,none⟩) (some ⟨x,0,none⟩) 2 2 0 expE keysE w9 K9.out (by omega) (by omega) (by omega) (by omega) (by omega) (E8.out.no a7) ((F.out.2.1.no R.out (fun _=>id)).no F9.out (fun _=>id)) ((F.out.1.no R.out (fun _=>id)).no F9.out (fun _=>id)) ((F.out.2.2.1.fr R.out (fun _ _=>id)).fr F9.out (fun _ _=>id)) ((F.out.2.2.2.fr R.out (fun _ _=>id)).fr F9.out (fun _ _=>id)) (by decide) (by decide);clear X
   go_wp2_with fail
   refine zm a7 ?_;clear a7 t6 t4 t5;have d4:=F9.out.heap d0.out id;have t4:∀ g:Gr (fun b=>TyS f o b\/o.heap.size<=b) w9,g.W.cell? ⟨N.heap.size,0,none⟩=some (.slice (some ⟨k,0,none⟩) 2 2):=fun g=>zB (g.fr.heap d4 N4.out) 0
   have t5:∀ g:Gr (fun b=>TyS f o b\/o.heap.size<=b) w9,g.W.cell? ⟨N.heap.size,1,none⟩=some (.int .i64 0):=fun g=>zB (g.fr.heap d4 N4.out) 1
   clear d4
   repeat((first|apply zS rfl rfl rfl|apply zW rfl rfl rfl);intro K hK;go_big_quiet_op;go_big_quiet_on)
   clear t4 t5;apply zk;exact rfl
   go_wp2_with fail
   refine b0.mono ?_;rintro e g7 ⟨rfl,⟨a',U,c7,c8,c9,hK⟩,b1⟩;have j4:=zh hK;have g8:=zh b1;clear b0 hK b1
   go_wp2_with fail
   refine OnlyN.mk ⟨g8.out.mono (fun b hb h=>?_),?_⟩
   ·by_cases d9:b<o.heap.size
    ·obtain⟨h1,cs,T,h2,h3⟩:=h;exact .inl ⟨h1,cs,T,by rw[<-F9.out.block b d9 id];exact h2,h3⟩
    ·exact .inr (by omega)
   repeat((first|apply zS rfl rfl rfl|apply zW rfl rfl rfl);intro K hK;go_big_quiet_op;go_big_quiet_on)
   refine zY ?_;have g9:Hid (Fr No w g7):=(g6.out.step F9.out zi).step g8.out (fun b hb h=>by have:=h.1;omega);have C:=zFm f (f+1) a' U [] c7 c8 c9 L g7 j4.out (by simp)
   go_wp2_with fail
   refine C.mono ?_;rintro e j5 ⟨⟨l0,l1,j6,rfl,_,b2⟩,b3⟩;have j7:j6=[]:=by simpa using b2
   subst j7;rw[show (List.length ([]:List Dev))=0 from rfl];have b5:=zh (g9.out.step b3 zi);have h0:=zLB j5 (a2.out.no b5.out);have l2:∀ (a:Option Addr) (n c:Nat) (W:World),(Instr.field 48 (.agg #[.slice a n c]) 0).run Tryz.prog W=.ok (.slice a n c) W:=by intros;kernel_rfl
   clear C b2 b3
   go_wp2_with fail
   refine h0.mono ?_;rintro e l3 ⟨rfl,b7⟩;have h5:=zh (b5.out.step b7 zi);clear h0 b7
   go_wp2_with fail
   go_ret;exact⟨rfl,h5.out⟩
end Go.Proofs.YtinfjnndbfahhaaGreatDoor
