import Derived.Test.YtckkocmhlhefpaaGreatDoorQ29
namespace Go.Proofs.YtckkocmhlhefpaaGreatDoor
open Go.RowKit Go.Maps Go.Shelf
set_option linter.unusedVariables false
set_option maxRecDepth 100000
set_option maxHeartbeats 4000000
open And renaming intro->ai
open Dev renaming vals->au
open Fr renaming refl->aj
open Go renaming undef->Q,World->af,Addr->ag
open Go.Instr renaming lookup->av
open Go.Proofs.Tryz renaming prog->ak,underlying82->aw
open Go.RowKit renaming Hid->f
open Go.Value renaming slice->ac
open IntKind renaming i64->H
open Obj renaming cells->i
open OnlyN renaming mk->am
open Value renaming pointer->K,agg->a0
open _root_ renaming Nat->E,List->m,Option->ae,ByteArray->ar
open _root_.Bool renaming false->B,true->ab
open _root_.ByteArray renaming empty->ah
open _root_.List renaming length_append->an,length_cons->ap,length_nil->aq
open _root_.Option renaming some->C,none->G
variable{pre:m (Int×Dev)}{S V:E->Prop}{W z:af}{o b v:E}{a:ae ag}{cs ds:m Dev}{M:m Vir}{ct:Int->ar}
attribute [local go_sem] Oper.semAt_some
theorem zHn {α:Type}{L:m α}{pre:m (Int×α)}{x:Int×α}(h:pre++[x] <+: revR L):pre.length<L.length/\L.take (L.length-pre.length)=L.take (L.length-(pre++[x]).length)++[x.2]:=by
 have v:=h.length_le;rw[zAV,an]at v;simp only[ap,aq]at v;have u:pre.length<L.length:=by omega
 have D:(revR L)[pre.length]?=C x:=by
  obtain⟨t,F⟩:=h;rw[<-F];simp
 refine⟨u,?_⟩;obtain⟨j,O⟩:∃ j,j=L.length-1-pre.length:=⟨_,rfl⟩
 have o:j<L.length:=by omega
 obtain⟨z,y⟩:∃ z,L[j]?=C z:=⟨_,List.getElem?_eq_getElem o⟩
 have A:=zJs o y;have e:L.length-1-j=pre.length:=by omega
 rw[e,D]at A;have I:x.2=z:=by rw[Option.some.inj A]
 have J:L.length-pre.length=j+1:=by omega
 have N:L.length-(pre++[x]).length=j:=by rw[an];simp only[ap,aq];omega
 rw[J,N,I,List.take_add_one,y];rfl
def TrF (a:ae ag)(cs:m Dev)(b:E):Prop:=(∃ ad,a=C ad/\ad.block=b)\/∃ d∈cs,∃ ad,d.aa=C ad/\ad.block=b
def TrT (W:af)(a:ae ag)(cs:m Dev):Prop:=∀ b,TrF a cs b->∃ x T,W.heap[b]?=C (i x T (0,0))/\(T=36\/T=78)
theorem TrT.fr {o:af}(h:TrT W a cs)(v:Fr S W o)(y:∀ b,TrF a cs b->¬ S b):TrT o a cs:=λb u=>by
 obtain⟨x,T,z,A⟩:=h b u;exact⟨x,T,v.heap z (y b u),A⟩
theorem TrT.lt (h:TrT W a cs)(o:TrF a cs b):b<(W:E):=by
 obtain⟨x,T,u,_⟩:=h b o;exact zC u
theorem TrT.ne (h:TrT W a cs){k:E}(u:TrF a cs b){x:Array Value}{T:TypeId}(v:W.heap[k]?=C (i x T))(z:T≠36)(A:T≠78):b≠k:=by
 rintro rfl;obtain⟨y,F,o,D⟩:=h b u;rw[v]at o;cases o;exact D.elim z A
theorem TrT.ne_own (h:TrT W a cs){n:E}(u:TrF a cs b){v:Value}{z:m Value}(A:W.ownsRow o 38 14 v n z):¬ v.ownBlock=C b:=by
 obtain⟨y,I,D,F⟩:=h b u;refine zK A D ?_;rcases F with rfl|rfl<;>decide
theorem Tr.foot {u:E}(h:Tr W o a u ds)(A:Fr S W z)(D:∀ b,TrF a ds b->¬ S b):Tr z o a u ds:=
 ⟨h.dv.fr A (λy e _=>D _ (.inl ⟨y,e,rfl⟩)),h.wf,h.fresh,λd v=>by
  obtain⟨l,F,I⟩:=(h.el d v).att;exact⟨(h.el d v).sz,(h.el d v).drv,⟨l,F.fr A (λy e _=>D _ (.inr ⟨d,v,y,e,rfl⟩)),I⟩,(h.el d v).fresh⟩⟩
structure RmI (pb rb base:E)(w0:af)(M:m Vir)(ct:Int->ar)(ds:m Dev)(pre:m (Int×Dev))(V:E->Prop)(W:af):Prop where
 st:∃ (a1:ae ag) (c1:E) (cs:m Dev) (ao:ae ag) (no co:E),no=(remF M ds pre).2.length/\W.heap[pb]?=C (i #[.slice a1 cs.length c1,.slice ao no co] 102)/\Tr W base a1 c1 cs/\cs.map strip=(remF M ds pre).1/\W.ownsRow rb 38 14 (.slice ao no co) no (opF (remF M ds pre).2)/\TrT W a1 cs/\V=(λb=>b=pb\/(ac ao no co).ownBlock=C b\/((w0:E)<=b/\TrF a1 cs b))/\CtO W cs ct
 fr:Fr (λb=>b=pb\/(w0:E)<=b) w0 W
theorem RmI.lt {y:E}(h:RmI v y o z M ct ds pre V W)(u:V b):b<(W:E):=by
 obtain⟨a1,c1,cs,I,J,N,O,A,R,U,D,F,rfl,X⟩:=h.st;rcases u with rfl|u|u
 .exact zC A
 .exact(zAD D u).2
 .exact F.lt u.2
theorem RmI.mv {F I:E}{D:af}{A J:af}(h:RmI F I v D M ct ds pre V A)(z:Fr S A J)(u:∀ b,S b->¬ V b/\(D:E)<=b):RmI F I v D M ct ds pre V J:=by
 obtain⟨a1,c1,cs,N,O,R,U,X,Y,Z,h4,h5,h6,h7⟩:=h.st;subst h6;exact⟨⟨a1,c1,cs,N,O,R,U,z.heap X (λy=>(u _ y).1 (.inl rfl)),Y.foot z (λb y o=>(u b o).1 (.inr (.inr ⟨(u b o).2,y⟩))),Z,zG h4 z (λb y o=>(u b o).1 (.inr (.inl y))),h5.fr z (λb y o=>(u b o).1 (.inr (.inr ⟨(u b o).2,y⟩))),rfl,h7.fr z (λd hd ad e o=>(u _ o).1 (.inr (.inr ⟨(u _ o).2,.inr ⟨d,hd,ad,e,rfl⟩⟩)))⟩,h.fr.step z (λb y o=>.inr (u b o).2)⟩
theorem zPD (u mb F:E)(a:ae ag)(b4:E)(ds:m Dev)(M:m Vir)(ct:Int->ar)(N:E)(w:af)(hl:Tr w F a b4 ds)(hn:ds.length<=250)(hE:Env w)(d9:TrT w a ds)(hC:CtO w ds ct)(hR:RemOk M ds)(l6:∀ d∈ds,d.kind=2)
  (g0:w.heap[u]?=C (i #[.slice a ds.length b4,.slice G 0 0] 102)) (hQ:QMap w mb (wantG M) N) (v5:u≠mb) (v6:F<=u) (v7:8<u):
  Calls ak 31 #[K (C ⟨u,0,G⟩),.map (C mb)] w λe w'=>e=.returned (.tuple #[])/\(∃ (a1:ae ag) (c1:E) (cs:m Dev) (ao:ae ag) (I co:E),I=(remF M ds (revR ds)).2.length/\w'.heap[u]?=C (i #[.slice a1 cs.length c1,.slice ao I co] 102)/\Tr w' F a1 c1 cs/\cs.map strip=(remF M ds (revR ds)).1/\w'.ownsRow (w:E) 38 14 (.slice ao I co) I (opF (remF M ds (revR ds)).2)/\TrT w' a1 cs/\CtO w' cs ct)/\Fr (Is u) w w':=by
 obtain⟨i0,r1,r2,r3,r4⟩:=info_parts infoOp;refine(callsIn_wide (n:=12)).1 (callsIn_of_wp_marks Tryz.func31 rfl trivial (wpIn_wide.2 ?_));simp only[Tryz.ntmps31,List.size_toArray,ap,aq,Nat.reduceAdd,Nat.reduceSub,Array.replicate_succ,Array.replicate_zero,List.push_toArray,List.append_toArray,List.nil_append,List.cons_append];have n8:=zg2 hR l6;have HN:=zh hn;have r5:=zh hC;obtain⟨W0,l7,hW,b2,b3⟩:=zw w (i #[K (C ⟨u,0,G⟩)] 100) (i #[.map (C mb)] 82);have o0:(W0:E)=(w:E)+2:=by rw[l7];simp
 have t2:W0.cell? ⟨w,0,G⟩=C (K (C ⟨u,0,G⟩)):=zB b2 0;have t0:W0.cell? ⟨u,0,G⟩=C (.slice a ds.length b4):=zB (hW.heap g0 id) 0;have o1:=zh o0;have v8:=hl.dv.lenmax;clear o0
 go_upto_region 1 with(fail)
 rw[<-l7];clear l7
 go_wp2_with fail
 refine(zIX _ _ _ _).mono ?_;rintro e w1 ⟨rfl,rfl⟩;have hx:Fr No W0 (W0.alloc (i #[.slice a ds.length b4] 45)):=(aj _ _).alloc _;have db:=zF W0 (i #[.slice a ds.length b4] 45);have J:=hW.step hx zi;have d2:=hx.heap b2 id;have d3:=hx.heap b3 id;rw[o1.out]at db;clear t0 t2 b2 b3 hx hW
 go_wp2_with fail
 rw[o1.out];generalize W0.alloc (i #[.slice a ds.length b4] 45)=W2 at *;obtain⟨rb,r6⟩:∃ rb,rb=(W2:E)+2:=⟨_,rfl⟩
 have v3:u<(W2:E):=by have:=zC g0;have:=J.size;omega
 have v4:u<(w:E):=zC g0;have HA:=zg4 (hl.no J) (hE.no J) (J.heap g0 id) (hQ.fr J id);have HD:=zg2 d2 d3;refine(wpIn_wide (n:=12)).1 (zAm (α:=Int×Dev) (T:=λ_=>False) (V0:=Is u) rfl (by omega) (gf:=124) (lb:=#[K (C ⟨(w:E)+2,0,G⟩)]) rfl trivial (enters_of Tryz.func124 (by kernel_rfl) rfl) (encs:=λx:Int×Dev=>#[.int H x.1,a0 x.2.vals]) (λ_=>rfl) (λb h=>h.elim) (λb h=>by omega)
  (zB8 11 (by omega) ((w:E)+2) a b4 ds W2 (Is u) db HA.out.1.dv (by omega) ⟨λh=>by omega,λad e _ h=>d9.ne (.inl ⟨ad,e,rfl⟩) g0 (by decide) (by decide) h⟩)
  (RmI u rb F W2 M ct ds) (λs V A h b D=>h.lt D) (λs V A g1 S h hf hS=>h.mv hf (λb D=>⟨(hS b D).1,(hS b D).2.resolve_left id⟩))
  ⟨⟨a,b4,ds,G,0,0,rfl,HA.out.2.2.1,HA.out.1,rfl,World.ownsRow_nil _ _ _ _,d9.fr J (λ_ _=>id),by
   funext b
   apply propext;constructor
   .intro h;exact .inl h
   .rintro (h|h|⟨h1,h2⟩)
    .exact h
    .cases h
    .have:=d9.lt h2;have:=J.size;omega,r5.out.no J⟩,aj _ _⟩
  (λx V a' W=>∃ Bx,(W2:E)+2<=Bx/\W.heap[Bx]?=C (i x.2.vals 36)/\¬ V Bx/\a'={ tmps:=#[K (C ⟨u,0,G⟩),.map (C mb),K (C ⟨w,0,G⟩),K (C ⟨(w:E)+1,0,G⟩),Q,K (C ⟨Bx,0,G⟩),Q,Q,Q,Q,K (C ⟨u,0,G⟩),K (C ⟨u,0,G⟩),K (C ⟨u,0,G⟩),K (C ⟨u,0,G⟩),.slice a ds.length b4,.func (.func 124) #[] #[K (C ⟨(w:E)+2,0,G⟩)],.int H x.1,a0 x.2.vals,Q,Q,Q,Q,Q,Q,Q,Q,Q,Q,Q,Q,Q,Q,Q,Q,Q,Q,Q,Q,Q,Q,Q,Q,Q,Q,Q,Q,Q,Q,Q,Q,Q,Q,Q,Q,Q,Q,Q,Q,Q,Q,Q,Q,Q,Q,Q,Q,Q,Q,Q,Q,Q,Q,Q,Q,Q,Q,Q,Q,Q],defers:=[] })
  (λx V a' A g1 h hf=>by obtain⟨Bx,h1,h2,h3,h4⟩:=h;exact⟨Bx,h1,hf.heap h2 (λe=>by omega),h3,h4⟩)
  ?assign ?body ?done)
 case assign=>
  intro l pre V x W a4 hi k3 X;have r7:∀ b,V b->b<(W:E):=λb D=>hi.lt D
  have v9:=λa' W' (h1:Fr No W W') h2=>X a' W' h1 h2
  clear hl hE g0 hQ hn J d2 d3 db hC hR l6;unfold au
  gi_wp2
  exact X _ _ ((aj _ _).alloc _) ⟨(W:E),k3,zF _ _,λh=>by have:=r7 _ h;omega,rfl⟩
 case done=>
  rintro V W hi X w0;obtain⟨a1,c1,cs,ao,I,co,h8,h5,a5,g2,a7,h9,r8,i1⟩:=hi.st;have a2:Fr (Is (W2:E)) W (W.putObj (W2:E) (.deferred G)):=Fr.putObj _ _ _ rfl;have b5:∀ b,TrF a1 cs b->¬ Is (W2:E) b:=λb D e=>by
   obtain⟨y,T',h3,_⟩:=h9 b D;unfold Is at e;rw[e,X]at h3;cases h3
  have x1:=a2.heap h5 (λh=>by omega);have x2:=zHw (zG a7 a2 (λb D h=>by have:=(zAD a7 D).1;omega)) (base':=(w:E)) (by have:=J.size;omega);have x3:Fr (Is u) w (W.putObj (W2:E) (.deferred G)):=((J.mono zn).step hi.fr (λb D h=>h)).step a2 (λb D e=>by omega) |>.mono (λb D h=>by
   rcases h with h|h
   .exact h
   .have:=J.size;omega)
  have a8:=zg6 x1 (a5.foot a2 b5) x2 x3 (h9.fr a2 b5) (i1.fr a2 (λd hd ad e=>b5 _ (.inr ⟨d,hd,ad,e,rfl⟩)));have o2:=zg2 h8 g2;clear hi a2 J h5 a5 a7 h9 d9 x1 x2 x3 r8 i1 h8 g2 b5
  go_wp2_with fail
  refine⟨by simp,.inl ⟨_,_,rfl,run_takeDeferred X,?_⟩⟩;exact⟨.tuple #[],by simp[results,Tryz.results31,go_sem],rfl,⟨a1,c1,cs,ao,I,co,o2.out.1,a8.out.1,a8.out.2.1,o2.out.2,a8.out.2.2.1,a8.out.2.2.2.2.1,a8.out.2.2.2.2.2⟩,a8.out.2.2.2.1⟩
 case body=>
  rintro l pre V ⟨xi,d⟩ a' Y hi ⟨Bx,w2,l8,o3,rfl⟩ g8 k3;obtain⟨a1,c1,cs,ao,I,co,h8,h5,a5,g2,a7,d9,rfl,i1⟩:=hi.st;have d1:d∈ds:=zBu (p:=(xi,d)) (g8.subset (by simp));obtain⟨r9,o4,w3,d4⟩:=n8.out.1 pre (xi,d) g8;dsimp only at d4;rw[<-g2,zA5]at d4;obtain⟨dn,l9⟩:∃ dn,look cs d.index=C dn:=by
   cases h:look cs d.index with
   | none=>rw[h]at d4;cases d4
   | some y=>exact⟨y,rfl⟩
  have s0:=zCT M ds pre;have m0:=g8.length_le;rw[zAV,an]at m0;simp only[ap,aq]at m0;have s1:cs.length<=250:=by
   have h:=congrArg List.length g2;rw[List.length_map]at h;have:=HN.out;omega
  have w4:I<=250:=by have:=HN.out;omega
  have o5:=zDn M ds pre (xi,d);have k4:∀ m3:m Dev,m3.map strip=(remF M ds (pre++[(xi,d)])).1->TreeWf m3:=λm3 h=>TreeWf.ofStrip o4 (by rw[h,<-h,zCD,h])
  have a9:=zg4 h8 g2 o5 k4;have d5:∀ b,b<(W2:E)->b≠u->¬ (b=u\/(W2:E)<=b):=λb h h1 h'=>by rcases h' with h'|h'<;>omega
  have D1:=zh l8;have j8:f (Bx<(Y:E)/\(w:E)<(Y:E)/\(w:E)+1<(Y:E)):=⟨zC l8,by have:=zC HD.out.1;omega,by have:=zC HD.out.2;omega⟩
  have h6:=hi.fr;have a6:=zg2 (h6.heap HD.out.1 (d5 _ (zC HD.out.1) (by omega))) (h6.heap HD.out.2 (d5 _ (zC HD.out.2) (by omega)));have o6:Env Y:=HA.out.2.1.fr h6 (λb D=>d5 b (by have:=HA.out.2.1.sz;omega) (by omega));have m4:=HA.out.2.2.2.fr h6 (d5 _ HA.out.2.2.2.lt (by omega));have HI:=zh h6;have b0:=zh a7;have i2:=zh d9;have s2:=zh o3;have s4:f (rb<=(Y:E)):=by have:=r6;unfold f;omega
  have l0:=zh i1;have s5:=zh (n8.out.2 d d1);clear hl hE g0 hQ hn J d2 d3 db h6 g8 d5 l8 hi a7 d9 g2 o3 i1 h8 o5 k4 r9 o4 d4 s0 m0 hC hR l6;have i3:f (mb<(Y:E)/\u<(Y:E)):=⟨m4.lt,zC h5⟩
  have o7:f (∀ W,Fr No Y W->QMap W mb (wantG M) N):=λW hW=>m4.fr hW id
  obtain⟨P,hP⟩:∃ P,P=plc cs d.parent:=⟨_,rfl⟩
  obtain⟨xo,j9⟩:∃ xo,xo=d.orig:=⟨_,rfl⟩
  have o8:(Lit.int H d.parent).wf=true:=HA.out.1.wf.ok.pwf d1;have s6:f ((Lit.int H d.index).wf=ab):=HA.out.1.wf.ok.iwf d1;have m5:f (∀ W,Fr No Y W->Calls ak 70 #[a0 #[.slice a1 cs.length c1],a0 d.vals] W λe w'=>e=.returned (a0 #[.string P,.string xo])/\Fr No W w'):=λW hW=>by
   rw[hP,j9];have hT:=a5.no hW;exact zHX a1 c1 cs d W hT.dv hT.wf.ok (by omega) o8
  have k0:f (P.size<=maxLen/\xo.size<=maxLen):=by
   rw[hP,j9];have h1:=zBg a5.wf.ok s1 d.parent;have h2:=HA.out.1.wf.ok.sz d d1;refine⟨?_,?_⟩<;>unfold maxLen<;>omega
  obtain⟨VB,m6⟩:∃ VB,VB=virB cs d.index:=⟨_,rfl⟩
  obtain⟨PO,m7⟩:∃ PO,PO=plc cs d.index:=⟨_,rfl⟩
  have o9:f (∀ W,Fr No Y W->Calls ak 64 #[a0 #[.slice a1 cs.length c1],.int H d.index] W λe w'=>e=.returned (.bool VB)/\Fr No W w'):=λW hW=>by
   rw[m6];exact zER a1 c1 cs F d.index W (a5.no hW) (o6.no hW).err
  have s7:f (∀ W,Fr No Y W->Calls ak 62 #[a0 #[.slice a1 cs.length c1],.int H d.index] W λe w'=>e=.returned (.tuple #[.string PO,.bool ab])/\Fr No W w'):=λW hW=>by
   have:=zAu a1 c1 cs d.index W (a5.no hW).dv a5.wf.ok (by omega) s6.out;have e1:(((look cs d.index).map λ_=>pathOf (origin cs d.index)).getD ⟨#[]⟩)=PO:=m7.symm;rw[e1,l9]at this;exact this
  have s8:f (∀ W,Tr W F a1 c1 cs->Calls ak 71 #[a0 #[.slice a1 cs.length c1],.int H d.index] W λe w'=>RemRes W w' cs d.index e/\Fr No W w'):=λW hW=>zHd a1 c1 F cs d.index dn W hW (by omega) l9
  obtain⟨y,hy,_⟩:=zEc M (P,xo);obtain⟨bk,m8⟩:∃ bk,bk=(wantG M (P,xo)).isSome:=⟨_,rfl⟩
  have HY:=zh hy;have l1:f (remF M ds (pre++[(xi,d)])=if (VB&&!bk)=ab then (remL d.index (cs.map strip),(remF M ds pre).2++[⟨2,PO,ZD,⟨#[]⟩,⟨#[]⟩,⟨#[]⟩⟩])else remF M ds pre):=by
   unfold f;rw[a9.out.2.2.1];unfold zAI;rw[<-a9.out.2.1,zAn,zAJ,zAJ,<-m6,m8,zEd,hP,j9,<-m7]
  have x4:(d.kind==2)=true:=by rw[s5.out];rfl
  have p0:=zh m8.symm;have d6:=zh h5;have k1:=zh a5;unfold au at m5;clear hP j9 hy m8 m4 a5 o6 d1 h5 o8 l9 m6 m7;dsimp only;unfold au
  gi_wp2
  refine zB6 (From (Y:E)) (.q 0 (.q 1 (.q 2 (.q 3 (.q 4 (.q 5 (.m2 6 (.q 7 (.q 8 (.q 9 (.q 10 (.m1 11 (.m1 12 (.q 13 .fin))))))) 11 (.m1 6 (.q 7 (.q 8 (.q 9 (.q 10 (.m1 12 (.q 13 .fin)))))))))))))) _ (by kernel_rfl) (by kernel_rfl) (λW3 b6=>?_) zj;have d3:=b6.heap D1.out id;have yp:=b6.heap d6.out id;have y2:=b6.heap a6.out.1 id;have y3:=b6.heap a6.out.2 id;have v:∀ g:Gr (From (Y:E)) W3,DevB g.W Bx d:=λg=>DevB.of (g.fr.heap d3 (by unfold From;have:=j8.out;omega))
  have e0:=λg=>(v g).c0
  have e1:=λg=>(v g).c1
  have e2:=λg=>(v g).c2
  have e3:=λg=>(v g).c3
  have e4:=λg=>(v g).c4
  have e5:=λg=>(v g).c5
  have e6:=λg=>(v g).c6
  have e7:=λg=>(v g).c7
  have e8:=λg=>(v g).c8
  have e9:=λg=>(v g).c9
  have x2:∀ g:Gr (From (Y:E)) W3,g.W.cell? ⟨w,0,G⟩=C (K (C ⟨u,0,G⟩)):=λg=>zB (g.fr.heap y2 (by unfold From;have:=j8.out;have:=i3.out;omega)) 0
  have x3:∀ g:Gr (From (Y:E)) W3,g.W.cell? ⟨(w:E)+1,0,G⟩=C (.map (C mb)):=λg=>zB (g.fr.heap y3 (by unfold From;have:=j8.out;have:=i3.out;omega)) 0
  have x0:∀ g:Gr (From (Y:E)) W3,g.W.cell? ⟨u,0,G⟩=C (.slice a1 cs.length c1):=λg=>zB (g.fr.heap yp (by unfold From;have:=j8.out;have:=i3.out;omega)) 0
  have k2:=zh b6;clear v d3 yp y2 y3 b6
  repeat((first|apply zL rfl rfl rfl|apply zJ rfl rfl rfl);intro a4 X;go_big_quiet_op;go_big_quiet_on)
  clear e0 e1 e2 e3 e4 e5 e6 e7 e8 e9 x0 x2 x3;refine zAA rfl rfl ?_ ?_
  focus
   go_wp2_with fail
   refine(m5.out W3 k2.out).mono ?_;rintro e Wc ⟨rfl,d7⟩
   go_wp2_with fail
   refine zm d7 ?_;have h7:=zh (k2.out.step d7 zi);have i4:∀ W,(∃ g:Gr (From (Y:E)) Wc,W=g.W)->(av 82 (.map (C mb)) (a0 #[.string P,.string xo]) ab).run ak W=.ok (.tuple #[a0 #[.string y.q,.string y.o,.string y.c,.int H y.r],.bool bk]) W:=λW hW=>by
    obtain⟨g,rfl⟩:=hW;have:=((o7.out _ h7.out).fr g.fr (by unfold From;have:=i3.out;omega)).lookok (zDU g.W) aw k0.out.1 k0.out.2;rw[this,HY.out,p0.out]
   apply zL rfl rfl rfl;intro a4 X;refine zAh rfl _ _ 82 rfl (.map (C mb)) (a0 #[.string P,.string xo]) _ rfl rfl i4 ?_
   go_frame
   go_big_quiet_on;clear i4;apply zL rfl rfl rfl;intro a4 X;go_big_quiet_op;go_big_quiet_on;apply zL rfl rfl rfl;intro a4 X;go_big_quiet_op;go_big_quiet_on;apply zL rfl rfl rfl;intro a4 X;go_big_quiet_op;go_big_quiet_on;clear d7;apply zH;exact rfl;obtain⟨Wa,i5,i6,qa⟩:=zy Wc (i #[.string ⟨#[]⟩,.string ⟨#[]⟩,.string ⟨#[]⟩,.int H 0] 97)
   go_wp2_with fail
   refine zp ?_;rw[<-i5];clear i5;have i7:f (Fr No Y Wa):=h7.out.step i6 zi;have b7:f ((Y:E)<=(Wc:E)):=h7.out.size;have qz:=qa;clear i6 qa;obtain⟨g1,hB⟩:∃ g1,g1=(Wc:E):=⟨_,rfl⟩
   rw[<-hB]at qz b7 ⊢;clear hB;obtain⟨z0,z1,z2,z3⟩:=cl4 qz;obtain⟨f0,f1,f2,f3⟩:=fl4 qz;have h4:=zh (set4 qz rfl (.string y.q) (.string y.o) (.string y.c) (.int H y.r));clear qz;apply zH;exact rfl
   go_wp2_with fail
   refine am ⟨h4.out.2.mono (λb _ h=>by unfold Is at h;unfold From;have:=b7.out;omega),?_⟩;apply zL rfl rfl rfl;intro a4 X;go_big_quiet_op;go_big_quiet_on;refine zV ?_;obtain⟨w5,g4⟩:∃ w5,w5=((((Wa.setCell ⟨g1,0,G⟩ (.string y.q)).setCell ⟨g1,1,G⟩ (.string y.o)).setCell ⟨g1,2,G⟩ (.string y.c)).setCell ⟨g1,3,G⟩ (.int H y.r)):=⟨_,rfl⟩
   rw[<-g4];have b8:=h4.out;rw[<-g4]at b8;have a3:f (Fr No Y w5):=i7.out.step b8.2 (λb D h=>by unfold Is at h;have:=b7.out;omega);have s9:=zh b8.1;clear g4 h4 b8 z0 z1 z2 z3 f0 f1 f2 f3 i7 b7
  rotate_left 1
  focus
   obtain⟨Wa,i5,i6,qa⟩:=zy W3 (i #[.string ⟨#[]⟩,.string ⟨#[]⟩,.string ⟨#[]⟩,.int H 0] 97)
   go_wp2_with fail
   refine zp ?_;rw[<-i5];clear i5;have p1:=zh (k2.out.step i6 zi);clear i6;apply zH;exact rfl
   go_wp2_with fail
   refine(m5.out Wa p1.out).mono ?_;rintro e Wc ⟨rfl,d7⟩
   go_wp2_with fail
   refine zm d7 ?_;have qb:=d7.heap qa id;clear qa;have h7:=zh (p1.out.step d7 zi);have i4:∀ W,(∃ g:Gr (From (Y:E)) Wc,W=g.W)->(av 82 (.map (C mb)) (a0 #[.string P,.string xo]) ab).run ak W=.ok (.tuple #[a0 #[.string y.q,.string y.o,.string y.c,.int H y.r],.bool bk]) W:=λW hW=>by
    obtain⟨g,rfl⟩:=hW;have:=((o7.out _ h7.out).fr g.fr (by unfold From;have:=i3.out;omega)).lookok (zDU g.W) aw k0.out.1 k0.out.2;rw[this,HY.out,p0.out]
   apply zL rfl rfl rfl;intro a4 X;refine zAh rfl _ _ 82 rfl (.map (C mb)) (a0 #[.string P,.string xo]) _ rfl rfl i4 ?_
   go_frame
   go_big_quiet_on;clear i4;apply zL rfl rfl rfl;intro a4 X;go_big_quiet_op;go_big_quiet_on;apply zL rfl rfl rfl;intro a4 X;go_big_quiet_op;go_big_quiet_on;apply zL rfl rfl rfl;intro a4 X;go_big_quiet_op;go_big_quiet_on;clear d7;have i7:f (Fr No Y Wc):=h7.out;have b7:f ((Y:E)<=(W3:E)):=k2.out.size;have qz:=qb;clear qb;obtain⟨g1,hB⟩:∃ g1,g1=(W3:E):=⟨_,rfl⟩
   rw[<-hB]at qz b7 ⊢;clear hB;obtain⟨z0,z1,z2,z3⟩:=cl4 qz;obtain⟨f0,f1,f2,f3⟩:=fl4 qz;have h4:=zh (set4 qz rfl (.string y.q) (.string y.o) (.string y.c) (.int H y.r));clear qz;apply zH;exact rfl
   go_wp2_with fail
   refine am ⟨h4.out.2.mono (λb _ h=>by unfold Is at h;unfold From;have:=b7.out;omega),?_⟩;apply zL rfl rfl rfl;intro a4 X;go_big_quiet_op;go_big_quiet_on;refine zV ?_;obtain⟨w5,g4⟩:∃ w5,w5=((((Wc.setCell ⟨g1,0,G⟩ (.string y.q)).setCell ⟨g1,1,G⟩ (.string y.o)).setCell ⟨g1,2,G⟩ (.string y.c)).setCell ⟨g1,3,G⟩ (.int H y.r)):=⟨_,rfl⟩
   rw[<-g4];have b8:=h4.out;rw[<-g4]at b8;have a3:f (Fr No Y w5):=i7.out.step b8.2 (λb D h=>by unfold Is at h;have:=b7.out;omega);have s9:=zh b8.1;clear g4 h4 b8 z0 z1 z2 z3 f0 f1 f2 f3 i7 b7
  all_goals (
   by_cases m9:VB=ab/\bk=B
   .obtain⟨rfl,rfl⟩:=m9;have i8:f (remF M ds (pre++[(xi,d)])=(remL d.index (cs.map strip),(remF M ds pre).2++[⟨2,PO,ZD,⟨#[]⟩,⟨#[]⟩,⟨#[]⟩⟩])):=l1.out.trans (if_pos rfl)
    gi_wp2
    refine zBR No [(0,B),(1,B),(2,B),(3,B),(4,B),(5,B),(6,ab),(7,B),(8,B),(9,B),(10,B),(11,B),(12,B),(13,B),(14,B),(15,B)] (by kernel_rfl) (by kernel_rfl) (λw6 R=>?_);have d3:=R.heap (a3.out.heap D1.out id) id;have yp:=R.heap (a3.out.heap d6.out id) id;have y2:=R.heap (a3.out.heap a6.out.1 id) id;have y3:=R.heap (a3.out.heap a6.out.2 id) id;have v:∀ g:Gr (No) w6,DevB g.W Bx d:=λg=>DevB.of (g.fr.heap d3 (id))
    have e0:=λg=>(v g).c0
    have e1:=λg=>(v g).c1
    have e2:=λg=>(v g).c2
    have e3:=λg=>(v g).c3
    have e4:=λg=>(v g).c4
    have e5:=λg=>(v g).c5
    have e6:=λg=>(v g).c6
    have e7:=λg=>(v g).c7
    have e8:=λg=>(v g).c8
    have e9:=λg=>(v g).c9
    have x2:∀ g:Gr (No) w6,g.W.cell? ⟨w,0,G⟩=C (K (C ⟨u,0,G⟩)):=λg=>zB (g.fr.heap y2 (id)) 0
    have x3:∀ g:Gr (No) w6,g.W.cell? ⟨(w:E)+1,0,G⟩=C (.map (C mb)):=λg=>zB (g.fr.heap y3 (id)) 0
    have x0:∀ g:Gr (No) w6,g.W.cell? ⟨u,0,G⟩=C (.slice a1 cs.length c1):=λg=>zB (g.fr.heap yp (id)) 0
    have i9:=zh (a3.out.step R zi);clear v d3 yp y2 y3 R
    repeat((first|apply zT rfl rfl rfl|apply zU rfl rfl rfl);intro a4 X;go_big_quiet_op;go_big_quiet_on)
    clear e0 e1 e2 e3 e4 e5 e6 e7 e8 e9 x0 x2 x3;apply zt;exact rfl
    go_wp2_with fail
    refine(o9.out w6 i9.out).mono ?_;rintro e w7 ⟨rfl,g5⟩;have g6:=zh (i9.out.step g5 zi)
    go_wp2_with fail
    refine zm g5 ?_;clear g5
    repeat((first|apply zT rfl rfl rfl|apply zU rfl rfl rfl);intro a4 X;go_big_quiet_op;go_big_quiet_on)
    refine zb ?_
    gi_upto_region 5 with(fail)
    refine zBR No [(0,B),(1,B),(2,B),(3,B),(4,B),(5,B),(6,ab),(7,B),(8,B),(9,B),(10,B),(11,B)] (by kernel_rfl) (by kernel_rfl) (λw8 U=>?_);have d3:=U.heap (g6.out.heap D1.out id) id;have yp:=U.heap (g6.out.heap d6.out id) id;have y2:=U.heap (g6.out.heap a6.out.1 id) id;have x0:∀ g:Gr No w8,g.W.cell? ⟨u,0,G⟩=C (.slice a1 cs.length c1):=λg=>zB (g.fr.heap yp id) 0
    have x2:∀ g:Gr No w8,g.W.cell? ⟨w,0,G⟩=C (K (C ⟨u,0,G⟩)):=λg=>zB (g.fr.heap y2 id) 0
    have e0:∀ g:Gr No w8,g.W.cell? ⟨Bx,0,G⟩=C (.int H d.index):=λg=>zB (g.fr.heap d3 id) 0
    have p2:=zh (g6.out.step U zi);clear d3 yp y2 U
    repeat((first|apply zT rfl rfl rfl|apply zU rfl rfl rfl);intro a4 X;go_big_quiet_op;go_big_quiet_on)
    clear e0 x0 x2;apply zt;exact rfl
    go_wp2_with fail
    refine(s7.out w8 p2.out).mono ?_;rintro e w9 ⟨rfl,d8⟩;have t8:=zh (p2.out.step d8 zi)
    go_wp2_with fail
    refine zm d8 ?_;clear d8
    repeat((first|apply zT rfl rfl rfl|apply zU rfl rfl rfl);intro a4 X;go_big_quiet_op;go_big_quiet_on)
    refine zb ?_
    gi_upto_region 6 with(fail)
    refine zCF 11 (λb=>(ac ao I co).ownBlock=C b) (.q 0 (.q 1 (.q 2 (.q 3 (.q 4 (.q 5 (.q 6 (.m1 7 (.m1 8 (.m1 9 (.q 10 (.m1 11 .fin)))))))))))) _ (by kernel_rfl) (by kernel_rfl) (λW3 b6=>?_) zj;have j0:=zh (t8.out.step b6 zi);clear b6;have k7:=j0.out.heap d6.out id;have g9:=zG b0.out j0.out (λ_ _=>id);have n7:=zK g9 k7 (by decide);have g3:=j0.out.heap a6.out.1 id;have n3:=zK g9 g3 (by decide);have t7:∀ g:Gr (λb=>(ac ao I co).ownBlock=C b) W3,g.W.cell? ⟨u,1,G⟩=C (.slice ao I co):=λg=>zB (g.fr.heap k7 n7) 1
    have t3:∀ g:Gr (λb=>(ac ao I co).ownBlock=C b) W3,g.W.cell? ⟨w,0,G⟩=C (K (C ⟨u,0,G⟩)):=λg=>zB (g.fr.heap g3 n3) 0
    have s3:=j0.out.size;clear g3 n3
    repeat (apply tx_q rfl rfl rfl;intro a4 X;go_big_quiet_op;go_big_quiet_on)
    clear t7 t3;have al:=(aj No W3).alloc (i (ocs 2 (PO) ZD ⟨#[]⟩ ⟨#[]⟩) 38);have l2:=zG g9 al (λ_ _=>id);have k5:=al.heap k7 id;have p3:=zh al;clear g9 k7 al;apply zA9;exact rfl
    go_wp2_with fail
    refine am ⟨λ_=>p3.out.mono zn,?_⟩;apply zA9;exact rfl
    go_wp2_with (at_builtin;refine wpList_append_own_at _ rfl _ _ 53 rfl rb 38 i0 (a0 #[.int H 0,.string ah,.int H 0,.int H 0,.string ah,.string ah,.string ah,.string ah,.string ah,.int H 0,.int H 0,.slice G 0 0,.string ah,.string ah]) 14 192 Tryz.underlying53 r1 r2 r3 r4 rfl (by decide) _ _ _ rfl l2 ⟨W3,0,G⟩ 1 1 (ocs 2 (PO) ZD ⟨#[]⟩ ⟨#[]⟩).toList rfl rfl (zg _ (ocs 2 (PO) ZD ⟨#[]⟩ ⟨#[]⟩) _ rfl) (zCz _ _ _ _ _) (by unfold maxLen;omega) (by omega) (by have:=s4.out;rw[World.size_alloc];omega) ?_;intro v' w6 h0 p4 _ v0;obtain⟨b9,d0,rfl⟩:=zI h0)
    have gf:Fr (λb=>(ac ao I co).ownBlock=C b) (W3.alloc (i (ocs 2 (PO) ZD ⟨#[]⟩ ⟨#[]⟩) 38)) w6:=Fr.of_grown p4;refine zf gf ?_;have k6:=gf.heap k5 n7;have n6:=zK h0 k6 (by decide);have t7:w6.cell? ⟨u,1,G⟩=C (.slice ao I co):=zB k6 1;have f7:w6.frozen? ⟨u,1,G⟩=false:=zD k6 1;have x8:Fr (Is u) w6 (w6.setCell ⟨u,1,G⟩ (.slice b9 (I+1) d0)):=Fr.setAt (aj _ _) _;have k8:(w6.setCell ⟨u,1,G⟩ (.slice b9 (I+1) d0)).heap[u]?=C (i #[.slice a1 cs.length c1,.slice b9 (I+1) d0] 102):=zE k6 1 (.slice b9 (I+1) d0);have l3:=zG h0 x8 (λb D h=>n6 (by unfold Is at h;rw[<-h];exact D));have ff:Fr (λb=>b=u\/(ac ao I co).ownBlock=C b) Y (w6.setCell ⟨u,1,G⟩ (.slice b9 (I+1) d0)):=(((j0.out.step p3.out zi).mono zn).step gf (λb _ h=>.inr h)).step x8 (λb _ h=>.inl h);have HR:=zg3 k8 l3 ff;obtain⟨WZ,n2⟩:∃ WZ,WZ=w6.setCell ⟨u,1,G⟩ (.slice b9 (I+1) d0):=⟨_,rfl⟩
    rw[<-n2]at HR;clear l2 h0 p4 gf k5 k6 k8 x8 ff n6 n7 v0 l3;apply zA9;exact rfl
    go_wp2_with fail
    refine am ⟨λ_=>aj _ _,?_⟩
    repeat (apply tx_q rfl rfl rfl;intro a4 X;go_big_quiet_op;go_big_quiet_on)
    apply zA9;exact rfl
    go_wp2_with fail
    refine am ⟨λh=>(h rfl).elim,?_⟩;refine zFy ?_;rw[<-n2];clear n2 t7 f7
    gi_upto_region 7 with(fail)
    have v1:f (Tr WZ F a1 c1 cs):=k1.out.foot HR.out.2.2 (λb D h=>h.elim (i2.out.ne D d6.out (by decide) (by decide)) (i2.out.ne_own D b0.out));have n4:¬ (Bx=u\/(ac ao I co).ownBlock=C Bx):=λh=>s2.out (h.elim .inl (λh=>.inr (.inl h)))
    have p5:¬ ((w:E)=u\/(ac ao I co).ownBlock=C (w:E)):=λh=>h.elim (λh=>by omega) (zK b0.out a6.out.1 (by decide))
    refine zB6 (Is u) (.q 0 (.q 1 (.q 2 (.q 3 (.q 5 (.q 6 (.m1 4 (.m1 7 (.q 8 (.q 9 (.q 10 (.q 11 (.q 12 (.m1 13 .fin)))))))))))))) _ (by kernel_rfl) (by kernel_rfl) (λw8 U=>?_) zj;have d3:=U.heap (HR.out.2.2.heap D1.out n4) id;have yp:=U.heap HR.out.1 id;have y2:=U.heap (HR.out.2.2.heap a6.out.1 p5) id;have x0:w8.cell? ⟨u,0,G⟩=C (.slice a1 cs.length c1):=zB yp 0;have x2:∀ g:Gr (Is u) w8,g.W.cell? ⟨w,0,G⟩=C (K (C ⟨u,0,G⟩)):=λg=>zB (g.fr.heap y2 (λh=>by omega)) 0
    have e0:∀ g:Gr (Is u) w8,g.W.cell? ⟨Bx,0,G⟩=C (.int H d.index):=λg=>zB (g.fr.heap d3 (λh=>n4 (.inl h))) 0
    have p6:=s8.out w8 (v1.out.no U);have H8:=zg2 U yp;have x5:u<(w8:E):=zC yp;have x6:(Y:E)<=(w8:E):=by have:=HR.out.2.2.size;have:=U.size;omega
    clear d3 y2 U yp p5
    repeat (apply zL rfl rfl rfl;intro a4 X;go_big_quiet_op;go_big_quiet_on)
    clear e0 x2 n4;apply zH;exact rfl
    go_wp2_with fail
    refine zq ?_;clear x0;apply zH;exact rfl
    go_wp2_with fail
    refine p6.mono ?_;rintro e w9 ⟨⟨a',c',Z,rfl,hD,p7,j1,b1⟩,d8⟩;have k9:=d8.heap H8.out.2 id;have t9:w9.cell? ⟨u,0,G⟩=C (.slice a1 cs.length c1):=zB k9 0;have f9:w9.frozen? ⟨u,0,G⟩=false:=zD k9 0;have x9:Fr (Is u) w9 (w9.setCell ⟨u,0,G⟩ (.slice a' Z.length c')):=Fr.setAt (aj _ _) _;have kE:(w9.setCell ⟨u,0,G⟩ (.slice a' Z.length c')).heap[u]?=C (i #[.slice a' Z.length c',.slice b9 (I+1) d0] 102):=zE k9 0 _;have F9:Fr No WZ w9:=H8.out.1.step d8 zi;have j2:=zG HR.out.2.1 F9 (λ_ _=>id);have n9:=zK j2 k9 (by decide);have j3:=zG j2 x9 (λb D h=>n9 (by unfold Is at h;rw[<-h];exact D));have j4:Z.map strip=(remF M ds (pre++[(xi,d)])).1:=by
     rw[i8.out,b1.strip,zHp]
    have l4:TreeWf Z:=a9.out.2.2.2 Z j4;have l5:CtO w9 Z ct:=((l0.out.fr (HR.out.2.2.step H8.out.1 zn) (λx hx ad e h=>h.elim (i2.out.ne (.inr ⟨x,hx,ad,e,rfl⟩) d6.out (by decide) (by decide)) (i2.out.ne_own (.inr ⟨x,hx,ad,e,rfl⟩) b0.out))).sub (λx hx=>(List.mem_filter.1 hx).1)).cop b1;have j5:∀ b,TrF a' Z b->(w8:E)<=b:=λb D=>by
     rcases D with⟨ad,e,rfl⟩|⟨x,hx,ad,e,rfl⟩
     .exact j1 ad e
     .obtain⟨z,_,hz⟩:=b1.mem hx;exact hz.fresh ad e
    have p8:TrT w9 a' Z:=λb D=>by
     rcases D with⟨ad,e,rfl⟩|⟨x,hx,ad,e,rfl⟩
     .obtain⟨x,hx⟩:=p7 ad e;exact⟨x,_,hx,.inl rfl⟩
     .obtain⟨z,_,hz⟩:=b1.mem hx;obtain⟨x,hx⟩:=hz.typ ad e;exact⟨x,_,hx,.inr rfl⟩
    have b5:∀ b,TrF a' Z b->¬ Is u b:=λb D h=>by have:=j5 b D;omega
    have p9:Tr w9 F a' c' Z:=b1.tr (λx hx=>by have h:=(List.mem_filter.1 hx).1;exact⟨(k1.out.el x h).sz,(k1.out.el x h).drv⟩) hD l4 j1 (by omega);have O:=zh (ai kE (ai (p9.foot x9 b5) (ai j4 (ai j3 (ai (p8.fr x9 b5) (ai j5 (ai ((HR.out.2.2.step F9 zn).step x9 (λb _ h=>.inl h)) (l5.fr x9 (λx hx ad e=>b5 _ (.inr ⟨x,hx,ad,e,rfl⟩))))))))));have j6:∀ b,(ac b9 (I+1) d0).ownBlock=C b->rb<=b:=λb h=>(zAD j3 h).1
    have j7:∀ b,(ac ao I co).ownBlock=C b->rb<=b:=λb h=>(zAD b0.out h).1
    have HO:=zg2 j6 j7;clear hD p7 j1 b1 k9 kE F9 j2 n9 j3 j4 l4 j5 p8 b5 p9 j6 j7 p6 l5
    go_wp2_with fail
    refine zm d8 ?_;clear d8
    repeat (apply zL rfl rfl rfl;intro a4 X;go_big_quiet_op;go_big_quiet_on)
    apply zH;exact rfl;have X9:=zh x9;clear x9
    go_wp2_with fail
    refine zf X9.out ?_;refine zV ?_
    gi_wp2
    have v2:I+1=(remF M ds (pre++[(xi,d)])).2.length:=by rw[i8.out,an];have:=a9.out.1;simp;omega
    refine⟨_,?_,⟨⟨a',c',Z,b9,I+1,d0,v2,O.out.1,O.out.2.1,O.out.2.2.1,by rw[i8.out,zFO];exact O.out.2.2.2.1,O.out.2.2.2.2.1,rfl,O.out.2.2.2.2.2.2.2⟩,HI.out.step O.out.2.2.2.2.2.2.1 (λb D h=>?_)⟩,O.out.2.2.2.2.2.2.1.mono (λb _ h=>h.elim .inl (λh=>.inr (.inl h)))⟩
    .rintro b (h|h|h)
     .exact .inl (.inl h)
     .exact .inr (by have:=HO.out.1 b h;omega)
     .exact .inr (by have:=O.out.2.2.2.2.2.1 b h.2;omega)
    .rcases h with h|h
     .exact .inl h
     .exact .inr (by have:=HO.out.2 b h;omega)
   .have r0:VB=B\/VB=ab/\bk=true:=by
     revert m9;cases VB<;>cases bk<;>simp
    have n5:f (remF M ds (pre++[(xi,d)])=remF M ds pre):=by
     unfold f;rw[l1.out,if_neg (by rcases r0 with rfl|⟨rfl,rfl⟩<;>simp)]
    clear m9;rcases r0 with rfl|⟨rfl,rfl⟩
    all_goals (
     gi_wp2
     refine zBR No [(0,B),(1,B),(2,B),(3,B),(4,B),(5,B),(6,ab),(7,B),(8,B),(9,B),(10,B),(11,B),(12,B),(13,B),(14,B),(15,B)] (by kernel_rfl) (by kernel_rfl) (λw6 R=>?_);have d3:=R.heap (a3.out.heap D1.out id) id;have yp:=R.heap (a3.out.heap d6.out id) id;have y2:=R.heap (a3.out.heap a6.out.1 id) id;have y3:=R.heap (a3.out.heap a6.out.2 id) id;have v:∀ g:Gr (No) w6,DevB g.W Bx d:=λg=>DevB.of (g.fr.heap d3 (id))
     have e0:=λg=>(v g).c0
     have e1:=λg=>(v g).c1
     have e2:=λg=>(v g).c2
     have e3:=λg=>(v g).c3
     have e4:=λg=>(v g).c4
     have e5:=λg=>(v g).c5
     have e6:=λg=>(v g).c6
     have e7:=λg=>(v g).c7
     have e8:=λg=>(v g).c8
     have e9:=λg=>(v g).c9
     have x2:∀ g:Gr (No) w6,g.W.cell? ⟨w,0,G⟩=C (K (C ⟨u,0,G⟩)):=λg=>zB (g.fr.heap y2 (id)) 0
     have x3:∀ g:Gr (No) w6,g.W.cell? ⟨(w:E)+1,0,G⟩=C (.map (C mb)):=λg=>zB (g.fr.heap y3 (id)) 0
     have x0:∀ g:Gr (No) w6,g.W.cell? ⟨u,0,G⟩=C (.slice a1 cs.length c1):=λg=>zB (g.fr.heap yp (id)) 0
     have i9:=zh (a3.out.step R zi);clear v d3 yp y2 y3 R
     repeat((first|apply zT rfl rfl rfl|apply zU rfl rfl rfl);intro a4 X;go_big_quiet_op;go_big_quiet_on)
     clear e0 e1 e2 e3 e4 e5 e6 e7 e8 e9 x0 x2 x3;apply zt;exact rfl
     go_wp2_with fail
     refine(o9.out w6 i9.out).mono ?_;rintro e w7 ⟨rfl,g5⟩;have g6:=zh (i9.out.step g5 zi)
     go_wp2_with fail
     refine zm g5 ?_;clear g5;have e7:∀ g:Gr No w7,g.W.cell? ⟨Bx,7,G⟩=C (.int H d.kind):=λg=>zB (g.fr.heap (g6.out.heap D1.out id) id) 7
     repeat((first|apply zT rfl rfl rfl|apply zU rfl rfl rfl);intro a4 X;go_big_quiet_op;go_big_quiet_on)
     refine zb ?_
     gi_wp2
     have g7:=zh g6.out;refine⟨_,λb h=>.inl h,⟨⟨a1,c1,cs,ao,I,co,by rw[n5.out];exact a9.out.1,g7.out.heap d6.out id,k1.out.no g7.out,by rw[n5.out];exact a9.out.2.1,by rw[n5.out];exact zG b0.out g7.out (λ_ _=>id),i2.out.fr g7.out (λ_ _=>id),rfl,l0.out.no g7.out⟩,HI.out.step g7.out zn⟩,g7.out.mono zn⟩
     )
   )
end Go.Proofs.YtckkocmhlhefpaaGreatDoor
