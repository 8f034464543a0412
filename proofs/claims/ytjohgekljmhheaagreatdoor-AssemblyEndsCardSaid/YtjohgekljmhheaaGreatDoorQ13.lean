import Derived.Test.YtjohgekljmhheaaGreatDoorQ12
namespace Go.Proofs.YtjohgekljmhheaaGreatDoor
open Go.RowKit Go.Maps Go.Shelf
set_option linter.unusedVariables false
set_option maxRecDepth 100000
set_option maxHeartbeats 8000000
open Dev renaming vals->ap,zero->bo
open Fr renaming refl->aw,setAt->be,setCell->cc
open Go renaming undef->ai,World->aj,Addr->am,Calls->bd,maxLen->bh,Value->bj
open Go.Lib renaming joinTail->bp
open Go.Lit renaming int->ca
open Go.Proofs.Tryz renaming prog->ay,func51->de,ntmps51->df
open Go.RowKit renaming Hid->ah
open Go.Value renaming slice->az
open Go.WalkArith renaming wf_i64->dg
open Go.World renaming size_alloc->cb
open IntKind renaming i64->ae
open Obj renaming cells->ag
open OnlyN renaming mk->bf
open Prod renaming snd->bv
open TreeWf renaming ofStrip->dd
open Value renaming slice->ab,int->af,string->ak,agg->ar,pointer->ax
open _root_ renaming Nat->C,Int->G,List->R,ByteArray->a0,Option->al,if_pos->bg,if_neg->bi,UInt8->bn,absurd->br
open _root_.Bool renaming false->aq,true->au
open _root_.ByteArray renaming empty->bm,toList->cj
open _root_.List renaming length_map->bc,length->bq,map_append->bs,map_map->bu,map_take->bw,mem_of_find?_eq_some->bz,getElem?_map->cd,length_append->ce,map_cons->cf,map_drop->cg,mem_singleton->ch,any_map->cl,cons_append->cm,find?_eq_none->cn,find?_map->cp,foldl_map->cq,getElem?_of_mem->cr,length_cons->cu,length_nil->cw,mem_map_of_mem->cx,mem_of_getElem?->cy,pairwise_reverse->cz
open _root_.List.Pairwise renaming map->dh
open _root_.Nat renaming le_trans->ci,le_refl->da,zero_add->dc
open _root_.Option renaming some->E,none->B
variable{ds L:R Dev}{s:a0}{p i:G}{d:Dev}{y u:R OpA}{z:al am}{A o b j n c m:C}{M:R Vir}{ct:G->a0}{v:Vir}{F:R bj}{w W w':aj}{f:G->G}
def newG (ds:R Dev)(p:G)(vo:a0)(num:G)(vc:a0)(aa:al am):Dev:=⟨maxI ds+1,p,vo,vo,zX,(),(),2,num,aa,(cAtt vc).length,(cAtt vc).length⟩
def opG (vo:a0)(num:G)(vc:a0)(aa:al am):Dev:=⟨0,0,(),vo,zX,(),(),2,num,aa,(cAtt vc).length,(cAtt vc).length⟩
structure AddOk (ds:R Dev)(vq vo vc:a0)(p:G):Prop where
 par:ParIs ds vq p
 no:ds.find? (atP ds (vq++(⟨#[47]⟩:a0)++vo))=B
 pw:(ca ae p).wf=au
 q:vq.size<=100000
 o:vo.size<=100000
 c:vc.size<=100000
 nw:∀ d∈ds,(ca ae d.num).wf=au
 mx:0<=maxI ds/\maxI ds<=1000000
 pre:∀ k:C,k<=(ds:C)->usedF ds (1048576+(k:G))=aq->∀ aa,InsPre ds (newG ds p vo (1048576+(k:G)) vc aa) (cAtt vc)/\Sized (newG ds p vo (1048576+(k:G)) vc aa)/\(sameO ds (newG ds p vo (1048576+(k:G)) vc aa)||ds.any (clP (newG ds p vo (1048576+(k:G)) vc aa)))=aq/\TreeWf (insAt ds (insK ds (newG ds p vo (1048576+(k:G)) vc aa)) (newG ds p vo (1048576+(k:G)) vc aa))
def AddR (pb rb base:C)(w:aj)(ds:R Dev)(ct:G->a0)(ops:R OpA)(no:C)(vq vo vc:a0)(p:G)(W:aj):Prop:=
 ∃ (k:C) (aa a1:al am) (c1:C) (cs:R Dev) (ao:al am) (co:C),(k<=(ds:C)/\∀ i:C,i<k->usedF ds (1048576+(i:G))=au)/\usedF ds (1048576+(k:G))=aq/\W.heap[pb]?=E (ag #[ab a1 cs c1,ab ao (no+1) co] 117)/\Tr W base a1 c1 cs/\cs.map strip=(insAt ds (insK ds (newG ds p vo (1048576+(k:G)) vc aa)) (newG ds p vo (1048576+(k:G)) vc aa)).map strip/\
  W.ownsRow rb 72 14 (ab ao (no+1) co) (no+1) (opF (ops++[⟨1,vq,opG vo (1048576+(k:G)) vc aa,(),(),vc⟩]))/\TrT W a1 cs/\CtO W cs (updC ct (maxI ds+1) vc)/\Atts W aa (cAtt vc).length (cAtt vc)/\BlkT W aa 78/\(∀ ad,aa=E ad->(w:C)<=ad.block)/\(∀ b,TrF a1 cs b->(w:C)<=b)
theorem zP3 (pb rb a5:C)(a:al am)(a6:C)(ds:R Dev)(ct:G->a0)(j2:R OpA)(ao:al am)(no co:C)(vq N O:a0)(vr p:G)(w:aj)(hl:Tr w a5 a a6 ds)(hn:(ds:C)<=250)(hE:Env w)(hC:CtO w ds ct)(l4:w.heap[pb]?=E (ag #[ab a ds a6,ab ao no co] 117))(l1:w.ownsRow rb 72 14 (ab ao no co) no (opF j2))(A3:no<=10000)
  (b3:AddOk ds vq N O p) (n6:a5<=(w:C)) (n7:rb<=(w:C)):
  bd ay 51 #[ax (E ⟨pb,0,B⟩),ar #[vq,N,O,vr]] w λe w'=>e=.returned (.tuple #[])/\AddR pb rb a5 w ds ct j2 no vq N O p w'/\Fr (λb=>b=pb\/(az ao no co).ownBlock=E b) w w':=by
 obtain⟨i0,s7,g3,s9,t7⟩:=info_parts infoOp;obtain⟨W0,n8,x0,b0⟩:=zy w (ag #[vq,N,O,vr] 52);have l6:=x0.heap l4 id;have A7:=zC l4;have n9:=λ(s:a0) (W:aj) (hf:Fr No w W)=>zD1 a a6 ds a5 s W (hl.no hf) (by omega)
 have j3:=zh n9;have Hl:=zh hl;have HE:=zh hE;have Hp:=zh b3.par;have o0:=zh b3.no;have o1:=zh b3;have l7:=zh hC;have g4:=zg3 l1 n6 n7;have t8:O.size<=maxLen:=by have:=b3.c;unfold bh;omega
 have hq:=b3.q;have ho:=b3.o;have A8:=b3.mx;have t9:=b3.pw;clear n9 hl hE l4 b3 l1 hC n6 n7;have A9:(vq++(⟨#[47]⟩:a0)).size<=9223372036854775807:=by rw[ByteArray.size_append];show vq.size+1<=_;omega
 have D2:(vq++(⟨#[47]⟩:a0)++N).size<=9223372036854775807:=by rw[ByteArray.size_append,ByteArray.size_append];show vq.size+1+N.size<=_;omega
 go_enter de,df;go_upto_region 1 with(fail)
 rw[<-n8];clear n8;go_cut [4,5] (λp4 b5 wx=>∃ Bp pd bb,p4=ax (E ⟨Bp,0,B⟩)/\b5=.bool bb/\ah (wx.heap[Bp]?=E (ag (ap pd) 48)/\pd.index=p/\(bb=au\/vq=())/\(w:C)<Bp)/\Fr No W0 wx);case first=>
  refine zZ (λb=>(W0:C)<=b) (.q 0 (.q 1 (.q 2 (.q 3 (.q 4 (.q 5 (.m2 6 (.q 7 (.q 8 (.q 9 (.m1 10 (.m1 11 (.q 12 .fin)))))) 10 (.m1 6 (.q 7 (.q 8 (.q 9 (.m1 11 (.q 12 .fin))))))))))))) _ (λW1 U=>?_) zj;have b1:=U.heap b0 id;have k1:=U.heap l6 id;have v3:=zC b0;have t0:∀ g:Gr (λb=>(W0:C)<=b) W1,g.W ⟨pb,0,B⟩=E (ab a ds a6):=λg=>zB (g.fr.heap k1 (λh=>by omega)) 0
  have t1:∀ g:Gr (λb=>(W0:C)<=b) W1,g.W ⟨w,0,B⟩=E (ak vq):=λg=>zB (g.fr.heap b1 (λh=>by omega)) 0
  have o2:=U.size;have x1:=zh (x0.step U zi);(repeat(first|apply zL rfl rfl rfl|apply zJ rfl rfl rfl);intro K hK;go_big_quiet_op;go_big_quiet_on);clear t0 t1;refine zAB rfl rfl ?_ ?_
  focus
   have u:=j3.out vq W1 x1;go_wp2_with fail;apply u.mono;rintro e w2 ⟨hF,I⟩;clear u;obtain⟨pd,bb,rfl,g7,g8⟩:∃ pd bb,e=.returned (.tuple #[ar (ap pd),.bool bb])/\pd.index=p/\(bb=au\/vq=()):=by
    rcases hF with⟨Z,rfl⟩|⟨d,X,Y,l',Z,rfl,_⟩
    .rcases Hp.out with⟨_,h2,h3⟩|⟨d,h2,_⟩
     .exact⟨bo,aq,rfl,h3.symm,.inr h2⟩
     .rw[Z]at h2;cases h2
    .rcases Hp.out with⟨h2,_⟩|⟨d',h2,h3⟩
     .rw[Z]at h2;cases h2
     .rw[Z]at h2;cases h2;exact⟨{ d with aa:=X,ac:=Y },au,rfl,h3.symm,.inl rfl⟩
   have l8:=zg2 g7 g8;clear g7 g8;unfold ap;go_wp2_with fail;apply zm I;(repeat(first|apply zL rfl rfl rfl|apply zJ rfl rfl rfl);intro K hK;go_big_quiet_op;go_big_quiet_on);apply zH rfl;obtain⟨W3,a7,f3,q3⟩:=zy w2 (ag #[af ae 0,af ae 0,(),(),(),(),(),af ae 0,af ae 0,ab B 0 0] 48);have HX:ah (Fr No W0 W3):=(U.step I zi).step f3 zi;have o4:=I.size;go_wp2_with fail;apply zp;rw[<-a7];clear a7 f3
  rotate_left 1
  focus
   obtain⟨W3,a7,f3,q2⟩:=zy W1 (ag #[af ae 0,af ae 0,(),(),(),(),(),af ae 0,af ae 0,ab B 0 0] 48);go_wp2_with fail;apply zp;rw[<-a7];clear a7;have u:=j3.out vq W3 (x1.step f3 zi);apply zH rfl;go_wp2_with fail;apply u.mono;rintro e w2 ⟨hF,I⟩;clear u;obtain⟨pd,bb,rfl,g7,g8⟩:∃ pd bb,e=.returned (.tuple #[ar (ap pd),.bool bb])/\pd.index=p/\(bb=au\/vq=()):=by
    rcases hF with⟨Z,rfl⟩|⟨d,X,Y,l',Z,rfl,_⟩
    .rcases Hp.out with⟨_,h2,h3⟩|⟨d,h2,_⟩
     .exact⟨bo,aq,rfl,h3.symm,.inr h2⟩
     .rw[Z]at h2;cases h2
    .rcases Hp.out with⟨h2,_⟩|⟨d',h2,h3⟩
     .rw[Z]at h2;cases h2
     .rw[Z]at h2;cases h2;exact⟨{ d with aa:=X,ac:=Y },au,rfl,h3.symm,.inl rfl⟩
   have l8:=zg2 g7 g8;clear g7 g8;unfold ap;have q3:=I.heap q2 id;have HX:ah (Fr No W0 w2):=(U.step f3 zi).step I zi;clear q2 f3;go_wp2_with fail;apply zm I;(repeat(first|apply zL rfl rfl rfl|apply zJ rfl rfl rfl);intro K hK;go_big_quiet_op;go_big_quiet_on)
  all_goals (
   apply zH rfl;obtain⟨z0,z1,z2,z3,z4,z5,z6,z7,z8,z9⟩:=DevB.of (d:=⟨0,0,(),(),(),(),(),0,0,B,0,0⟩) q3;obtain⟨y0,y1,y2,y3,y4,y5,y6,y7,y8,y9⟩:=DevF.of q3;have d9:=zh (zA6 q3 rfl pd);have v4:=zC q3;clear q3;go_wp2_with fail;refine bf ⟨d9.2.mono (λb _ h=>by omega),?_⟩;(repeat(first|apply zL rfl rfl rfl|apply zJ rfl rfl rfl);intro K hK;go_big_quiet_op;go_big_quiet_on);apply zW;go_wp2;go_meet;exact⟨_,pd,bb,rfl,rfl,⟨d9.1,l8.1,l8.2,by omega⟩,(HX.step d9.2 (λb hb h=>by omega))⟩
   )
 case rest=>
  obtain⟨Bp,pd,bb,rfl,rfl,hB,U⟩:=hcut;have l9:Fr No w wc:=x0.step U zi;have m0:=U.heap b0 id;have m3:=U.heap l6 id;have p1:=hB.1;have v3:=zC b0;have o2:=U.size;have D3:=zC p1;have D4:=hB.2.2.2;clear b0 l6 U;go_upto_region 2 with(fail)
  go_cut [6,7] (λp6 b7 wx=>(∃ Bq,p6=ax (E ⟨Bq,0,B⟩))/\b7=.bool aq/\Fr No wc wx);case first=>
   refine zZ (λb=>(wc:C)<=b) (.q 0 (.q 1 (.q 2 (.q 3 (.q 4 (.q 5 (.q 6 (.q 7 (.q 8 (.q 9 (.m2 10 (.q 11 (.q 12 (.q 13 (.m1 14 (.m1 15 (.q 16 .fin)))))) 14 (.m1 10 (.q 11 (.q 12 (.q 13 (.m1 15 (.q 16 .fin))))))))))))))))) _ (λW1 U=>?_) zj;have b1:=U.heap m0 id;have k1:=U.heap m3 id;have t0:∀ g:Gr (λb=>(wc:C)<=b) W1,g.W ⟨pb,0,B⟩=E (ab a ds a6):=λg=>zB (g.fr.heap k1 (λh=>by omega)) 0
   have t1:∀ g:Gr (λb=>(wc:C)<=b) W1,g.W ⟨w,0,B⟩=E (ak vq):=λg=>zB (g.fr.heap b1 (λh=>by omega)) 0
   have t2:∀ g:Gr (λb=>(wc:C)<=b) W1,g.W ⟨w,1,B⟩=E (ak N):=λg=>zB (g.fr.heap b1 (λh=>by omega)) 1
   have o2:=U.size;have x1:=zh (l9.step U zi);(repeat(first|apply zL rfl rfl rfl|apply zJ rfl rfl rfl);intro K hK;go_big_quiet_op;go_big_quiet_on);clear t0 t1 t2;refine zAB rfl rfl ?_ ?_
   focus
    have u:=j3.out (vq++(⟨#[47]⟩:a0)++N) W1 x1;go_wp2_with fail;apply u.mono;rintro e w2 ⟨hF,I⟩;clear u;obtain⟨pd,rfl⟩:∃ pd,e=.returned (.tuple #[ar (ap pd),.bool aq]):=by
     rcases hF with⟨Z,rfl⟩|⟨d,X,Y,l',Z,rfl,_⟩
     .exact⟨bo,rfl⟩
     .rw[o0.out]at Z;cases Z
    unfold ap;go_wp2_with fail;apply zm I;(repeat(first|apply zL rfl rfl rfl|apply zJ rfl rfl rfl);intro K hK;go_big_quiet_op;go_big_quiet_on);apply zH rfl;obtain⟨W3,a7,f3,q3⟩:=zy w2 (ag #[af ae 0,af ae 0,(),(),(),(),(),af ae 0,af ae 0,ab B 0 0] 48);have HX:ah (Fr No wc W3):=(U.step I zi).step f3 zi;have o4:=I.size;go_wp2_with fail;apply zp;rw[<-a7];clear a7 f3
   rotate_left 1
   focus
    obtain⟨W3,a7,f3,q2⟩:=zy W1 (ag #[af ae 0,af ae 0,(),(),(),(),(),af ae 0,af ae 0,ab B 0 0] 48);go_wp2_with fail;apply zp;rw[<-a7];clear a7;have u:=j3.out (vq++(⟨#[47]⟩:a0)++N) W3 (x1.step f3 zi);apply zH rfl;go_wp2_with fail;apply u.mono;rintro e w2 ⟨hF,I⟩;clear u;obtain⟨pd,rfl⟩:∃ pd,e=.returned (.tuple #[ar (ap pd),.bool aq]):=by
     rcases hF with⟨Z,rfl⟩|⟨d,X,Y,l',Z,rfl,_⟩
     .exact⟨bo,rfl⟩
     .rw[o0.out]at Z;cases Z
    unfold ap;have q3:=I.heap q2 id;have HX:ah (Fr No wc w2):=(U.step f3 zi).step I zi;clear q2 f3;go_wp2_with fail;apply zm I;(repeat(first|apply zL rfl rfl rfl|apply zJ rfl rfl rfl);intro K hK;go_big_quiet_op;go_big_quiet_on)
   all_goals (
    apply zH rfl;obtain⟨z0,z1,z2,z3,z4,z5,z6,z7,z8,z9⟩:=DevB.of (d:=⟨0,0,(),(),(),(),(),0,0,B,0,0⟩) q3;obtain⟨y0,y1,y2,y3,y4,y5,y6,y7,y8,y9⟩:=DevF.of q3;have d9:=zh (zA6 q3 rfl pd);have v4:=zC q3;clear q3;go_wp2_with fail;refine bf ⟨d9.2.mono (λb _ h=>by omega),?_⟩;(repeat(first|apply zL rfl rfl rfl|apply zJ rfl rfl rfl);intro K hK;go_big_quiet_op;go_big_quiet_on);apply zW;go_wp2;go_meet;exact⟨⟨_,rfl⟩,rfl,HX.step d9.2 (λb hb h=>by omega)⟩
    )
  case rest=>
   obtain⟨⟨Bq,rfl⟩,rfl,I⟩:=hcut;have x2:=l9.step I zi;have b2:=I.heap m0 id;have k2:=I.heap m3 id;have p2:=I.heap p1 id;have o4:=I.size;clear l9 m0 m3 p1 I;obtain⟨v0,v1,v2⟩:wc ⟨w,0,B⟩=E (ak vq)/\wc ⟨w,1,B⟩=E (ak N)/\wc ⟨w,2,B⟩=E (ak O):=⟨zB b2 0,zB b2 1,zB b2 2⟩
   have l2:=zP0 pb a5 a a6 ds (ab ao no co) wc (Hl.no x2) hn k2 o1.nw;go_upto_region 3 with(fail)
   go_cut [47] (λv wy=>v=.bool aq/\wc=wy);case first=>
    rcases hB.2.2.1 with rfl|rfl
    .go_wp2;go_meet;exact⟨rfl,rfl⟩
    .rcases bb with _|_
     all_goals
      go_wp2;go_meet;exact⟨rfl,rfl⟩
   case rest=>
    obtain⟨rfl,rfl⟩:=hcut;go_wp2_with fail;apply l2.mono;rintro e V ⟨⟨k,o5,m4,o6,rfl⟩,g0⟩;obtain⟨F,m5⟩:∃ F:G,F=1048576+(k:G):=⟨_,rfl⟩
    rw[<-m5]at m4 ⊢;have b6:=zg3 m5 (And.intro o5 o6) m4;clear m5 o5 m4 o6;have x4:=x2.step g0 zi;have b4:=g0.heap b2 id;have k4:=g0.heap k2 id;have p4:=g0.heap p2 id;have s4:=g0.size;obtain⟨v0,v1,v2⟩:V ⟨w,0,B⟩=E (ak vq)/\V ⟨w,1,B⟩=E (ak N)/\V ⟨w,2,B⟩=E (ak O):=⟨zB b4 0,zB b4 1,zB b4 2⟩
    obtain⟨W5,g9,f5,q5⟩:=zy V (ag (ap ⟨0,0,(),N,zX,(),(),2,F,B,0,0⟩) 48);unfold ap at g9;unfold zX at g9;dsimp only at g9;clear l2 g0 b2 k2 p2 x2;go_upto_region 6 with(fail)
    rw[<-g9];clear g9 v0 v1 v2;have b5:=f5.heap b4 id;have D5:(w:C)<(V:C):=zC b4;have A4:=zC k4;have A5:=zC p4;have s5:=f5.size;have x5:=x4.step f5 zi;have k5:=f5.heap k4 id;have p5:=f5.heap p4 id;have H5:=zg4 b5 k5 p5 x5;have D6:=zh q5;clear f5 b4 k4 p4 x4;obtain⟨v0,v1,v2⟩:W5 ⟨w,0,B⟩=E (ak vq)/\W5 ⟨w,1,B⟩=E (ak N)/\W5 ⟨w,2,B⟩=E (ak O):=⟨zB b5 0,zB b5 1,zB b5 2⟩
    clear b5 k5 p5 x5;have l5:=zC q5;go_upto_if 59 with(fail)
    go_cut [59] (λ_ wx=>∃ aa,ah (wx.heap[(V:C)]?=E (ag (ap (opG N F O aa)) 48)/\Atts wx aa (cAtt O).length (cAtt O)/\BlkT wx aa 78/\(∀ J,aa=E J->(W5:C)<=J.block))/\ah (Fr (Is (V:C)) W5 wx));case first=>
     rcases hve:O.toList.isEmpty with _|_
     .have HC:ah (cAtt O=[(zM,O)]):=(by unfold ah cAtt;simp[hve]);have y9:(W5.alloc (ag #[ak ⟨#[99,111,110,116,101,110,116]⟩,O] 78)).frozen? ⟨V,9,B⟩=false:=zD (((aw No W5).alloc _).heap q5 id) 9;have z9:(W5.alloc (ag #[ak ⟨#[99,111,110,116,101,110,116]⟩,O] 78)) ⟨V,9,B⟩=E (ab B 0 0):=zB (((aw No W5).alloc _).heap q5 id) 9;obtain⟨W6,h0⟩:=ε (W5.setCell ⟨V,9,B⟩ (ab (E ⟨W5,0,B⟩) 1 1))
      have f6:Fr (Is (V:C)) W5 W6:=(by rw[h0];exact be (aw _ _) _);have q6:W6.heap[(V:C)]?=E (ag (ap ⟨0,0,(),N,zX,(),(),2,F,E ⟨W5,0,B⟩,1,1⟩) 48):=(by rw[h0];exact zE q5 9 _);have v5:(W6:C)=(W5:C):=(by rw[h0];simp);obtain⟨W7,j4,f7,-⟩:=zy W6 (ag #[zM,O] 78);have e7:W7.heap[(W5:C)]?=E (ag #[zM,O] 78):=(by rw[<-v5,j4];exact zF _ _);have q7:=f7.heap q6 id;have o7:Fr (Is (V:C)) W5 W7:=f6.step f7 zn;have HM:ah (∃ aa,ah (W7.heap[(V:C)]?=E (ag (ap (opG N F O aa)) 48)/\Atts W7 aa (cAtt O).length (cAtt O)/\BlkT W7 aa 78/\(∀ J,aa=E J->(W5:C)<=J.block))/\ah (Fr (Is (V:C)) W5 W7)):=by
       refine⟨E ⟨W5,0,B⟩,⟨by unfold opG;rw[HC.out];exact q7,?_,λJ e=>by cases e;exact⟨_,e7⟩,λJ e=>by cases e;exact da _⟩,o7⟩;rw[HC];exact⟨by simp,by unfold bh;simp,(λe=>by cases e),(λx hx=>by simp at hx;subst hx;exact⟨(by decide:zM.size<=bh),t8⟩),λJ e _=>by
        cases e;refine⟨rfl,zC e7,λi x hi=>?_⟩;rcases i with _|i
        .simp at hi;subst hi;exact⟨zB e7 0,zB e7 1⟩
        .simp at hi⟩
      unfold zM at j4;clear q5 q6 f6 f7 e7 q7 o7;go_wp2_with fail;rw[<-h0,<-j4];clear j4 h0 z9 y9;go_meet;exact HM
     .have HC:ah (cAtt O=[]):=(by unfold ah cAtt;simp[hve]);have HM:ah (∃ aa,ah (W5.heap[(V:C)]?=E (ag (ap (opG N F O aa)) 48)/\Atts W5 aa (cAtt O).length (cAtt O)/\BlkT W5 aa 78/\(∀ J,aa=E J->(W5:C)<=J.block))/\ah (Fr (Is (V:C)) W5 W5)):=by
       refine⟨B,⟨by unfold opG;rw[HC.out];exact q5,by rw[HC.out];exact Atts.nil _,BlkT.none _ _,λJ e=>by cases e⟩,aw _ _⟩
      clear q5;go_wp2;go_meet;exact HM
    case rest=>
     obtain⟨aa,j5,h7⟩:=hcut;obtain⟨W7,rfl⟩:=ε wc
     clear v0 v1 v2 q5;have b7:=h7.heap H5.1 (λh=>by omega);have k7:=h7.heap H5.2.1 (λh=>by omega);have p7:=h7.heap H5.2.2.1 (λh=>by omega);have q7:=j5.1;have D7:=h7.size;have X7:ah (Fr No w W7):=H5.2.2.2.step h7 (λb hb h=>by omega);have v0:W7 ⟨w,0,B⟩=E (ak vq):=zB b7 0;obtain⟨n,m6⟩:=ε ((cAtt O).length)
     have v6:=zh m6;have m7:opG N F O aa=⟨0,0,(),N,zX,(),(),2,F,aa,n,n⟩:=(by unfold opG;rw[m6]);have v7:=zh m7;rw[m7]at q7;clear m6 m7;obtain⟨c0,c1,c2,c3,c4,c5,c6,c7,c8,c9⟩:=DevB.of q7;obtain⟨W8,j6,f8,o8⟩:=zy W7 (ag (ocs 1 vq ⟨0,0,(),N,zX,(),(),2,F,aa,n,n⟩ () ()) 72);unfold ocs at j6;dsimp only at j6;go_upto_region 9 with(fail)
     rw[<-j6];clear j6 v0 c0 c1 c2 c3 c4 c5 c6 c7 c8 c9;have q8:=f8.heap q7 id;have b8:=f8.heap b7 id;have k8:=f8.heap k7 id;have p8:=f8.heap p7 id;have x8:=X7.step f8 zi;have s8:=f8.size;have D8:=zC o8;have j7:(w:C)≠(V:C)/\Bp≠(V:C)/\pb≠(V:C)/\(W7:C)≠(V:C):=by
      refine⟨?_,?_,?_,?_⟩<;>omega
     have h8:ah (Atts W8 aa (cAtt O).length (cAtt O)/\BlkT W8 aa 78/\∀ J,aa=E J->J.block≠(V:C)/\(w:C)<=J.block):=⟨j5.2.1.no f8 (λ_=>id),j5.2.2.1.fr f8 (λ_ _=>id),λJ e=>by have:=j5.2.2.2 J e;omega⟩
     clear q7 b7 k7 p7 f8;refine zO (Is (V:C)) [(0,aq),(1,aq),(2,aq),(3,aq),(4,aq),(5,aq),(6,aq),(7,au),(8,aq),(9,au),(10,aq),(11,au)] (λwa h9=>?_);have qa:=h9.heap q8 id;have ba:=h9.heap b8 id;have pa:=h9.heap p8 id;have t1:∀ g:Gr (Is (V:C)) wa,g.W ⟨w,1,B⟩=E (ak N):=λg=>zB (g.fr.heap ba (λh=>j7.1 h)) 1
     have t0:∀ g:Gr (Is (V:C)) wa,g.W ⟨Bp,0,B⟩=E (af ae p):=λg=>by rw[<-hB.2.1];exact zB (g.fr.heap pa (λh=>j7.2.1 h)) 0
     (repeat(first|apply zR rfl rfl rfl|apply zT rfl rfl rfl);intro K hK;go_big_quiet_op;go_big_quiet_on);clear t0 t1;apply zu rfl;have y:=zD qa 2;have z:wa ⟨V,2,B⟩=E (ak ()):=(DevB.of qa).c2;obtain⟨wb,d2⟩:=ε (wa.setCell ⟨V,2,B⟩ (ak N))
     have p0:Fr (Is (V:C)) wa wb:=(by rw[d2];exact be (aw _ _) _);have qb:wb.heap[(V:C)]?=E (ag (ap ⟨0,0,N,N,zX,(),(),2,F,aa,n,n⟩) 48):=(by rw[d2];exact zE qa 2 _);go_wp2_with fail;refine bf ⟨be (aw _ _) _,?_⟩;rw[<-d2];clear d2 y z qa;(repeat(first|apply zR rfl rfl rfl|apply zT rfl rfl rfl);intro K hK;go_big_quiet_op;go_big_quiet_on);apply zu rfl;have y:=zD qb 1;have z:wb ⟨V,1,B⟩=E (af ae 0):=(DevB.of qb).c1;obtain⟨wd,d3⟩:=ε (wb.setCell ⟨V,1,B⟩ (af ae p))
     have p3:Fr (Is (V:C)) wb wd:=(by rw[d3];exact be (aw _ _) _);have qd:wd.heap[(V:C)]?=E (ag (ap ⟨0,p,N,N,zX,(),(),2,F,aa,n,n⟩) 48):=(by rw[d3];exact zE qb 1 _);go_wp2_with fail;refine bf ⟨be (aw _ _) _,?_⟩;rw[<-d3];clear d3 y z qb;(repeat(first|apply zR rfl rfl rfl|apply zT rfl rfl rfl);intro K hK;go_big_quiet_op;go_big_quiet_on);apply zu rfl;have y:=zD qd 0;have z:wd ⟨V,0,B⟩=E (af ae 0):=(DevB.of qd).c0;obtain⟨W9,d4⟩:=ε (wd.setCell ⟨V,0,B⟩ (af ae (maxI ds+1)))
     have p9:Fr (Is (V:C)) wd W9:=(by rw[d4];exact be (aw _ _) _);have q9:W9.heap[(V:C)]?=E (ag (ap ⟨maxI ds+1,p,N,N,zX,(),(),2,F,aa,n,n⟩) 48):=(by rw[d4];exact zE qd 0 _);go_wp2_with fail;refine bf ⟨be (aw _ _) _,?_⟩;rw[<-d4];clear d4 y z qd;apply zb;have d0:Fr (Is (V:C)) W8 W9:=(((h9.mono zn).step p0 zi).step p3 zi).step p9 zi;have k9:=d0.heap k8 (λh=>j7.2.2.1 h);have o9:=d0.heap o8 (λh=>j7.2.2.2 h);have x9:Fr No w W9:=x8.step d0 (λb hb h=>by omega);have D9:=x9.size;have F0:=d0.size;have g1:ah (Atts W9 aa (cAtt O).length (cAtt O)/\BlkT W9 aa 78/\∀ J,aa=E J->(w:C)<=J.block):=⟨h8.1.fr d0 (λJ e _ h=>(h8.2.2 J e).1 h),h8.2.1.fr d0 (λJ e h=>(h8.2.2 J e).1 h),λJ e=>(h8.2.2 J e).2⟩
     clear q8 b8 k8 p8 o8 x8 h9 p0 p3 p9 d0 ba pa;obtain⟨D,hD⟩:=ε (newG ds p N F O aa)
     obtain⟨a8,a2⟩:=ε (insAt ds (insK ds D) D)
     have a3:InsPre ds D (cAtt O)/\Sized D/\(sameO ds D||ds.any (clP D))=aq/\TreeWf a8:=by
      rw[a2,hD,b6.1];exact o1.pre k b6.2.1.1 (by rw[<-b6.1];exact b6.2.2) aa
     have j8:D=⟨maxI ds+1,p,N,N,zX,(),(),2,F,aa,n,n⟩:=(by rw[hD];unfold newG;rw[v6]);obtain⟨m,hm⟩:=HE.len;have F1:=HE.sz;have j9:ah (∀ W,Fr No W9 W->bd ay 68 #[ar #[ab a ds a6],ar (ap ⟨maxI ds+1,p,N,N,zX,(),(),2,F,aa,n,n⟩)] W λe w'=>(∃ X Y A,e=.returned (.tuple #[ar #[ab X (A:R Dev).length Y],af ae 0])/\TMk W w' a8 X Y A)/\Fr No W w'):=λW hf=>by
      have hw:=x9.step hf zi;rw[<-j8];refine(zD0 a a6 ds a5 D (cAtt O) m W (Hl.no hw) a3.2.1 (by rw[hD];exact g1.1.no hf (λ_=>id)) (zC0 O) (by rw[hD];rfl) (by rw[hD];rfl) (by rw[hD];rfl) (by rw[hD];exact t9) (by rw[hD];exact dg (by show _/\_;unfold newG;dsimp only;omega)) a3.1 (hw.cell hm id) (by have:=hw.size;show 0<_;omega)).mono λe w' h=>⟨?_,h.2⟩
      rcases h.1 with h1|⟨_,X,Y,A,h2,h3,h4,h5,h6⟩
      .have:=h1.1;rw[a3.2.2.1]at this;cases this
      .exact⟨X,Y,A,h2,by rw[a2];exact⟨h3,h4,h5,h6⟩⟩
     have r0:ah (∀ z∈a8,∃ l,Atts W9 z.aa z.ac l/\z.an=l.length):=λz hz=>by
      rw[a2]at hz;rcases zV.1 hz with h|h
      .rw[h,hD];exact⟨_,g1.1,rfl⟩
      .have:=l7.out z h;exact⟨_,this.1.no x9 (λ_=>id),this.2⟩
     have v9:=zg4 hD a2 a3 j8;have i3:=zg2 o9 x9;have r1:=zh k9;have F2:=zC o9;unfold ap at j9;unfold zX at j9;clear hD a2 a3 j8 hm;go_upto_region 10 with(fail)
     go_cut [12,13] (λp7 v8 wx=>∃ B' X Y A,p7=ax (E ⟨B',0,B⟩)/\v8=af ae 0/\ah (wx.heap[B']?=E (ag #[ab X (bq A) Y] 39)/\TMk W9 wx a8 X Y A/\(W9:C)<=B')/\Fr No W9 wx);case first=>
      refine zZ (λb=>(W9:C)<=b) (.q 0 (.q 1 (.q 2 (.q 3 (.q 4 (.m2 5 (.q 6 (.q 7 (.q 8 (.m1 9 (.m1 10 (.q 11 .fin)))))) 9 (.m1 5 (.q 6 (.q 7 (.q 8 (.m1 10 (.q 11 .fin)))))))))))) _ (λWB i4=>?_) zj;have b1:=i4.heap q9 id;have p1:=i4.heap k9 id;have w1:=i4.size;have t0:∀ g:Gr (λb=>(W9:C)<=b) WB,g.W ⟨pb,0,B⟩=E (ab a ds a6):=λg=>zB (g.fr.heap p1 (λh=>by omega)) 0
      have cB:∀ g:Gr (λb=>(W9:C)<=b) WB,DevB g.W (V:C) ⟨maxI ds+1,p,N,N,zX,(),(),2,F,aa,n,n⟩:=λg=>DevB.of (g.fr.heap b1 (λh=>by omega))
      unfold zX at cB;have e0:=λg=>(cB g).c0
      have e1:=λg=>(cB g).c1
      have e2:=λg=>(cB g).c2
      have e3:=λg=>(cB g).c3
      have e4:=λg=>(cB g).c4
      have e5:=λg=>(cB g).c5
      have e6:=λg=>(cB g).c6
      have e7:=λg=>(cB g).c7
      have e8:=λg=>(cB g).c8
      have e9:=λg=>(cB g).c9
      have xB:=zh i4;clear cB b1 p1 i4;dsimp only at e0 e1 e2 e3 e4 e5 e6 e7 e8 e9;(repeat(first|apply zL rfl rfl rfl|apply zJ rfl rfl rfl);intro K hK;go_big_quiet_op;go_big_quiet_on);clear t0 e0 e1 e2 e3 e4 e5 e6 e7 e8 e9;refine zAB rfl rfl ?_ ?_
      focus
       have u:=j9.out WB xB;go_wp2_with fail;apply u.mono;rintro e wD ⟨⟨X,Y,A,rfl,hT⟩,k0⟩;have sD:=k0.size;have XD:ah (Fr No W9 wD):=xB.step k0 zi;have HT:=zh (hT.src xB r0);clear u hT;go_wp2_with fail;apply zm k0;(repeat(first|apply zL rfl rfl rfl|apply zJ rfl rfl rfl);intro K hK;go_big_quiet_op;go_big_quiet_on);apply zH rfl;obtain⟨WC,i5,fC,qC⟩:=zy wD (ag #[ab B 0 0] 39);go_wp2_with fail;apply zp;rw[<-i5];clear i5;have HF:ah (Fr No W9 WC/\TMk W9 WC a8 X Y A/\(W9:C)<=(wD:C)):=⟨XD.step fC zi,HT.no fC,by omega⟩
       clear fC k0;generalize (wD:C)=B' at *;apply zH rfl;have y0:=zD qC 0;have z0:WC ⟨B',0,B⟩=E (ab B 0 0):=zB qC 0;have fB:Fr (Is B') WC (WC.setCell ⟨B',0,B⟩ (ab X A.length Y)):=be (aw _ _) _;have HR:ah ((WC.setCell ⟨B',0,B⟩ (ab X A.length Y)).heap[B']?=E (ag #[ab X A.length Y] 39)/\TMk W9 (WC.setCell ⟨B',0,B⟩ (ab X A.length Y)) a8 X Y A/\(W9:C)<=B'):=⟨zE qC 0 _,HF.2.1.put fB qC (by decide) (by decide),HF.2.2⟩
       have HX:ah (Fr No W9 (WC.setCell ⟨B',0,B⟩ (ab X A.length Y))):=HF.1.step fB (λb hb h=>by have:=HF.2.2;omega)
      rotate_left 1
      focus
       obtain⟨WC,i5,fC,qB⟩:=zy WB (ag #[ab B 0 0] 39);go_wp2_with fail;apply zp;rw[<-i5];clear i5;have xC:=zh (xB.step fC zi);have u:=j9.out WC xC;apply zH rfl;go_wp2_with fail;apply u.mono;rintro e wE ⟨⟨X,Y,A,rfl,hT⟩,k3⟩;have qC:=k3.heap qB id;have HF:ah (Fr No W9 wE/\TMk W9 wE a8 X Y A/\(W9:C)<=(WB:C)):=⟨xC.step k3 zi,hT.src xC r0,w1⟩
       clear u hT qB fC;go_wp2_with fail;apply zm k3;clear k3;(repeat(first|apply zL rfl rfl rfl|apply zJ rfl rfl rfl);intro K hK;go_big_quiet_op;go_big_quiet_on);generalize (WB:C)=B' at *;apply zH rfl;have y0:=zD qC 0;have z0:wE ⟨B',0,B⟩=E (ab B 0 0):=zB qC 0;have fB:Fr (Is B') wE (wE.setCell ⟨B',0,B⟩ (ab X A.length Y)):=be (aw _ _) _;have HR:ah ((wE.setCell ⟨B',0,B⟩ (ab X A.length Y)).heap[B']?=E (ag #[ab X A.length Y] 39)/\TMk W9 (wE.setCell ⟨B',0,B⟩ (ab X A.length Y)) a8 X Y A/\(W9:C)<=B'):=⟨zE qC 0 _,HF.2.1.put fB qC (by decide) (by decide),HF.2.2⟩
       have HX:ah (Fr No W9 (wE.setCell ⟨B',0,B⟩ (ab X A.length Y))):=HF.1.step fB (λb hb h=>by have:=HF.2.2;omega)
      all_goals (
       have HB:ah ((W9:C)<=B'):=HF.2.2;clear fB qC;go_wp2_with fail;refine bf ⟨cc (aw _ _) (λ_=>HB) _,?_⟩;(repeat(first|apply zL rfl rfl rfl|apply zJ rfl rfl rfl);intro K hK;go_big_quiet_op;go_big_quiet_on);apply zW;go_wp2;go_meet;exact⟨B',X,Y,A,rfl,rfl,HR,HX⟩
       )
     case rest=>
      obtain⟨B',X,Y,A,rfl,rfl,m8,i6⟩:=hcut;obtain⟨WC,rfl⟩:=ε wc
      have A6:=m8.2.2;have kq:=i6.heap r1 id;have oq:=i6.heap i3.1 id;have tq:=m8.1;have sq:=i6.size;have F3:=zC tq;have l3:∀ b,(az ao no co).ownBlock=E b->b<(w:C):=λb h=>(zAF g4.1 h).2
      have r2:=zh i6;have k6:ah (∀ W3,Fr No WC W3->∀ w6 av cv,Fr (λb=>b=pb\/(az ao no co).ownBlock=E b) W3 w6->w6.heap[pb]?=E (ag #[ab X (bq A) Y,ab av (no+1) cv] 117)->w6.ownsRow rb 72 14 (ab av (no+1) cv) (no+1) (opF j2++(ocs 1 vq ⟨0,0,(),N,zX,(),(),2,F,aa,n,n⟩ () ()).toList)->AddR pb rb a5 w ds ct j2 no vq N O p w6/\Fr (λb=>b=pb\/(az ao no co).ownBlock=E b) w w6):=by
       intro W3 a9 w6 av cv l0 w3 w5;obtain⟨hD,a2,a3,j8⟩:=v9.out;have i7:=r2.step a9 zi;have i8:=i7.heap r1 id;have d5:=zG g4.1 (i3.2.step i7 zi) (λ_ _=>id);have hS:∀ b,(b=pb\/(az ao no co).ownBlock=E b)->∀ cs T,W3.heap[b]?=E (ag cs T (0,0))->T≠48/\T≠78:=λb hb cs T hc=>by
        rcases hb with rfl|hb
        .rw[i8]at hc;cases hc;exact⟨by decide,by decide⟩
        .by_cases hT:T=72;·subst hT;exact⟨by decide,by decide⟩
         .exact br hb (zK d5 hc hT)
       have b9:=(m8.2.1.no a9).fr l0 hS;have r3:=b9.cop.strip;have w7:Tr w6 a5 X Y A:=b9.cop.tr (λz hz=>by
        rw[a2]at hz;rcases zV.1 hz with h|h
        .rw[h];exact⟨a3.2.1,by rw[hD];rfl⟩
        .exact⟨(Hl.el z h).sz,(Hl.el z h).drv⟩) b9.dv (dd a3.2.2.2 r3) b9.fresh (by have:=g4.2.1;omega)
       have w8:TrT w6 X A:=λb hb=>by
        rcases hb with⟨J,e,rfl⟩|⟨z,hz,J,e,rfl⟩
        .obtain⟨q,hq⟩:=b9.bt J e;exact⟨q,_,hq,.inl rfl⟩
        .obtain⟨z0,_,g3⟩:=b9.cop.mem hz;obtain⟨q,hq⟩:=g3.typ J e;exact⟨q,_,hq,.inr rfl⟩
       have w9:CtO W9 a8 (updC ct (maxI ds+1) O):=λz hz=>by
        rw[a2]at hz;rcases zV.1 hz with h|h
        .rw[h];have e1:(λi=>cAtt (updC ct (maxI ds+1) O i)) D.index=cAtt O:=by rw[hD];show cAtt (updC ct (maxI ds+1) O (maxI ds+1))=_;unfold updC;rw[bg rfl]
         rw[e1,hD];exact⟨g1.1,rfl⟩
        .have x3:z.index≠maxI ds+1:=λe=>by
          have:=(zv.1 a3.1.new) z h;rw[hD]at this;exact this e
         have e1:(λi=>cAtt (updC ct (maxI ds+1) O i)) z.index=cAtt (ct z.index):=by show cAtt (updC ct (maxI ds+1) O z.index)=_;unfold updC;rw[bi x3]
         rw[e1];exact⟨(l7 z h).1.no i3.2 (λ_=>id),(l7 z h).2⟩
       have r4:BlkT W3 aa 78:=g1.2.1.fr i7 (λ_ _=>id);have r5:∀ J,aa=E J->¬ (J.block=pb\/(az ao no co).ownBlock=E J.block):=λJ e h=>by
        obtain⟨q,hq⟩:=r4 J e;exact(hS _ h _ _ hq).2 rfl
       refine⟨⟨k,aa,X,Y,A,av,cv,b6.2.1,by rw[<-b6.1];exact b6.2.2,w3,w7,by rw[<-b6.1,<-hD,<-a2];exact r3,?_,w8,w9.cop b9.cop,((g1.1.no i7 (λ_=>id)).fr l0 (λJ e _=>r5 J e)),r4.fr l0 r5,g1.2.2,λb hb=>?_⟩,((i3.2.step i7 zi).mono zn).step l0 (λb _ h=>h)⟩
       .rw[zFt,<-b6.1];unfold OpA.vals;dsimp only;rw[v7];exact w5
       .rcases hb with⟨J,e,rfl⟩|⟨z,hz,J,e,rfl⟩
        .have:=b9.fresh J e;omega
        .obtain⟨z0,_,g3⟩:=b9.cop.mem hz;have:=g3.fresh J e;omega
      clear i6;go_upto_region 12 with(fail)
      refine zZ (λb=>b=pb\/(az ao no co).ownBlock=E b\/(WC:C)<=b) (.q 0 (.q 1 (.q 2 (.q 3 (.q 4 (.q 6 (.q 9 (.m2 5 (.m1 7 (.m1 8 (.q 10 (.q 11 (.m1 12 (.q 13 (.q 14 (.m1 15 .fin)))))))) 7 (.m1 5 (.m1 8 (.q 10 (.q 11 (.m1 12 (.q 13 (.q 14 (.m1 15 .fin)))))))))))))))) _ (λW3 a9=>?_) zj;have i8:=a9.heap kq id;have o3:=a9.heap oq id;have t3:=a9.heap tq id;have d5:=zG g4.1 ((i3.2.step r2 zi).step a9 zi) (λ_ _=>id);have r6:=zK d5 i8 (by decide);have x6:=zh a9;have x7:ah ((w:C)<=(W3:C)):=(by have:=a9.size;unfold ah;omega);have r7:ah (rb<=(W3:C)):=(by have:=g4.2.2;have:=x7.out;unfold ah;omega);have cO:∀ g:Gr (λb=>b=pb\/(az ao no co).ownBlock=E b\/(WC:C)<=b) W3,OpB g.W (W7:C) 1 vq ⟨0,0,(),N,zX,(),(),2,F,aa,n,n⟩ () ():=λg=>OpB.of (g.fr.heap o3 (λh=>by rcases h with h|h|h<;>first|omega|(have:=l3 _ h;omega)))
      have c0:=λg=>(cO g).c0
      have c1:=λg=>(cO g).c1
      have c2:=λg=>(cO g).c2
      have c3:=λg=>(cO g).c3
      have c4:=λg=>(cO g).c4
      have c5:=λg=>(cO g).c5
      have c6:=λg=>(cO g).c6
      have c7:=λg=>(cO g).c7
      have c8:=λg=>(cO g).c8
      have c9:=λg=>(cO g).c9
      have r8:=λg=>(cO g).c10
      have r9:=λg=>(cO g).c11
      have s0:=λg=>(cO g).c12
      have s1:=λg=>(cO g).c13
      have t0:∀ g:Gr (λb=>b=pb\/(az ao no co).ownBlock=E b\/(WC:C)<=b) W3,g.W ⟨B',0,B⟩=E (ab X (bq A) Y):=λg=>zB (g.fr.heap t3 (λh=>by rcases h with h|h|h<;>first|omega|(have:=l3 _ h;omega))) 0
      clear cO o3 t3 a9;dsimp only at c0 c1 c2 c3 c4 c5 c6 c7 c8 c9 r8 r9 s0 s1;(repeat(first|apply zL rfl rfl rfl|apply zJ rfl rfl rfl);intro K hK;go_big_quiet_op;go_big_quiet_on);clear t0 c0 c1 c2 c3 c4 c5 c6 c7 c8 c9 r8 r9 s0 s1;have c5:W3 ⟨pb,1,B⟩=E (ab ao no co):=zB i8 1;refine zAB rfl rfl ?_ ?_
      focus
       go_wp2_with fail;apply zq;apply zH rfl;clear c5;go_wp2_with fail;apply zp
      rotate_left 1
      focus
       go_wp2_with fail;apply zp;apply zH rfl;have c7:∀ o,(W3.alloc o) ⟨pb,1,B⟩=E (ab ao no co):=λo=>((aw No W3).alloc o).cell c5 id
       clear c5;go_wp2_with fail;apply zq;clear c7
      all_goals (
       apply zH rfl;go_wp2_with (at_builtin;refine wpList_append_own_at _ rfl _ _ 79 rfl rb 72 i0 (ar #[af ae 0,bm,af ae 0,af ae 0,bm,bm,bm,bm,bm,af ae 0,af ae 0,ab B 0 0,bm,bm]) 14 192 Tryz.underlying79 s7 g3 s9 t7 rfl (by decide) _ _ _ rfl (zG d5 ((aw No W3).alloc _) (λ_ _=>id)) ⟨W3,0,B⟩ 1 1 (ocs 1 vq ⟨0,0,(),N,zX,(),(),2,F,aa,n,n⟩ () ()).toList rfl rfl (zl _ (ocs 1 vq ⟨0,0,(),N,zX,(),(),2,F,aa,n,n⟩ () ()) _ rfl) (zDG _ _ _ _ _) (by unfold bh;omega) (by omega) (by have:=r7.out;rw[cb];omega) ?_;intro v' i9 a4 d6 _ s2;obtain⟨m9,n3,rfl⟩:=zI a4)
       have s3:Fr No W3 (W3.alloc (ag (ocs 1 vq ⟨0,0,(),N,zX,(),(),2,F,aa,n,n⟩ () ()) 72)):=(aw _ _).alloc _;have n4:Fr (λb=>(az ao no co).ownBlock=E b) (W3.alloc (ag (ocs 1 vq ⟨0,0,(),N,zX,(),(),2,F,aa,n,n⟩ () ()) 72)) i9:=Fr.of_grown d6;have n5:Fr (λb=>(az ao no co).ownBlock=E b) W3 i9:=(s3.mono zn).step n4 (λb _ h=>h);have g2:=n5.heap i8 r6;have f1:=zD g2 1;have z1:i9 ⟨pb,1,B⟩=E (ab ao no co):=zB g2 1;refine bf ⟨n4.mono (λb _ h=>.inr (.inl h)),?_⟩;(repeat(first|apply zL rfl rfl rfl|apply zJ rfl rfl rfl);intro K hK;go_big_quiet_op;go_big_quiet_on);apply zH rfl;obtain⟨d1,d7⟩:=ε (i9.setCell ⟨pb,1,B⟩ (ab m9 (no+1) n3))
       have g5:Fr (Is pb) i9 d1:=(by rw[d7];exact be (aw _ _) _);have j0:d1.heap[pb]?=E (ag #[ab a ds a6,ab m9 (no+1) n3] 117):=(by rw[d7];exact zE g2 1 _);go_wp2_with fail;refine bf ⟨cc (aw _ _) (λ_=>.inl rfl) _,?_⟩;rw[<-d7];clear d7 f1 z1;(repeat(first|apply zL rfl rfl rfl|apply zJ rfl rfl rfl);intro K hK;go_big_quiet_op;go_big_quiet_on);apply zH rfl;have f0:=zD j0 0;have z0:d1 ⟨pb,0,B⟩=E (ab a ds a6):=zB j0 0;obtain⟨j1,d8⟩:=ε (d1.setCell ⟨pb,0,B⟩ (ab X (bq A) Y))
       have g6:Fr (Is pb) d1 j1:=(by rw[d8];exact be (aw _ _) _);have s6:j1.heap[pb]?=E (ag #[ab X (bq A) Y,ab m9 (no+1) n3] 117):=(by rw[d8];exact zE j0 0 _);go_wp2_with fail;refine bf ⟨cc (aw _ _) (λ_=>.inl rfl) _,?_⟩;rw[<-d8];clear d8 f0 z0;apply zW;have A0:ah (Fr (λb=>b=pb\/(az ao no co).ownBlock=E b) W3 j1):=((n5.mono (λb _ h=>.inr h)).step g5 (λb _ h=>.inl h)).step g6 (λb _ h=>.inl h);have A1:=zh s6;have A2:=zh (zG (zG a4 g5 (λb hb h=>zK a4 g2 (by decide) (by unfold Is at h;rw[<-h];exact hb))) g6 (λb hb h=>zK (zG a4 g5 (λb hb h=>zK a4 g2 (by decide) (by unfold Is at h;rw[<-h];exact hb))) j0 (by decide) (by unfold Is at h;rw[<-h];exact hb)));clear a4 d6 s2 n4 s3 n5 g2 j0 g5 g6 s6;go_wp2;go_end0;exact⟨rfl,k6 W3 x6 _ _ _ A0 A1 A2⟩
       )
theorem zP2 (pb a4:C)(a:al am)(X:C)(ds:R Dev)(v1:bj)(J vo vc:a0)(vr p:G)(dt:Dev)(w:aj)(hl:Tr w a4 a X ds)(hn:(ds:C)<=250)(a5:w.heap[pb]?=E (ag #[ab a ds X,v1] 117))
  (hp:ParIs ds J p) (a9:ds.find? (atP ds (J++(⟨#[47]⟩:a0)++vo))=E dt) (hq:J.size<=100000) (ho:vo.size<=100000):
  bd ay 51 #[ax (E ⟨pb,0,B⟩),ar #[J,vo,vc,vr]] w λe w'=>e=.returned (.tuple #[])/\Fr No w w':=by
 obtain⟨W0,b2,x0,b0⟩:=zy w (ag #[J,vo,vc,vr] 52);have a6:=x0.heap a5 id;have d2:=zC a5;have b3:=λ(s:a0) (W:aj) (hf:Fr No w W)=>zD1 a X ds a4 s W (hl.no hf) (by omega)
 have a2:=zh b3;have Hp:=zh hp;have a3:=zh a9;clear b3 hl a5 hp a9;have d3:(J++(⟨#[47]⟩:a0)).size<=9223372036854775807:=by rw[ByteArray.size_append];show J.size+1<=_;omega
 have d4:(J++(⟨#[47]⟩:a0)++vo).size<=9223372036854775807:=by rw[ByteArray.size_append,ByteArray.size_append];show J.size+1+vo.size<=_;omega
 go_enter de,df;go_upto_region 1 with(fail)
 rw[<-b2];clear b2;go_cut [4,5] (λp4 b5 wx=>∃ Bp I V,p4=ax (E ⟨Bp,0,B⟩)/\b5=.bool V/\ah (wx.heap[Bp]?=E (ag (ap I) 48)/\I.index=p/\(V=au\/J=())/\(w:C)<Bp)/\Fr No W0 wx);case first=>
  refine zZ (λb=>(W0:C)<=b) (.q 0 (.q 1 (.q 2 (.q 3 (.q 4 (.q 5 (.m2 6 (.q 7 (.q 8 (.q 9 (.m1 10 (.m1 11 (.q 12 .fin)))))) 10 (.m1 6 (.q 7 (.q 8 (.q 9 (.m1 11 (.q 12 .fin))))))))))))) _ (λW1 y=>?_) zj;have b1:=y.heap b0 id;have k1:=y.heap a6 id;have b9:=zC b0;have t0:∀ g:Gr (λb=>(W0:C)<=b) W1,g.W ⟨pb,0,B⟩=E (ab a ds X):=λg=>zB (g.fr.heap k1 (λh=>by omega)) 0
  have t1:∀ g:Gr (λb=>(W0:C)<=b) W1,g.W ⟨w,0,B⟩=E (ak J):=λg=>zB (g.fr.heap b1 (λh=>by omega)) 0
  have b4:=y.size;have x1:=zh (x0.step y zi);(repeat(first|apply zL rfl rfl rfl|apply zJ rfl rfl rfl);intro K hK;go_big_quiet_op;go_big_quiet_on);clear t0 t1;refine zAB rfl rfl ?_ ?_
  focus
   have o:=a2.out J W1 x1;go_wp2_with fail;apply o.mono;rintro e w2 ⟨hF,z⟩;clear o;obtain⟨I,V,rfl,Y,Z⟩:∃ I V,e=.returned (.tuple #[ar (ap I),.bool V])/\I.index=p/\(V=au\/J=()):=by
    rcases hF with⟨u,rfl⟩|⟨d,a',c',l',u,rfl,_⟩
    .rcases Hp.out with⟨_,F,h3⟩|⟨d,F,_⟩
     .exact⟨bo,aq,rfl,h3.symm,.inr F⟩
     .rw[u]at F;cases F
    .rcases Hp.out with⟨F,_⟩|⟨d',F,h3⟩
     .rw[u]at F;cases F
     .rw[u]at F;cases F;exact⟨{ d with aa:=a',ac:=c' },au,rfl,h3.symm,.inl rfl⟩
   have a7:=zg2 Y Z;clear Y Z;unfold ap;go_wp2_with fail;apply zm z;(repeat(first|apply zL rfl rfl rfl|apply zJ rfl rfl rfl);intro K hK;go_big_quiet_op;go_big_quiet_on);apply zH rfl;obtain⟨W3,A,N,O⟩:=zy w2 (ag #[af ae 0,af ae 0,(),(),(),(),(),af ae 0,af ae 0,ab B 0 0] 48);have HX:ah (Fr No W0 W3):=(y.step z zi).step N zi;have d0:=z.size;go_wp2_with fail;apply zp;rw[<-A];clear A N
  rotate_left 1
  focus
   obtain⟨W3,A,N,q2⟩:=zy W1 (ag #[af ae 0,af ae 0,(),(),(),(),(),af ae 0,af ae 0,ab B 0 0] 48);go_wp2_with fail;apply zp;rw[<-A];clear A;have o:=a2.out J W3 (x1.step N zi);apply zH rfl;go_wp2_with fail;apply o.mono;rintro e w2 ⟨hF,z⟩;clear o;obtain⟨I,V,rfl,Y,Z⟩:∃ I V,e=.returned (.tuple #[ar (ap I),.bool V])/\I.index=p/\(V=au\/J=()):=by
    rcases hF with⟨u,rfl⟩|⟨d,a',c',l',u,rfl,_⟩
    .rcases Hp.out with⟨_,F,h3⟩|⟨d,F,_⟩
     .exact⟨bo,aq,rfl,h3.symm,.inr F⟩
     .rw[u]at F;cases F
    .rcases Hp.out with⟨F,_⟩|⟨d',F,h3⟩
     .rw[u]at F;cases F
     .rw[u]at F;cases F;exact⟨{ d with aa:=a',ac:=c' },au,rfl,h3.symm,.inl rfl⟩
   have a7:=zg2 Y Z;clear Y Z;unfold ap;have O:=z.heap q2 id;have HX:ah (Fr No W0 w2):=(y.step N zi).step z zi;clear q2 N;go_wp2_with fail;apply zm z;(repeat(first|apply zL rfl rfl rfl|apply zJ rfl rfl rfl);intro K hK;go_big_quiet_op;go_big_quiet_on)
  all_goals (
   apply zH rfl;obtain⟨z0,z1,z2,z3,z4,z5,z6,z7,z8,z9⟩:=DevB.of (d:=⟨0,0,(),(),(),(),(),0,0,B,0,0⟩) O;obtain⟨y0,y1,y2,y3,y4,y5,y6,y7,y8,y9⟩:=DevF.of O;have U:=zh (zA6 O rfl I);have d1:=zC O;clear O;go_wp2_with fail;refine bf ⟨U.2.mono (λb _ h=>by omega),?_⟩;(repeat(first|apply zL rfl rfl rfl|apply zJ rfl rfl rfl);intro K hK;go_big_quiet_op;go_big_quiet_on);apply zW;go_wp2;go_meet;exact⟨_,I,V,rfl,rfl,⟨U.1,a7.1,a7.2,by omega⟩,(HX.step U.2 (λb hb h=>by omega))⟩
   )
 case rest=>
  obtain⟨Bp,I,V,rfl,rfl,hB,y⟩:=hcut;have a8:Fr No w wc:=x0.step y zi;have b6:=y.heap b0 id;have b8:=y.heap a6 id;have p1:=hB.1;have b9:=zC b0;have b4:=y.size;have d5:=zC p1;have d6:=hB.2.2.2;clear b0 a6 y;go_upto_region 2 with(fail)
  go_cut [6,7] (λp6 b7 wx=>(∃ Bq,p6=ax (E ⟨Bq,0,B⟩))/\b7=.bool au/\Fr No wc wx);case first=>
   refine zZ (λb=>(wc:C)<=b) (.q 0 (.q 1 (.q 2 (.q 3 (.q 4 (.q 5 (.q 6 (.q 7 (.q 8 (.q 9 (.m2 10 (.q 11 (.q 12 (.q 13 (.m1 14 (.m1 15 (.q 16 .fin)))))) 14 (.m1 10 (.q 11 (.q 12 (.q 13 (.m1 15 (.q 16 .fin))))))))))))))))) _ (λW1 y=>?_) zj;have b1:=y.heap b6 id;have k1:=y.heap b8 id;have t0:∀ g:Gr (λb=>(wc:C)<=b) W1,g.W ⟨pb,0,B⟩=E (ab a ds X):=λg=>zB (g.fr.heap k1 (λh=>by omega)) 0
   have t1:∀ g:Gr (λb=>(wc:C)<=b) W1,g.W ⟨w,0,B⟩=E (ak J):=λg=>zB (g.fr.heap b1 (λh=>by omega)) 0
   have t2:∀ g:Gr (λb=>(wc:C)<=b) W1,g.W ⟨w,1,B⟩=E (ak vo):=λg=>zB (g.fr.heap b1 (λh=>by omega)) 1
   have b4:=y.size;have x1:=zh (a8.step y zi);(repeat(first|apply zL rfl rfl rfl|apply zJ rfl rfl rfl);intro K hK;go_big_quiet_op;go_big_quiet_on);clear t0 t1 t2;refine zAB rfl rfl ?_ ?_
   focus
    have o:=a2.out (J++(⟨#[47]⟩:a0)++vo) W1 x1;go_wp2_with fail;apply o.mono;rintro e w2 ⟨hF,z⟩;clear o;obtain⟨I,rfl⟩:∃ I,e=.returned (.tuple #[ar (ap I),.bool au]):=by
     rcases hF with⟨u,rfl⟩|⟨d,a',c',l',u,rfl,_⟩
     .rw[a3.out]at u;cases u
     .rw[a3.out]at u;cases u;exact⟨{ dt with aa:=a',ac:=c' },rfl⟩
    unfold ap;go_wp2_with fail;apply zm z;(repeat(first|apply zL rfl rfl rfl|apply zJ rfl rfl rfl);intro K hK;go_big_quiet_op;go_big_quiet_on);apply zH rfl;obtain⟨W3,A,N,O⟩:=zy w2 (ag #[af ae 0,af ae 0,(),(),(),(),(),af ae 0,af ae 0,ab B 0 0] 48);have HX:ah (Fr No wc W3):=(y.step z zi).step N zi;have d0:=z.size;go_wp2_with fail;apply zp;rw[<-A];clear A N
   rotate_left 1
   focus
    obtain⟨W3,A,N,q2⟩:=zy W1 (ag #[af ae 0,af ae 0,(),(),(),(),(),af ae 0,af ae 0,ab B 0 0] 48);go_wp2_with fail;apply zp;rw[<-A];clear A;have o:=a2.out (J++(⟨#[47]⟩:a0)++vo) W3 (x1.step N zi);apply zH rfl;go_wp2_with fail;apply o.mono;rintro e w2 ⟨hF,z⟩;clear o;obtain⟨I,rfl⟩:∃ I,e=.returned (.tuple #[ar (ap I),.bool au]):=by
     rcases hF with⟨u,rfl⟩|⟨d,a',c',l',u,rfl,_⟩
     .rw[a3.out]at u;cases u
     .rw[a3.out]at u;cases u;exact⟨{ dt with aa:=a',ac:=c' },rfl⟩
    unfold ap;have O:=z.heap q2 id;have HX:ah (Fr No wc w2):=(y.step N zi).step z zi;clear q2 N;go_wp2_with fail;apply zm z;(repeat(first|apply zL rfl rfl rfl|apply zJ rfl rfl rfl);intro K hK;go_big_quiet_op;go_big_quiet_on)
   all_goals (
    apply zH rfl;obtain⟨z0,z1,z2,z3,z4,z5,z6,z7,z8,z9⟩:=DevB.of (d:=⟨0,0,(),(),(),(),(),0,0,B,0,0⟩) O;obtain⟨y0,y1,y2,y3,y4,y5,y6,y7,y8,y9⟩:=DevF.of O;have U:=zh (zA6 O rfl I);have d1:=zC O;clear O;go_wp2_with fail;refine bf ⟨U.2.mono (λb _ h=>by omega),?_⟩;(repeat(first|apply zL rfl rfl rfl|apply zJ rfl rfl rfl);intro K hK;go_big_quiet_op;go_big_quiet_on);apply zW;go_wp2;go_meet;exact⟨⟨_,rfl⟩,rfl,HX.step U.2 (λb hb h=>by omega)⟩
    )
  case rest=>
   obtain⟨⟨Bq,rfl⟩,rfl,z⟩:=hcut;have HX:=zh (a8.step z zi);clear a8 b6 b8 p1 z;go_wp2_with fail;refine bodyPost_ret (v:=.tuple #[]) (by simp[results,Tryz.results51,go_sem]) rfl ?_;exact⟨rfl,HX⟩
theorem zEG:ParIs (ds.map strip) s p↔ParIs ds s p:=by
 unfold ParIs;rw[zCX];cases h:ds.find? (atP ds s)with
 | none=>simp
 | some d=>
  constructor
  .rintro (⟨o,_⟩|⟨e,o,u⟩);·cases o
   .cases o;exact .inr ⟨d,rfl,u⟩
  .rintro (⟨o,_⟩|⟨e,o,u⟩);·cases o
   .cases o;exact .inr ⟨strip d,rfl,u⟩
theorem zDz (ds:R Dev)(n:G):usedF (ds.map strip) n=usedF ds n:=by unfold usedF;rw[cl];rfl
theorem zFy (ds:R Dev):maxI (ds.map strip)=maxI ds:=by unfold maxI;rw[cq];rfl
theorem zLD (ds:R Dev)(d:Dev):newO (ds.map strip) d=newO ds d:=by unfold newO;rw[zAH]
theorem zET (ds:R Dev)(d:Dev):insK (ds.map strip) d=insK ds d:=zIw (ds:=ds) d
theorem zFA (ds:R Dev)(d:Dev):sameO (ds.map strip) d=sameO ds d:=zKm (ds:=ds) d
theorem zGG (ds:R Dev)(d:Dev):(ds.map strip).any (clP d)=ds.any (clP d):=zDQ (ds:=ds) d
theorem zIm (ds:R Dev)(p:G)(o:a0)(h:G)(u:a0)(v:al am):newG (ds.map strip) p o h u v=newG ds p o h u v:=by unfold newG;rw[zFy]
theorem zFI {l:R (a0×a0)}(h:InsPre (ds.map strip) d l):InsPre ds d l:=by
 refine⟨h.snd,?_,?_,?_,?_⟩;·have:=h.new;rw[zBC]at this;simpa using this
 .have:=h.par;rw[zBC]at this;simpa using this
 .have:=h.len;rw[bc]at this;exact this
 .have:=h.dep;rw[zLD]at this;exact this
theorem AddOk.map {y z A:a0}(h:AddOk (ds.map strip) y z A p):AddOk ds y z A p:=by
 refine⟨zEG.1 h.par,?_,h.pw,h.q,h.o,h.c,λd J=>h.nw (strip d) (cx J),by have:=h.mx;rw[zFy]at this;exact this,λk N O U=>?_⟩;·have:=h.no;rw[zCX]at this;simpa using this
 .obtain⟨F,I,u,v⟩:=h.pre k (by rw[bc];exact N) (by rw[zDz];exact O) U;rw[zIm]at F I u v;rw[zFA,zGG]at u;rw[zET]at v;refine⟨zFI F,I,u,dd v ?_⟩;unfold insAt;simp only[bs,bw,cg,cf,bu];rfl
theorem zHY (M:R Vir)(ds:R Dev)(ct:G->a0)(s:(G->a0)×R OpA)(d:Dev):zAa M (ds.map strip) ct s d=zAa M ds ct s d:=by
 unfold zAa;rw[zAM,zAH,zAH]
theorem zMj (M:R Vir)(ds:R Dev)(ct:G->a0)(h:R OpA)(k:C):setF M (ds.map strip) ct h k=setF M ds ct h k:=by
 unfold setF;rw[<-bw,cq]
 congr 1
 funext s d
 rw[zHY];rfl
theorem SetOk.map (h:SetOk M (ds.map strip) ct):SetOk M ds ct:=λd u=>by
 obtain⟨v,o,y⟩:=h (strip d) (cx u);rw[zDQ]at o;refine⟨v,o,λz=>?_⟩;have:=y (by rw[zAM];exact z);rw[zAH]at this;exact⟨⟨this.1.rng,this.1.named,this.1.same,this.1.num,this.1.attrs,this.1.link⟩,this.2⟩
def DistP (M:R Vir):Prop:=M.Pairwise λx y=>(x.q,x.o)≠(y.q,y.o)
theorem zNY (h:DistP (M++[v])):inW M v.q v.o=false:=by
 unfold inW;rw[List.any_eq_false];intro x u;have:=(List.pairwise_append.1 h).2.2 x u v (by simp)
 simpa using this
theorem zDx (h:DistP M)(y:v∈M):wantG M (v.q,v.o)=E (ar v.vals):=by
 unfold wantG;have:M.find? (λx=>decide ((x.q,x.o)=(v.q,v.o)))=E v:=by
  induction M with
  | nil=>cases y
  | cons x t z=>
   rw[List.find?_cons];by_cases e:(x.q,x.o)=(v.q,v.o)
   .rcases List.mem_cons.1 y with u|u
    .subst u;simp
    .exact br e ((List.pairwise_cons.1 h).1 v u)
   .rw[decide_eq_false e];rcases List.mem_cons.1 y with u|u
    .subst u;exact br rfl e
    .exact z (List.pairwise_cons.1 h).2 u
 rw[this];rfl
theorem zE6 {p:a0×a0}(h:∀ v∈M,(v.q,v.o)≠p):wantG M p=none:=by
 unfold wantG;have:M.find? (λx=>decide ((x.q,x.o)=p))=none:=by
  rw[cn];intro x u
  simpa using h x u
 rw[this];rfl
theorem zKK (h:DistP M):wantG M.reverse=wantG M:=by
 have A:DistP M.reverse:=by
  unfold DistP;rw[cz];exact h.imp λy e=>y e.symm
 funext p
 by_cases z:∃ v∈M,(v.q,v.o)=p
 .obtain⟨v,u,rfl⟩:=z;rw[zDx h u,zDx A (by simpa using u)]
 .rw[zE6 λv u e=>z ⟨v,u,e⟩,zE6 λv u e=>z ⟨v,by simpa using u,e⟩]
attribute [local go_sem] Oper.semAt_some
theorem zDt {F:Fence}{nF:C}{w:aj}{I:Array Oper}{A:R Oper}{o:Oper}{a:Act}{Q:Exit->Act->aj->Prop}(hg:o.guard=B)(m x v:Operand)(t e:TypeId)(Y:o.op=Op.mapUpdate t m x v)(ht:Tryz.prog.underlying t=E (.map 114 e))
  (J:C) (g:a0×a0->al bj) (N:C) (hN:N<bh) (s:a0) (n:a0) (hs:s.size<=bh) (hn:n.size<=bh) (u:bj) (hm:a.eval m=.map (E J)) (O:QMap w J g N) (hx:a.eval x=ar #[.string s,.string n]) (U:a.eval v=u)
  (hK:∀ w',QMap w' J (updQ g (s,n) u) (N+1)->Fr (Is J) w w'->wpListIn F nF ay I Q A (a.put o.dst ai) w'):wpListIn F nF ay I Q (o::A) a w:=by
 obtain⟨D,k,hk,Z,hh⟩:=O;refine wpListIn_mapUpdate_own w hg m x v t Y 114 e lawQ ht heldV J k D hm Z (by omega) _ _ _ hx U (keyQ hs hn) (.held u) [] rfl (λw' h h'=>hK w' ⟨_,k+1,by omega,h,λy hy V=>?_⟩ (Fr.of_grown_some h'));obtain⟨h1,h2⟩:=hh y hy V;unfold updQ;by_cases e:y=(s,n)
 .subst e;rw[bg rfl];exact⟨by rw[has_put_same Z.isMap (zF5 _) _];rfl,λv U z=>by cases U;rw[atKey_put_same Z.isMap (zF5 _) _ _]⟩
 .rw[bi e];have X:aqL y≠aqL (s,n):=λhe=>e (zMF hy V hs hn he)
  exact⟨by rw[has_put_other X];exact h1,λv U z=>by rw[atKey_put_other X];exact h2 v U z⟩
theorem zIY {α:Type}(L:R α):(revR L).map bv=L.reverse:=by
 unfold revR;rw[bu,List.map_reverse]
 congr 1
 show L.zipIdx.map Prod.fst=L
 exact List.zipIdx_map_fst ..
theorem zNX {pre:R (G×Vir)}{x:G×Vir}(h:DistP M)(v:pre++[x] <+: revR M):DistP (pre.map bv++[x.2]):=by
 have y:DistP M.reverse:=by
  unfold DistP;rw[cz];exact h.imp λo e=>o e.symm
 have u:(pre++[x]).map bv <+: M.reverse:=by rw[<-zIY];exact v.map _
 rw[bs]at u;exact y.sublist u.sublist
def OpsOk (W:aj)(b:C)(ops:R OpA):Prop:=∀ o∈ops,Atts W o.x.aa o.x.ac (cAtt o.c)/\o.x.an=(cAtt o.c).length/\BlkT W o.x.aa 78/\∀ ad,o.x.aa=E ad->b<=ad.block
theorem zOt (M:R Vir)(ds:R Dev)(pre:R (G×Dev)):∀ o∈(remF M ds pre).2,o.x=ZD/\o.c=():=by
 have h:∀ (pre:R (G×Dev)) (s:R Dev×R OpA),(∀ o∈s.2,o.x=ZD/\o.c=())->∀ o∈(pre.foldl (λs x=>zAO M s x.2) s).2,o.x=ZD/\o.c=():=by
  intro pre
  induction pre with
  | nil=>intro s h;exact h
  | cons x t v=>
   intro s h;apply v _;show ∀ o∈(zAO M s x.2).2,o.x=ZD/\o.c=()
   unfold zAO;split
   .intro o y;rcases List.mem_append.1 y with u|u
    .exact h o u
    .simp only[ch]at u;subst u;exact⟨rfl,rfl⟩
   .exact h
 exact h pre _ (by simp)
theorem zOo (y:∀ o∈u,o.x=ZD/\o.c=())(k:C):∀ o∈(setF M ds ct u k).2,o.x=ZD/\o.c=():=by
 have h:∀ (l:R Dev) (s:(G->a0)×R OpA),(∀ o∈s.2,o.x=ZD/\o.c=())->∀ o∈(l.foldl (zAa M ds ct) s).2,o.x=ZD/\o.c=():=by
  intro l
  induction l with
  | nil=>intro s h;exact h
  | cons x t z=>
   intro s h;apply z _;unfold zAa;split
   .intro o A;rcases List.mem_append.1 A with v|v
    .exact h o v
    .simp only[ch]at v;subst v;exact⟨rfl,rfl⟩
   .exact h
 exact h _ _ y
theorem zL5: cAtt ()=[]:=by
 unfold cAtt
 first
 | rfl
 | (rw[bg (by decide)];done)
 | (rw[bg (by rw[cj,ByteArray.toList.loop];rfl)];done)
 | simp[cj,ByteArray.toList.loop]
theorem OpsOk.zd (h:∀ o∈u,o.x=ZD/\o.c=()):OpsOk W b u:=λo v=>by
 obtain⟨y,z⟩:=h o v;rw[y,z,zL5];exact⟨Atts.nil W,rfl,BlkT.none _ _,λ_ e=>by cases e⟩
theorem OpsOk.fr {S:C->Prop}{y:aj}{v:R OpA}(h:OpsOk W b v)(z:Fr S W y)(I:∀ c x,W.heap[c]?=E (ag x 78 (0,0))->¬ S c):OpsOk y b v:=λo J=>by
 obtain⟨N,O,A,U⟩:=h o J;have F:∀ u,o.x.aa=E u->¬ S u.block:=λu e=>by
  obtain⟨cs,V⟩:=A u e;exact I _ _ V
 exact⟨N.fr z (λu e _=>F u e),O,A.fr z F,U⟩
structure PlG (w2:aj)(mb bx:C)(pre:R (G×Vir))(V:C->Prop)(W:aj):Prop where
 box:W.heap[bx]?=E (ag #[.map (E mb)] 83)
 map:QMap W mb (wantG (pre.map bv)) (pre:C)
 foot:∀ b,V b↔b=mb
 fr:Fr (λb=>b=mb\/(w2:C)<=b) w2 W
def zBy (L:R Dev)(ct:G->a0)(ops:R OpA)(v:Vir)(L':R Dev)(ct':G->a0)(ops':R OpA):Prop:=
 ((∃ dt,L.find? (atP L (v.q++(⟨#[47]⟩:a0)++v.o))=E dt)/\L'=L/\ct'=ct/\ops'=ops)\/
 (L.find? (atP L (v.q++(⟨#[47]⟩:a0)++v.o))=B/\∃ (k:C) (aa:al am) (p:G),(k<=(L:C)/\∀ i:C,i<k->usedF L (1048576+(i:G))=au)/\usedF L (1048576+(k:G))=aq/\ParIs L v.q p/\
  L'=insAt L (insK L (newG L p v.o (1048576+(k:G)) v.c B)) (strip (newG L p v.o (1048576+(k:G)) v.c B))/\ct'=updC ct (maxI L+1) v.c/\ops'=ops++[⟨1,v.q,opG v.o (1048576+(k:G)) v.c aa,(),(),v.c⟩])
structure AddI (w3:aj)(rb pb base b0:C)(Inv:C->R Dev->(G->a0)->R OpA->Prop)(j:C)(W:aj):Prop where
 st:∃ (a1:al am) (c1:C) (cs:R Dev) (ao:al am) (co:C) (ct:G->a0) (ops:R OpA),W.heap[pb]?=E (ag #[ab a1 cs c1,ab ao ops co] 117)/\Tr W base a1 c1 cs/\W.ownsRow rb 72 14 (ab ao ops co) (ops:C) (opF ops)/\TrT W a1 cs/\CtO W cs ct/\OpsOk W b0 ops/\Inv j (cs.map strip) ct ops
 fr:Fr (λb=>b=pb\/rb<=b) w3 W
theorem zMM {w3:aj}{rb J z b0:C}{N:C->R Dev->(G->a0)->R OpA->Prop}{j:C}{w6:aj}{v:Vir}{p:G}{a1:al am}{c1:C}{cs:R Dev}{ao:al am}{co:C}{ct:G->a0}(a4:W.heap[J]?=E (ag #[ab a1 cs c1,ab ao u co] 117))(A:W.ownsRow rb 72 14 (ab ao u co) (u:C) (opF u))(a5:OpsOk W b0 u)(hf:Fr (λb=>b=J\/rb<=b) w3 W)
  (hR:AddR J rb z W cs ct u (u:C) v.q v.o v.c p w6) (O:Fr (λb=>b=J\/(az ao u co).ownBlock=E b) W w6) (a6:b0<=(W:C)) (U:AddOk (cs.map strip) v.q v.o v.c p)
  (hN:∀ L' V F,zBy (cs.map strip) ct u v L' V F->N (j+1) L' V F):AddI w3 rb J z b0 N (j+1) w6:=by
 obtain⟨k,aa,a2,c2,a7,a8,a9,hk,hu,X,b1,Y,I,Z,a3,b2,b3,b4,_⟩:=hR;refine⟨⟨a2,c2,a7,a8,a9,updC ct (maxI cs+1) v.c,u++[⟨1,v.q,opG v.o (1048576+(k:G)) v.c aa,(),(),v.c⟩],by simpa using X,b1,by simpa using I,Z,a3,?_,?_⟩,hf.step O (λb _ h=>h.imp_right λh=>(zAF A h).1)⟩
 .intro o ho;rcases List.mem_append.1 ho with h'|h'
  .refine a5.fr O (λc x hc h=>?_) o h';rcases h with h|h
   .subst h;rw[a4]at hc;cases hc
   .obtain⟨ad,rfl,rfl⟩:=zBc h;obtain⟨y,hy⟩:=zAI A ad rfl;rw[hy]at hc;cases hc
  .simp only[ch]at h';subst h';exact⟨b2,rfl,b3,λad e=>ci a6 (b4 ad e)⟩
 .refine hN _ _ _ (.inr ⟨U.no,k,aa,p,⟨by rw[bc];exact hk.1,λi hi=>by rw[zDz];exact hk.2 i hi⟩,by rw[zDz];exact hu,U.par,?_,by rw[zFy],rfl⟩);rw[Y,<-zGw,zIm,zET];rfl
theorem zJP (y:C)(a:al am)(N:C)(ds:R Dev)(ct:G->a0)(M:R Vir)(ma:al am)(mc:C)(w:aj)(hl:Tr w y a N ds)(hn:(ds:C)<=250)(hE:Env w)(h6:TrT w a ds)(hC:CtO w ds ct)(hM:Virs w ma mc M)(h7:(M:C)<=250)(h8:DistP M)(h9:∀ v∈M,v.q.size<=100000/\v.o.size<=100000)(g3:y<=(w:C))
  (hR:RemOk M ds) (i0:∀ d∈ds,d.kind=2) (hS:SetOk M (remF M ds (revR ds)).1 ct)
  (U:C->R Dev->(G->a0)->R OpA->Prop) (h0:U 0 (remF M ds (revR ds)).1 (setF M (remF M ds (revR ds)).1 ct (remF M ds (revR ds)).2 (remF M ds (revR ds)).1.length).1 (setF M (remF M ds (revR ds)).1 ct (remF M ds (revR ds)).2 (remF M ds (revR ds)).1.length).2)
  (hI:∀ j v L ct I,M[j]?=E v->U j L ct I->L.length<=250/\I.length<=9000/\∃ p,ParIs L v.q p/\((∃ dt,L.find? (atP L (v.q++(⟨#[47]⟩:a0)++v.o))=E dt)\/AddOk L v.q v.o v.c p))
  (hN:∀ j v L ct I L' b7 a8,M[j]?=E v->U j L ct I->zBy L ct I v L' b7 a8->U (j+1) L' b7 a8):
  bd ay 23 #[ar #[ab a ds N],ab ma M mc] w λe w'=>(∃ (L:R Dev) (b7:G->a0) (I:R OpA) (av:al am) (cv:C),U (M:C) L b7 I/\e=.returned (ab av I.length cv)/\w'.ownsRow (w:C) 72 14 (ab av I.length cv) I.length (opF I)/\OpsOk w' (w:C) I)/\Fr No w w':=by
 refine(callsIn_wide (n:=12)).1 (callsIn_of_wp_marks Tryz.func23 rfl trivial (wpIn_wide.2 ?_));simp only[Tryz.ntmps23,List.size_toArray,cu,cw,Nat.reduceAdd,Nat.reduceSub,Array.replicate_succ,Array.replicate_zero,List.push_toArray,List.append_toArray,List.nil_append,cm];have l8:=@run_makeMap ay;obtain⟨W0,Z⟩:=ε (((w.alloc (ag #[ab a ds N] 39)).alloc (.map #[] 0)).alloc (ag #[.map (E ((w:C)+1))] 83))
 have hW:Fr No w W0:=by rw[Z];exact(((aw _ _).alloc _).alloc _).alloc _
 have b0:W0.heap[(w:C)]?=E (ag #[ab a ds N] 39):=by rw[Z];exact((aw No _).alloc _).heap (zP _ _ _) id
 have m1:QMap W0 ((w:C)+1) (λ_=>B) 0:=by
  rw[Z];have:=QMap.made (w.alloc (ag #[ab a ds N] 39));rw[cb]at this;exact this.fr ((aw No _).alloc _) id
 have b2:W0.heap[(w:C)+2]?=E (ag #[.map (E ((w:C)+1))] 83):=by
  rw[Z];have:=zF ((w.alloc (ag #[ab a ds N] 39)).alloc (.map #[] 0)) (ag #[.map (E ((w:C)+1))] 83);rw[cb,cb]at this;exact this
 have i3:(W0:C)=(w:C)+3:=by rw[Z];simp
 have i4:=zh i3;have HA:=zg3 hl hE hM;have HP:=zg6 h6 hC hR i0 hS g3;have HO:=zg3 h7 h8 h9;have a9:=zg3 h0 hI hN;have i5:∀ ad,ma=E ad->M≠[]->ad.block<(w:C):=λad e g4=>(hM.cell ad e g4).2.1
 have o4:=hM.lenmax;clear i3 hl hE hM h6 hC hR i0 hS h7 h8 h9 h0 hI hN g3;go_upto_region 2 with(fail)
 rw[<-Z];clear Z l8;go_wp2_with fail;apply (zNk _ _ _ _).mono;rintro e w1 ⟨rfl,rfl⟩;have hx:Fr No W0 (W0.alloc (ag #[ab ma M mc] 41)):=(aw _ _).alloc _;have db:=zF W0 (ag #[ab ma M mc] 41);have d3:=hW.step hx zi;have d0:=hx.heap b0 id;have d2:=hx.heap b2 id;have dm:=m1.fr hx id;rw[i4]at db;clear b0 b2 m1 hx hW;go_wp2_with fail;rw[i4];generalize W0.alloc (ag #[ab ma M mc] 41)=W2 at *;have o8:=zC db;have HD:=zg3 d0 d2 dm;refine(wpIn_wide (n:=12)).1 (zAs (α:=G×Vir) (T:=λ_=>False) (V0:=Is ((w:C)+1)) rfl (by omega) (gf:=86) (lb:=#[ax (E ⟨(w:C)+3,0,B⟩)]) rfl trivial (enters_of Tryz.func86 (by kernel_rfl) rfl) (encs:=λx:G×Vir=>#[af ae x.1,ar x.2.vals]) (λ_=>rfl) (λb h=>h.elim) (λb h=>by omega)
  (zEx 11 (by omega) ((w:C)+3) ma mc M W2 (Is ((w:C)+1)) db (HA.2.2.fr d3 (λ_ _ _=>id)) (by have:=HO.1;omega) ⟨λh=>by omega,λad e g4 h=>by have:=i5 ad e g4;omega⟩)
  (PlG W2 ((w:C)+1) ((w:C)+2)) (λs V A h b O=>by rw[(h.foot b).1 O];exact h.map.lt) (λs V A o9 S h hf hS=>by
   exact⟨hf.heap h.box (λO=>by
    have h':(W2:C)<=(w:C)+2:=(hS _ O).2.resolve_left id;omega),h.map.fr hf (λO=>(hS _ O).1 ((h.foot _).2 rfl)),h.foot,h.fr.step hf (λb O hs=>by
    rcases(hS b hs).2 with h'|h'
    .exact h'.elim
    .exact .inr h')⟩)
  ⟨d2,dm,λb=>Iff.rfl,aw _ _⟩
  (λx V a' W=>∃ Bx,(W2:C)+2<=Bx/\W.heap[Bx]?=E (ag x.2.vals 52)/\¬ V Bx/\a'={ tmps:=#[ar #[ab a ds N],ab ma M mc,ax (E ⟨w,0,B⟩),ai,ab B 0 0,ax (E ⟨(w:C)+2,0,B⟩),ai,ax (E ⟨Bx,0,B⟩),ai,ai,ai,.map (E ((w:C)+1)),ab ma M mc,.func (.func 86) #[] #[ax (E ⟨(w:C)+3,0,B⟩)],af ae x.1,ar x.2.vals,ai,ai,ai,ai,ai,ai,ai,ai,ai,ai,ai,ai,ai,ai,ai,ai,ai,ai,ai,ai,ai,ai,ai,ai,ai,ai,ai,ai,ai,ai],defers:=[] })
  (λx V a' A o9 h hf=>by obtain⟨Bx,h1,h2,h3,h4⟩:=h;exact⟨Bx,h1,hf.heap h2 (λe=>by omega),h3,h4⟩)
  ?assign ?body ?done)
 case assign=>
  intro l pre V x W K hi e4 hK;have g5:∀ b,V b->b<(W:C):=λb O=>by rw[(hi.foot b).1 O];exact hi.map.lt
  have p0:=λa' W' (h1:Fr No W W') h2=>hK a' W' h1 h2
  clear d3 d0 d2 dm db;unfold Vir.vals
  gi_wp2
  exact hK _ _ ((aw _ _).alloc _) ⟨(W:C),e4,zF _ _,λh=>by have:=g5 _ h;omega,rfl⟩
 case body=>
  rintro l pre V ⟨xi,v⟩ a' W hi ⟨Bx,p1,i6,p2,rfl⟩ b1 e4;have e5:v∈M:=zB4 (p:=(xi,v)) (b1.subset (by simp));have p3:(pre:C)<=1000:=by
   have h1:=b1.length_le;rw[zAf]at h1;simp only[ce,cu,cw]at h1;have:=HO.1;omega
  have i7:v.q.size<=bh/\v.o.size<=maxLen:=by have:=HO.2.2 v e5;unfold bh;omega
  have i8:=zNX HO.2.1 b1;have b8:=hi.map;have x2:W ⟨(w:C)+2,0,B⟩=E (.map (E ((w:C)+1))):=zB hi.box 0;obtain⟨x3,x4,x5,x6⟩:=cl4 i6;have HI:=zh hi;have l9:=zh i8;clear d3 d0 d2 dm db e5 hi i6 b1 i8
  gi_wp2_with (gi_at_mapUpdate;refine zDt rfl _ _ _ 83 _ rfl Tryz.underlying83 ((w:C)+1) _ (pre:C) (by unfold bh;omega) v.q v.o i7.1 i7.2 (ar #[ak v.q,ak v.o,ak v.c,af ae v.r]) rfl b8 rfl rfl ?_;intro w6 m0 a2)
  have m2:V ((w:C)+1):=(HI.foot _).2 rfl;refine⟨V,λb h=>.inl h,⟨a2.heap HI.box (λh=>by omega),?_,HI.foot,HI.fr.step a2 (λb O h=>.inl h)⟩,a2.mono (λb O h=>by unfold Is at h;subst h;exact m2)⟩;rw[bs,ce];show QMap w6 _ (wantG (pre.map bv++[v])) _
  rw[zE5 (zNY l9)];exact m0
 case done=>
  rintro V W hi hK m3;have b8:=hi.map;rw[zIY,zKK HO.2.1,zAf]at b8;have d4:∀ b,b<(w:C)+1->¬ (b=(w:C)+1\/(W2:C)<=b):=λb O h=>by rcases h with h|h<;>omega
  have g6:Fr No w W:=d3.step hi.fr (λb O h=>d4 b (by omega) h);have t0:W ⟨w,0,B⟩=E (ab a ds N):=zB (hi.fr.heap d0 (d4 _ (by omega))) 0;have t5:W ⟨(w:C)+2,0,B⟩=E (.map (E ((w:C)+1))):=zB hi.box 0;obtain⟨W1,g7,x1,g8⟩:=zy W (ag #[ab a ds N,ab B 0 0] 117);have b9:=g6.step x1 zi;have p4:=g6.size;have p5:=HA.2.1.sz;have p6:=zC hK;have i9:=zQk (W:C) ((w:C)+1) y a N ds M ct (M:C) W1 (HA.1.no b9) hn (HA.2.1.no b9) (HP.1.fr b9 (λ_ _=>id)) (HP.2.1.no b9) HP.2.2.1 HP.2.2.2.1 g8 (b8.fr x1 id) (by omega) (by have:=HP.2.2.2.2.2;omega) (by omega);have g9:=zh (x1.heap hi.box id);have HQ:=zh (b8.fr x1 id);have m4:=zh b9;have p7:=zh g8;have m5:=zh (x1.heap hK id);have p8:=x1.size;have X:ah ((W1:C)=(W:C)+1):=by unfold ah;rw[g7];simp
  have p9:(W2:C)≠(W:C):=by omega
  clear d3 d0 d2 dm db hi b8 x1 g8 b9 hK m3 d4 g6;go_upto_region 6 with(fail)
  rw[<-g7];clear g7 t0 t5;have t5:W1 ⟨(w:C)+2,0,B⟩=E (.map (E ((w:C)+1))):=zB g9 0;go_wp2_with fail;apply i9.mono;rintro e w3 ⟨rfl,⟨a1,c1,cs,ao,no,co,h5,j0,j1,b3,d5,e6,e7⟩,a3⟩;clear i9 t5;have m6:=zCh M ds (revR ds);rw[zAf]at m6;have m7:(cs:C)<=250:=by have h:=congrArg bq b3;rw[bc]at h;omega
  have j2:¬ Is (W:C) ((w:C)+1):=λh=>by omega
  have j3:¬ Is (W:C) ((w:C)+2):=λh=>by have:=zC g9.out;have:=X.out;omega
  have j4:=zh (a3.heap g9 j3);have m8:=zh (HQ.fr a3 j2);have t5:w3 ⟨(w:C)+2,0,B⟩=E (.map (E ((w:C)+1))):=zB j4 0;have F3:Fr No w w3:=m4.step a3 (λb O h=>by omega);have e8:SetOk M cs ct:=SetOk.map (by rw[b3];exact HP.2.2.2.2.1);have j5:=zPz (W:C) ((w:C)+1) (W1:C) y a1 c1 cs M ct (remF M ds (revR ds)).2 ao no co (M:C) w3 j1 m7 (by omega) (HA.2.1.no F3) e6 e7 e8 j0 d5 h5 m8 (by omega) (by have:=HP.2.2.2.2.2;have:=F3.size;omega) a3.size (by have:=X.out;omega) (by omega);have m9:=zh F3;have j6:=zh (a3.heap m5 (λh=>by omega));have e9:=zg2 b3 h5;have r0:=a3.size;have j7:ah (∀ b,(az ao no co).ownBlock=E b->(W1:C)<=b):=λb h=>(zAF d5 h).1
  clear a3 j0 j1 d5 e6 e7 b3 h5 F3 e8;go_wp2_with fail;apply j5.mono;rintro e w4 ⟨rfl,j8⟩;have n3:ah (AddI w3 (W1:C) (W:C) y (w:C) U 0 w4):=by
   obtain⟨⟨n4,n5,n6,n7,r1,n8,j9,n9,o0,k0,k3,k4,k6,o5⟩,k7⟩:=j8;subst j9;have e1:setF M cs ct (remF M ds (revR ds)).2 (cs:C)=setF M (remF M ds (revR ds)).1 ct (remF M ds (revR ds)).2 (remF M ds (revR ds)).1.length:=by
    rw[<-e9.1,zMj,bc]
   refine⟨⟨n4,n5,n6,n7,n8,_,_,n9,o0,k3,k4,k6,OpsOk.zd (zOo (zOt M ds (revR ds)) _),?_⟩,k7.mono λb O h=>h.imp_right (j7 b)⟩;rw[k0,e9.1,e1];exact a9.1
  clear j5 j8 t5;go_wp2_with fail;go_loopw [34] (λx wr=>∃ j:C,j<=(M:C)/\x=af ae (j:G)/\ah (AddI w3 (W1:C) (W:C) y (w:C) U j wr)) (λx _=>(M:C)-(intOf x).toNat);case atStart=>exact⟨0,by omega,rfl,n3⟩
  case round=>
   obtain⟨j,hj,rfl,a4⟩:=hrel;have d1:Fr No w wr:=m9.step a4.fr (λb O h=>by have:=X.out;rcases h with h|h<;>omega);by_cases g5:j<(M:C)
   .have k8:(j:G)<(M:C):=(by omega);obtain⟨vb,o6,u,rfl,d6,⟨c0,c1,c2,c3⟩,r2⟩:=(HA.2.2.fr d1 (λ_ _ _=>id)).elem g5;obtain⟨W5,k9,x5,b5⟩:=zy wr (ag #[u.q,u.o,u.c,u.r] 52);have l0:bd ay 51 #[ax (E ⟨W,0,B⟩),ar #[u.q,u.o,u.c,u.r]] W5 λe w'=>e=.returned (.tuple #[])/\ah (AddI w3 (W1:C) (W:C) y (w:C) U (j+1) w'):=by
     obtain⟨a5,k5,e2,d7,d8,a6,z,a7,d9,J,e0,b4,Y,F⟩:=a4.st;obtain⟨hL,o7,p,l1,l2⟩:=a9.2.1 j u _ a6 z d6 F;rw[bc]at hL;have hu:=HO.2.2 u (cy d6);have r3:=a4.fr.size;have l3:=d1.size;have r4:=x5.size;have g3:=HP.2.2.2.2.2;rcases l2 with⟨dt,l4⟩|l5
     .have l6:=l4;rw[zCX]at l6;obtain⟨o1,l7,_⟩:=Option.map_eq_some_iff.1 l6;apply (zP2 (W:C) y a5 k5 e2 _ u.q u.o u.c u.r p o1 W5 (d9.no x5) hL (x5.heap a7 id) (zEG.1 l1) l7 hu.1 hu.2).mono;rintro e w6 ⟨rfl,a2⟩;have hx:=x5.step a2 zi;exact⟨rfl,⟨⟨a5,k5,e2,d7,d8,a6,z,hx.heap a7 id,d9.no hx,zG J hx (λ_ _=>id),e0.fr hx (λ_ _=>id),b4.no hx,Y.fr hx (λ_ _ _=>id),a9.2.2 j u _ a6 z _ _ _ d6 F (.inl ⟨⟨dt,l4⟩,rfl,rfl,rfl⟩)⟩,a4.fr.step hx zn⟩⟩
     .apply (zP3 (W:C) (W1:C) y a5 k5 e2 a6 z d7 (z:C) d8 u.q u.o u.c u.r p W5 (d9.no x5) hL (HA.2.1.no (d1.step x5 zi)) (b4.no x5) (x5.heap a7 id) (zG J x5 (λ_ _=>id)) (by omega) l5.map (by omega) (by omega)).mono;rintro e w6 ⟨rfl,hR,a2⟩;exact⟨rfl,zMM (x5.heap a7 id) (zG J x5 (λ_ _=>id)) (Y.fr x5 (λ_ _ _=>id)) (a4.fr.step x5 zn) hR a2 (by omega) l5 (λL' b7 a8 h=>a9.2.2 j u _ a6 z L' b7 a8 d6 F h)⟩
    obtain⟨v0,v1,v2,v3⟩:=cl4 b5;clear d6 x5 b5 d1;go_upto_region 11 with(fail)
    rw[<-k9];clear k9 c0 c1 c2 c3;go_wp2_with fail;apply l0.mono;rintro e w6 ⟨rfl,o2⟩;clear l0 v0 v1 v2 v3;go_wp2;go_roundw;case rel=>exact⟨j+1,by omega,by go_num,o2⟩
    case measure=>simp[intOf];omega
   .obtain rfl:j=(M:C):=by omega
    have k8:¬ ((M:C):G)<(M:C):=(by omega);obtain⟨a5,k5,e2,d7,d8,a6,z,a7,d9,J,e0,b4,Y,F⟩:=a4.st;have t1:wr ⟨W,1,B⟩=E (ab d7 z d8):=zB a7 1;have e3:=a4.fr.heap j6.out (λh=>by have:=X.out;rcases h with h|h<;>omega);have b6:Fr (Is (W2:C)) wr (wr.putObj (W2:C) (.deferred B)):=Fr.putObj _ _ _ rfl;have g0:Fr No w (wr.putObj (W2:C) (.deferred B)):=d1.step b6 (λb O h=>by omega);have g1:=Y.fr b6 (λc x hc h=>by unfold Is at h;rw[h,e3]at hc;cases hc);have g2:=zG J b6 (λb O h=>by
     obtain⟨ad,rfl,rfl⟩:=zBc O;obtain⟨cs,hc⟩:=zAI J ad rfl;unfold Is at h;rw[h,e3]at hc;cases hc)
    have l3:(w:C)<=(W1:C):=(by have:=X.out;omega);have H:=zg4 (zIf g2 l3) g1 F g0;have o3:=zh e3;clear a7 d9 J e0 b4 Y F b6 g0 g1 g2 e3 d1;go_wp2_with fail;refine⟨by simp,.inl ⟨_,_,rfl,run_takeDeferred o3.out,?_⟩⟩;exact⟨_,results_tmp rfl _ _ _,⟨_,a6,z,H.2.2.1,d7,d8,rfl,H.1,H.2.1⟩,H.2.2.2⟩
theorem OpsM.set {u:C}(h:OpsM w u):(Instr.lookup 108 (.map (E u)) (.int ae 3) au).run ay w=.ok (.tuple #[.func (.func 79) #[] #[],.bool au]) w:=by
 obtain⟨v,A,o,y⟩:=World.ownsMap.look_ok h lawI mapOp (zeroOp w) (zd:=.held .nilFunc) (zp:=[]) rfl (keyOf_int_mk Tryz.underlying3 (a:=3) (by kernel_rfl));have e:opsD.atKey (.int ae 3) (.held .nilFunc)=.held (.func (.func 79) #[] #[]):=by rfl
 have z:Maps.has opsD (.int ae 3)=true:=by rfl
 rw[e]at y;rw[z]at o;cases y;exact o
def KAft (w w':aj)(kb base:C)(L:R Dev)(ct:G->a0)(ev:al am)(en ec em:C)(ix:G):Prop:=
 (∃ a' c' ds' ev' en' ec',KSt w' kb base a' c' ds' ev' en' ec' ix/\ds'.map strip=L/\CtO w' ds' ct/\en'<=en+em)/\KFr kb (ab ev en ec) w w'
theorem zM9 (A o:C)(a:al am)(z:C)(ds:R Dev)(U:al am)(J V:C)(X:G)(ct:G->a0)(k:C)(u F:a0)(Y v:Dev)(m:G)(w:aj)(hK:KSt w A o a z ds U J V X)(hC:CtO w ds ct)(Z:J<=60000000)(hn:(ds:C)<=256)(hb:o<=(w:C))(hk:ds[k]?=E v)(a2:fidx (λy=>y.index==v.index) ds=(k:G))
  (N:ds.find? (atP ds u)=E v) (a3:v.kind=2) (O:Sound v (cAtt F)) (a4:ds.any (clP v)=aq) (hv:F.size<=100000) (hm:w ⟨0,0,B⟩=E (af ae m)) (h0:0<(w:C)) (a5:0<A):
  bd ay 20 #[ax (E ⟨A,0,B⟩),ar (ocs 3 u Y zM F)] w λe w'=>e=.returned (.tuple #[af ae 0,af ae 0])/\KAft w w' A o (ds.map strip) (updC ct v.index F) U J V 1 X:=
 zN9 3 79 _ A o a z ds U J V X u zM F Y v w hK hn N ⟨rfl,rfl,rfl⟩ (λW mb h=>h.set) (enters_of Tryz.func79 (by kernel_rfl) rfl) λW d I hd=>by
  obtain⟨e,l,h1,h2,h3⟩:=hd;obtain⟨h4,h5⟩:=hC v (bz N);have el:l=cAtt (ct v.index):=h1.det h4 (h2.symm.trans h5);subst el;refine(zQs A o a z ds U J V X 3 ct k u F Y v d m W (hK.no I) (hC.no I) Z hn (ci hb I.size) hk a2 e h3 a3 O a4 hv (I.cell hm id) (Nat.lt_of_lt_of_le h0 I.size) a5).mono λe w' h=>⟨h.1,h.2.1,KFr.src I h.2.2⟩
def KA (W:aj)(kb base:C)(L:R Dev)(ct:G->a0)(ix:G)(n:C):Prop:=∃ (a:al am) (cap:C) (ds:R Dev) (ev:al am) (en ec:C),KSt W kb base a cap ds ev en ec ix/\ds.map strip=L/\CtO W ds ct/\en<=n
def EvF (kb base:C)(w w':aj):Prop:=Fr (λb=>b=kb\/(base<=b/\∃ x,w.heap[b]?=E (ag x 143 (0,0)))) w w'
theorem EvF.of {y:C}{v:C}(u:w.ownsRow o 143 5 (ab z v A) v F)(I:Fr (λb=>b=y\/(az z v A).ownBlock=E b) w w'):EvF y o w w':=
 I.mono λb _ h=>h.imp_right λh=>by
  have J:=(zAF u h).1;obtain⟨N,rfl,rfl⟩:=zBc h;exact⟨J,zAI u N rfl⟩
theorem EvF.no {u:C}(v:Fr No w w'):EvF u o w w':=v.mono λ_ _ h=>h.elim
theorem EvF.trans {v u:C}{y F I:aj}(h:EvF v u y F)(O:EvF v u F I):EvF v u y I:=Fr.step h O λb U z=>by
 by_cases J:b=v\/(u<=b/\∃ x,y.heap[b]?=E (ag x 143 (0,0)));·exact J
 .rcases z with z|⟨A,x,V⟩
  .exact .inl z
  .obtain⟨o,N⟩:∃ o,y.heap[b]?=E o:=⟨_,Array.getElem?_eq_getElem U⟩
   have e:=Fr.heap h N J;rw[V]at e;exact .inr ⟨A,x,by rw[N];exact e.symm⟩
def EvG (kb:C)(w w':aj):Prop:=∀ v,w ⟨kb,3,B⟩=E v->KFr kb v w w'
theorem EvG.no {u:C}(o:Fr No w w'):EvG u w w':=λv y=>⟨o.mono λ_ _ h=>h.elim,λA b h z=>.inl (by rw[o.cell y id]at h;cases h;exact z)⟩
theorem EvG.trans {y:C}{z F:aj}(h:EvG y w z)(O:EvG y z F)(U:∃ v,z ⟨y,3,B⟩=E v):EvG y w F:=λv V=>by
 obtain⟨u,A⟩:=U;obtain⟨I,J⟩:=h v V;obtain⟨X,Y⟩:=O u A;refine⟨I.step X λb N o=>?_,λZ b e N=>?_⟩
 .rcases o with o|o
  .exact .inl o
  .rcases J u b A o with h|h
   .exact .inr h
   .omega
 .rcases Y Z b e N with h|h
  .exact J u b A h
  .have:=I.size;exact .inr (by omega)
theorem KSt.g {u:C}{a:al am}{y:C}{F:C}{J:G}(h:KSt w u o a y ds z A F J)(N:KFr u (ab z A F) w w'):EvG u w w':=λv I=>by
 rw[show w ⟨u,3,B⟩=E (ab z A F)from zB h.blk 3]at I;cases I;exact N
theorem zJO {o:a0}{v:Dev}(h:(ds.map strip).find? (atP (ds.map strip) o)=E v):∃ u,ds.find? (atP ds o)=E u/\strip u=v/\u∈ds:=by
 rw[zCX]at h;obtain⟨u,y,z⟩:=Option.map_eq_some_iff.1 h;exact⟨u,y,z,bz y⟩
theorem zQF (u h n:C)(L:R Dev)(ct:G->a0)(J:G)(o nm vl:a0)(x N:Dev)(w:aj)(hK:KA w u h L ct J n)(hn:n<=60000000)(hL:(L:C)<=250)(hb:h<=(w:C))(O:L.find? (atP L o)=E N)(v:TreeWf (remL N.index L)):
  bd ay 20 #[ax (E ⟨u,0,B⟩),ar (ocs 2 o x nm vl)] w λe w'=>e=.returned (.tuple #[af ae 0,af ae 0])/\KA w' u h (remL N.index L) ct J (n+(L:C))/\EvF u h w w'/\EvG u w w':=by
 obtain⟨a,U,ds,ev,en,ec,V,rfl,hC,a3⟩:=hK;obtain⟨X,h1,rfl,_⟩:=zJO O;rw[bc]at hL;have er:remL (strip X).index (ds.map strip)=(remL X.index ds).map strip:=zIZ;rw[er]at v;obtain⟨xs,z⟩:=V.own;apply (zNA u h a U ds ev en ec J o nm vl x X w V (by omega) (by omega) hb h1 (λW w' A _ hc=>v.ofStrip (hc.strip.trans (zCQ _).symm))).mono;rintro e w' ⟨rfl,⟨a',F,A,Y,Z,a2,g1,g2,g3⟩,I⟩;refine⟨rfl,⟨a',F,A,Y,Z,a2,g1,by rw[er];exact g3.strip,(AttOf.sub hC (λy hy=>(List.mem_filter.1 hy).1)).cop g3,by rw[bc];omega⟩,EvF.of z I.1,V.g I⟩
theorem zQE (y o n:C)(L:R Dev)(ct:G->a0)(X:G)(v z:a0)(x A:Dev)(w:aj)(hK:KA w y o L ct X n)(hE:Env w)(h8:8<y)(hn:n<=60000000)(hL:(L:C)<=250)(hb:o<=(w:C))(Y:L.find? (atP L v)=E A)(Z:A.kind=2)(u:Sound A (cAtt z))(F:L.any (clP A)=aq)(hv:z.size<=100000):
  bd ay 20 #[ax (E ⟨y,0,B⟩),ar (ocs 3 v x zM z)] w λe w'=>e=.returned (.tuple #[af ae 0,af ae 0])/\KA w' y o L (updC ct A.index z) X (n+1)/\EvF y o w w'/\EvG y w w':=by
 obtain⟨a,a2,ds,ev,en,ec,V,rfl,hC,a8⟩:=hK;obtain⟨I,h1,rfl,hm⟩:=zJO Y;rw[bc]at hL;obtain⟨k,hk⟩:=cr hm;obtain⟨xs,J⟩:=V.own;obtain⟨m,a3⟩:=hE.len;have h0:=hE.sz;have N:ds.any (clP I)=false:=by
  have h:(ds.map strip).any (clP (strip I))=ds.any (clP (strip I)):=zGG ds (strip I);rw[h]at F;exact F
 apply (zM9 y o a a2 ds ev en ec X ct k v z x I m w V hC (by omega) (by omega) hb hk (zLm V.tr.wf.ok hk) h1 Z ⟨u.rng,u.named,u.same,u.num,u.attrs,u.link⟩ N hv a3 (by omega) (by omega)).mono;rintro e w' ⟨rfl,⟨a',O,a4,a5,a6,a7,g1,g2,g3,g4⟩,U⟩;exact⟨rfl,⟨a',O,a4,a5,a6,a7,g1,g2,g3,by omega⟩,EvF.of J U.1,V.g U⟩
theorem zN7 (F u n:C)(L:R Dev)(ct:G->a0)(o p:G)(y nm vl A:a0)(x:Dev)(w:aj)(hK:KA w F u L ct o n)(hE:Env w)(h8:8<F)(hn:n<=50000000)(a5:0<=o/\o<=1000000)(hb:u<=(w:C))(hA:Atts w x.aa x.ac (cAtt A))(U:x.an=(cAtt A).length)(a6:x.kind=2)(hp:ParIs L y p)(a7:(ca ae p).wf=au)
  (hs:Sized (addD x o p)) (V:InsPre L (addD x o p) (cAtt A)) (v:(sameO L (addD x o p)||L.any (clP (addD x o p)))=aq) (J:TreeWf (insAt L (insK L (addD x o p)) (strip (addD x o p)))):
  bd ay 20 #[ax (E ⟨F,0,B⟩),ar (ocs 1 y x nm vl)] w λe w'=>e=.returned (.tuple #[.int ae (o+1),.int ae 0])/\KA w' F u (insAt L (insK L (addD x o p)) (strip (addD x o p))) (updC ct (o+1) A) (o+1) (n+1)/\EvF F u w w'/\EvG F w w':=by
 obtain⟨a,a8,ds,ev,en,ec,hS,rfl,hC,b5⟩:=hK;obtain⟨d,N⟩:∃ d:Dev,d=addD x o p:=⟨_,rfl⟩
 have e1:d.index=o+1:=by rw[N];rfl
 have e2:d.aa=x.aa/\d.an=x.an/\d.ac=x.ac:=by rw[N];exact⟨rfl,rfl,rfl⟩
 rw[<-N]at hs V v J ⊢;rw[zFA,zGG]at v;have eI:insAt (ds.map strip) (insK (ds.map strip) d) (strip d)=(insAt ds (insK ds d) d).map strip:=by rw[zET,zGw]
 rw[eI]at J ⊢;have I:=zFI V;obtain⟨m,a9⟩:=hE.len;have h0:=hE.sz;refine(k_do F y nm vl x (o+1) 0 w (λw'=>KA w' F u ((insAt ds (insK ds d) d).map strip) (updC ct (o+1) A) (o+1) (n+1)/\EvF F u w w'/\EvG F w w') (λW hW=>?_)).mono λ_ _ h=>h
 have O:Fr No w W:=by rw[hW];exact(aw _ _).alloc _
 have b6:=O.size;have X:=hS.no O;obtain⟨xs,Y⟩:=X.own;have Z:=hA.no O (λ_=>id);have b0:=hC.no O;have:=zQI F u a a8 ds ev en ec o y nm vl x 1 p (cAtt A) m W X (by omega) a5 (by omega) Z (zC0 A) U a6 (N▸hs) (zEG.1 hp) a7 (N▸I) (λ_ w' a2 hc=>J.ofStrip (by rw[zCQ,N];exact hc.strip)) (O.cell a9 id) (by omega) (by omega);apply this.mono;rintro e w' h;rw[<-N]at h;rcases h with⟨g1,_⟩|⟨g1,rfl,⟨a',a3,a2,b1,b2,g2,g3⟩,a4⟩
 .rw[v]at g1;cases g1
 .have b3:CtO W (insAt ds (insK ds d) d) (updC ct (o+1) A):=λz hz=>by
   rcases zV.1 hz with h|h
   .have e3:(λi=>cAtt (updC ct (o+1) A i)) z.index=cAtt A:=by show cAtt (updC ct (o+1) A z.index)=_;unfold updC;rw[h,e1,bg rfl]
    rw[e3,h,e2.1,e2.2.1,e2.2.2];exact⟨Z,U⟩
   .have b4:z.index≠o+1:=λe=>(zv.1 I.new) z h (e.trans e1.symm)
    have e3:(λi=>cAtt (updC ct (o+1) A i)) z.index=cAtt (ct z.index):=by show cAtt (updC ct (o+1) A z.index)=_;unfold updC;rw[bi b4]
    rw[e3];exact b0 z h
  exact⟨rfl,⟨a',a3,a2,b1,en+1,b2,g2,g3.strip,AttOf.cop b3 g3,by omega⟩,(EvF.no O).trans (EvF.of Y a4.1),hS.g (KFr.src O a4)⟩
def KStp (L:R Dev)(ct:G->a0)(ix:G)(o:OpA)(L':R Dev)(ct':G->a0)(ix':G):Prop:=
 (o.k=2/\∃ dL,L.find? (atP L o.p)=E dL/\TreeWf (remL dL.index L)/\L'=remL dL.index L/\ct'=ct/\ix'=ix)\/
 (o.k=3/\o.nm=zM/\∃ dL,L.find? (atP L o.p)=E dL/\dL.kind=2/\Sound dL (cAtt o.vl)/\L.any (clP dL)=aq/\o.vl.size<=100000/\L'=L/\ct'=updC ct dL.index o.vl/\ix'=ix)\/
 (o.k=1/\o.x.kind=2/\∃ p,ParIs L o.p p/\(ca ae p).wf=au/\Sized (addD o.x ix p)/\InsPre L (addD o.x ix p) (cAtt o.c)/\(sameO L (addD o.x ix p)||L.any (clP (addD o.x ix p)))=aq/\TreeWf (insAt L (insK L (addD o.x ix p)) (strip (addD o.x ix p)))/\
  L'=insAt L (insK L (addD o.x ix p)) (strip (addD o.x ix p))/\ct'=updC ct (ix+1) o.c/\ix'=ix+1)
theorem zQr (v u n:C)(L X:R Dev)(ct I:G->a0)(A z:G)(o:OpA)(w:aj)(Y:KA w v u L ct A n)(hE:Env w)(h8:8<v)(hn:n<=50000000)(hL:(L:C)<=250)(Z:0<=A/\A<=1000000)(hb:u<=(w:C))(hA:Atts w o.x.aa o.x.ac (cAtt o.c)/\o.x.an=(cAtt o.c).length)(hs:KStp L ct A o X I z):
  bd ay 20 #[ax (E ⟨v,0,B⟩),ar o.vals] w λe w'=>(∃ i,e=.returned (.tuple #[af ae i,af ae 0]))/\KA w' v u X I z (n+(L:C)+1)/\EvF v u w w'/\EvG v w w':=by
 have J:∀ {W:aj} {L:R Dev} {ct:G->a0} {A:G} {a b:C},KA W v u L ct A a->a<=b->KA W v u L ct A b:=λh a2=>by
  obtain⟨a1,c1,ds,ev,en,ec,y,N,O,U⟩:=h;exact⟨a1,c1,ds,ev,en,ec,y,N,O,ci U a2⟩
 obtain⟨k,p,x,nm,vl,c⟩:=o;unfold OpA.vals;rcases hs with⟨F,dL,y,N,rfl,rfl,rfl⟩|⟨F,e2,dL,y,N,O,U,V,rfl,rfl,rfl⟩|⟨F,h0,q,y,N,O,U,V,h6,rfl,rfl,rfl⟩
 .dsimp only at F y;subst F;exact(zQF v u n L I z p nm vl x dL w Y (by omega) hL hb y N).mono λe w' h=>⟨⟨_,h.1⟩,J h.2.1 (by omega),h.2.2⟩
 .dsimp only at F e2 y O V;subst F;subst e2;exact(zQE v u n X ct z p vl x dL w Y hE h8 (by omega) hL hb y N O U V).mono λe w' h=>⟨⟨_,h.1⟩,J h.2.1 (by omega),h.2.2⟩
 .dsimp only at F h0 y O U V h6 hA;subst F;exact(zN7 v u n L ct A q p nm vl c x w Y hE h8 hn Z hb hA.1 hA.2 h0 y N O U V h6).mono λe w' h=>⟨⟨_,h.1⟩,J h.2.1 (by omega),h.2.2⟩
theorem OpsOk.ev {z:C}{A:aj}(h:OpsOk W b u)(F:EvF z o W A){cs:Array bj}(I:W.heap[z]?=E (ag cs 59)):OpsOk A b u:=h.fr F λc x v J=>by
 rcases J with rfl|⟨_,y,N⟩
 .rw[I]at v;cases v
 .rw[N]at v;cases v
theorem zN5 : ∀ (v:R OpA) (j:C) (o:OpA) (i:C) (u:bj),v[j]?=E o->i<14->o.vals.toList[i]?=E u->(opF v)[j*14+i]?=E u
 | [],j,o,i,u,h,_,_=>by simp at h
 | q::t,0,o,i,u,h,y,z=>by
  obtain rfl:q=o:=by simpa using h
  show (q.vals.toList++opF t)[0*14+i]?=_
  rw[Nat.zero_mul,dc,List.getElem?_append_left (by show i<14;exact y)];exact z
 | q::t,j+1,o,i,u,h,y,z=>by
  have A:=zN5 t j o i u (by simpa using h) y z;show (q.vals.toList++opF t)[(j+1)*14+i]?=_
  rw[List.getElem?_append_right (by show 14<=_;omega)];have e:(j+1)*14+i-q.vals.toList.length=j*14+i:=by show (j+1)*14+i-14=_;omega
  rw[e];exact A
theorem zMz {v:C}{T:TypeId}{y:am}(h:w.ownsRow o T v (ab (E y) n c) n F):y.off=0/\y.spot=B/\∀ (k:C) (u:bj),F[k]?=E u->w ⟨y.block,k,B⟩=E u:=by
 obtain⟨_,⟨A,_⟩|⟨g,I,J,A,U,N,V,X,Y,O⟩⟩:=h;·cases A
 .cases A;refine⟨rfl,rfl,λk u z=>?_⟩;rw[zB N,<-Array.getElem?_toList];rw[<-O,List.getElem?_take]at z;split at z;·exact z
  .cases z
structure OpC (W:aj)(b off:C)(o:OpA):Prop where
 c0:W ⟨b,off,B⟩=E (af ae o.k)
 c1:W ⟨b,off+1,B⟩=E (ak o.p)
 c2:W ⟨b,off+2,B⟩=E (af ae o.x.index)
 c3:W ⟨b,off+3,B⟩=E (af ae o.x.parent)
 c4:W ⟨b,off+4,B⟩=E (ak o.x.name)
 c5:W ⟨b,off+5,B⟩=E (ak o.x.orig)
 c6:W ⟨b,off+6,B⟩=E (ak o.x.sub)
 c7:W ⟨b,off+7,B⟩=E (ak o.x.drv)
 c8:W ⟨b,off+8,B⟩=E (ak o.x.ali)
 c9:W ⟨b,off+9,B⟩=E (af ae o.x.kind)
 c10:W ⟨b,off+10,B⟩=E (af ae o.x.num)
 c11:W ⟨b,off+11,B⟩=E (ab o.x.aa o.x.an o.x.ac)
 c12:W ⟨b,off+12,B⟩=E (ak o.nm)
 c13:W ⟨b,off+13,B⟩=E (ak o.vl)
theorem zP7 {z:C}{A:al am}{o:OpA}(h:W.ownsRow z 72 14 (ab A n c) n (opF y))(Y:n=(y:C))(F:y[j]?=E o):∃ b v,A=E ⟨b,v,B⟩/\OpC W b (v+j*14) o:=by
 have N:=(List.getElem?_eq_some_iff.1 F).1;cases A with
 | none=>exact br (zHe h rfl).1 (by omega)
 | some O=>
  obtain⟨I,J,U⟩:=zMz h;obtain⟨b,v,Z⟩:=O;simp only at I J;subst J;have H:∀ (i:C) (u:bj),i<14->o.vals.toList[i]?=E u->W ⟨b,v+j*14+i,B⟩=E u:=λi u V X=>by
   have:=U _ _ (zN5 y j o i u F V X);rw[I,dc];exact this
  exact⟨b,v,rfl,H 0 _ (by decide) rfl,H 1 _ (by decide) rfl,H 2 _ (by decide) rfl,H 3 _ (by decide) rfl,H 4 _ (by decide) rfl,H 5 _ (by decide) rfl,H 6 _ (by decide) rfl,H 7 _ (by decide) rfl,H 8 _ (by decide) rfl,H 9 _ (by decide) rfl,H 10 _ (by decide) rfl,H 11 _ (by decide) rfl,H 12 _ (by decide) rfl,H 13 _ (by decide) rfl⟩
inductive KRun (m:C):R Dev->(G->a0)->G->R OpA->R Dev->(G->a0)->G->Prop
 | nil (L:R Dev) (ct:G->a0) (ix:G):KRun m L ct ix [] L ct ix
 | cons {L L1 L2:R Dev} {ct ct1 ct2:G->a0} {ix ix1 ix2:G} {o:OpA} {t:R OpA} (hl:(L:C)<=m) (hx:0<=ix/\ix<=1000000) (h:KStp L ct ix o L1 ct1 ix1) (ht:KRun m L1 ct1 ix1 t L2 ct2 ix2):KRun m L ct ix (o::t) L2 ct2 ix2
theorem KRun.step {J:R Dev}{v:G->a0}{F y:G}{o:OpA}(N:u[j]?=E o)(h:KRun m L ct F (u.drop j) J v y):(L:C)<=m/\(0<=F/\F<=1000000)/\∃ O z A,KStp L ct F o O z A/\KRun m O z A (u.drop (j+1)) J v y:=by
 have I:=(List.getElem?_eq_some_iff.1 N).1;have e:u.drop j=o::u.drop (j+1):=by
  rw[List.drop_eq_getElem_cons I,(List.getElem?_eq_some_iff.1 N).2]
 rw[e]at h;cases h with
 | cons U V h X=>exact⟨U,V,_,_,_,h,X⟩
theorem KRun.done {y:R Dev}{o:G->a0}{z u:G}{v:R OpA}(h:KRun m L ct z (v.drop (v:C)) y o u):y=L/\o=ct/\u=z:=by
 rw[List.drop_length]at h;cases h;exact⟨rfl,rfl,rfl⟩
theorem KRun.append {z A:R Dev}{o u:G->a0}{F v y:G}{a b:R OpA}(h:KRun m L ct F a z o v)(I:KRun m z o v b A u y):KRun m L ct F (a++b) A u y:=by
 induction h with
 | nil=>exact I
 | cons J N O _ U=>exact .cons J N O (U I)
theorem KRun.one {z:R Dev}{u:G->a0}{y v:G}{o:OpA}(A:(L:C)<=m)(F:0<=y/\y<=1000000)(h:KStp L ct y o z u v):KRun m L ct y [o] z u v:=.cons A F h (.nil _ _ _)
theorem zFC (o:TreeOk ds)(n:G):∀ x∈origin ds n,OkN x:=by
 intro x h;unfold origin at h;rw[List.mem_reverse]at h;obtain⟨d,u,rfl⟩:=List.mem_map.1 h;exact o.nm d (zEi u)
def Sep (s:R bn):Prop:=s=[]\/∃ t,s=47::t
theorem zFi : ∀ (x:R bn) {s:R bn},(∀ c∈x,c≠47)->Sep s->(x++s).takeWhile (λc=>decide (c≠47))=x
 | [],s,_,o=>by
  rcases o with rfl|⟨t,rfl⟩
  .rfl
  .simp
 | c::x,s,h,o=>by
  have u:=h c (by simp);rw[cm,List.takeWhile_cons,bg (by simpa using u),zFi x (λd v=>h d (by simp[v])) o]
theorem zDK (x:R bn)(t:R (R bn)):bp [47] (x::t)=47::(x++bp [47] t):=by simp[bp]
theorem zOA: ∀ (a:R (R bn)),Sep (bp [47] a)
 | []=>.inl rfl
 | x::t=>.inr ⟨_,zDK x t⟩
theorem zOB : ∀ (a b:R (R bn)),(∀ x∈a,∀ c∈x,c≠47)->(∀ x∈b,∀ c∈x,c≠47)->bp [47] a=bp [47] b->a=b
 | [],[],_,_,_=>rfl
 | [],y::t,_,_,h=>by rw[zDK]at h;cases h
 | x::s,[],_,_,h=>by rw[zDK]at h;cases h
 | x::s,y::t,u,v,h=>by
  rw[zDK,zDK]at h;injection h with _ h
  have A:=zFi x (u x (by simp)) (zOA s);have F:=zFi y (v y (by simp)) (zOA t);rw[h,F]at A;subst A;rw[zOB s t (λz o=>u z (by simp[o])) (λz o=>v z (by simp[o])) (List.append_cancel_left h)]
theorem zDD {a b:R a0}(F:∀ x∈a,OkN x)(I:∀ x∈b,OkN x)(h:(pathOf a).toList=(pathOf b).toList):a=b:=by
 rw[ByteArray.toList_eq,ByteArray.toList_eq,zB7,zB7]at h;have J:=zOB _ _ (λx o c u=>by obtain⟨z,v,rfl⟩:=List.mem_map.1 o;exact(F z v).2 c u) (λx o c u=>by obtain⟨z,v,rfl⟩:=List.mem_map.1 o;exact(I z v).2 c u) h;exact(List.map_inj_right (λx y A=>ByteArray.ext (Array.toList_inj.1 A))).1 J
theorem zHE (u:TreeWf L)(y:d∈L):L.find? (atP L (plc L d.index))=E d:=by
 have o:∀ e∈L,plc L e.index=pathOf (origin L e.index):=λe v=>by
  unfold plc;rw[zx u.ok.nd v];rfl
 have A:∀ e∈L,atP L (plc L d.index) e=au->e=d:=λe v h=>by
  unfold atP at h;have z:(plc L e.index).toList=(plc L d.index).toList:=by simpa using h
  rw[o e v,o d y]at z;have F:=zDD (zFC u.ok _) (zFC u.ok _) z;exact u.uo e v d y F
 cases hf:L.find? (atP L (plc L d.index))with
 | none=>
  rw[cn]at hf;exact br (by unfold atP;simp) (hf d y)
 | some e=>rw[A e (bz hf) (List.find?_some hf)]
theorem zKp {m:C}{M:R Vir}{ds:R Dev}(ct:G->a0)(o:G)(N:(ds:C)<=m)(A:0<=o/\o<=1000000)(hR:RemOk M ds):∀ (n:C) (pre:R (G×Dev)),(pre:C)=n->pre <+: revR ds->KRun m (ds.map strip) ct o (remF M ds pre).2 (remF M ds pre).1 ct o
 | 0,pre,u,_=>by
  obtain rfl:pre=[]:=List.eq_nil_of_length_eq_zero u;exact .nil _ _ _
 | n+1,pre,u,F=>by
  obtain⟨q,x,rfl⟩:∃ q x,pre=q++[x]:=by
   rcases List.eq_nil_or_concat pre with h|⟨q,x,h⟩
   .subst h;simp at u
   .exact⟨q,x,by simpa using h⟩
  have O:q <+: revR ds:=(List.prefix_append q [x]).trans F;have I:=zKp ct o N A hR n q (by simpa using u) O;obtain⟨U,v,y,V⟩:=hR q x F;have Z:=(zCh M ds q).2;rw[zEB]at v ⊢;unfold zAO at v ⊢;split
  .rename_i X;rw[bg X]at v;obtain⟨Y,z⟩:=zAR V;have J:=zHE U Y;rw[z]at J;exact I.append (.one (by omega) A (.inl ⟨rfl,y,J,by rw[z];exact v,by rw[z],rfl,rfl⟩))
  .exact I
theorem zKi {m:C}{M:R Vir}{v L:R Dev}{u ct:G->a0}{o:G}{h:R OpA}(y:TreeWf L)(z:(L:C)<=m)(A:0<=o/\o<=1000000)(F:SetOk M L ct)(I:KRun m v u o h L ct o):∀ k,k<=(L:C)->KRun m v u o (setF M L ct h k).2 L (setF M L ct h k).1 o
 | 0,_=>I
 | k+1,hk=>by
  have J:=zKi y z A F I k (by omega);have U:=List.getElem?_eq_getElem (l:=L) (i:=k) (by omega);have N:L[k]∈L:=List.getElem_mem _;rw[zD7 U];unfold zAa;split
  .rename_i O;obtain⟨V,X,Y⟩:=F _ N;have Z:virB L L[k].index=true:=by
    rw[Bool.and_eq_true]at O;exact O.1
   obtain⟨h4,h5⟩:=Y Z;exact J.append (.one z A (.inr (.inl ⟨rfl,rfl,L[k],zHE y N,V,h4,X,h5,rfl,rfl,rfl⟩)))
  .exact J
theorem zJi {h:G}(u:(ds:C)<=m)(o:0<=h/\h<=1000000)(hR:RemOk M ds)(v:TreeWf (remF M ds (revR ds)).1)(y:SetOk M (remF M ds (revR ds)).1 ct):
  KRun m (ds.map strip) ct h (setF M (remF M ds (revR ds)).1 ct (remF M ds (revR ds)).2 (remF M ds (revR ds)).1.length).2 (remF M ds (revR ds)).1 (setF M (remF M ds (revR ds)).1 ct (remF M ds (revR ds)).2 (remF M ds (revR ds)).1.length).1 h:=
 zKi v (by have:=(zCh M ds (revR ds)).2;omega) o y (zKp ct h u o hR _ _ rfl (List.prefix_refl _)) _ (da _)
def ren (f:G->G)(d:Dev):Dev:={ d with index:=f d.index,parent:=f d.parent }
structure Ren (f:G->G):Prop where
 inj:∀ a b,f a=f b->a=b
 z:f 0=0
theorem Ren.beq (h:Ren f)(a b:G):(f a==f b)=(a==b):=by
 by_cases e:a=b;·subst e;simp
 .have:f a≠f b:=λo=>e (h.inj _ _ o)
  rw[beq_eq_false_iff_ne.2 e,beq_eq_false_iff_ne.2 this]
theorem Ren.beq0 (h:Ren f)(a:G):(f a==0)=(a==0):=by have:=h.beq a 0;rw[h.z]at this;exact this
def swp (a b:G)(n:G):G:=if n=a then b else if n=b then a else n
theorem zOj (a b:G):∀ x y,swp a b x=swp a b y->x=y:=by
 intro x y h;unfold swp at h;split at h<;>split at h<;>(try split at h)<;>(try split at h)<;>omega
theorem Ren.swp (h:Ren f){m:G}(o:m≠0)(u:i≠0):Ren (λn=>swp (f m) i (f n)):=
 ⟨λa b e=>h.inj _ _ (zOj _ _ _ _ e),by
  have v:(0:G)≠f m:=λe=>o (h.inj _ _ (by rw[h.z];exact e.symm))
  show Go.Proofs.YtjohgekljmhheaaGreatDoor.swp (f m) i (f 0)=0
  rw[h.z];unfold Go.Proofs.YtjohgekljmhheaaGreatDoor.swp;rw[bi v,bi (λe=>u e.symm)]⟩
theorem zPu (f:G->G)(m i:G):swp (f m) i (f m)=i:=by unfold swp;rw[bg rfl]
theorem Ren.swp_off (h:Ren f){m n:G}(o:n≠m)(u:f n≠i):Go.Proofs.YtjohgekljmhheaaGreatDoor.swp (f m) i (f n)=f n:=by
 unfold Go.Proofs.YtjohgekljmhheaaGreatDoor.swp;rw[bi (λe=>o (h.inj _ _ e)),bi u]
section
variable {ds:R Dev}{n:G}{f:G->G}
theorem zBe (o:Ren f):look (ds.map (ren f)) (f n)=(look ds n).map (ren f):=by
 unfold look;rw[cp]
 congr 1
 congr 1
 funext d
 show decide (f d.index=f n)=decide (d.index=n)
 by_cases e:d.index=n;·simp[e]
 .have:f d.index≠f n:=λh=>e (o.inj _ _ h)
  simp[e,this]
theorem zFR (h:Ren f):∀ (k:C) (n:G),chainK (ds.map (ren f)) k (f n)=(chainK ds k n).map (ren f)
 | 0,_=>rfl
 | k+1,n=>by
  unfold chainK;rw[zBe h];cases look ds n with
  | none=>rfl
  | some d=>show ren f d::chainK (ds.map (ren f)) k (f d.parent)=_;rw[zFR h k d.parent];rfl
theorem zLx (h:Ren f):chain (ds.map (ren f)) (f n)=(chain ds n).map (ren f):=by unfold chain;rw[bc,zFR h]
theorem zB9 (h:Ren f):origin (ds.map (ren f)) (f n)=origin ds n:=by unfold origin;rw[zLx h,bu];rfl
theorem zCT (h:Ren f):plc (ds.map (ren f)) (f n)=plc ds n:=by
 unfold plc;rw[zBe h,zB9 h];cases look ds n<;>rfl
theorem zLX (k:C)(d:Dev):insAt (ds.map (ren f)) k (ren f d)=(insAt ds k d).map (ren f):=by
 unfold insAt;rw[bs,cf,bw,cg]
theorem zMC (h:Ren f)(s:a0):(ds.map (ren f)).find? (atP (ds.map (ren f)) s)=(ds.find? (atP ds s)).map (ren f):=by
 rw[cp]
 congr 1
 congr 1
 funext d
 unfold atP;show ((plc (ds.map (ren f)) (f d.index)).toList==s.toList)=_
 rw[zCT h]
theorem zFx (h:Ren f)(d:Dev):newO (ds.map (ren f)) (ren f d)=newO ds d:=by
 unfold newO;show plc (ds.map (ren f)) (f d.parent)++_++_=_
 rw[zCT h];rfl
theorem zIv (h:Ren f)(d:Dev):insK (ds.map (ren f)) (ren f d)=insK ds d:=by
 unfold insK;rw[zFx h,zF9,bc];have e:(zAD (ds.map (ren f)) (newO ds d)∘ren f)=zAD ds (newO ds d):=by
  funext x
  unfold zAD;show decide (0<=(cmpP (plc (ds.map (ren f)) (f x.index)) _).1)=_
  rw[zCT h]
 rw[e]
theorem zKl (h:Ren f)(d:Dev):sameO (ds.map (ren f)) (ren f d)=sameO ds d:=by
 unfold sameO;rw[zIv h,zFx h,cd];cases ds[insK ds d]? with
 | none=>rfl
 | some x=>show ((plc (ds.map (ren f)) (f x.index)).toList==_)=_;rw[zCT h]
theorem zPb (h:Ren f)(d:Dev):(ds.map (ren f)).any (clP (ren f d))=ds.any (clP d):=by
 rw[cl]
 congr 1
 funext x
 show ((f x.index != f d.index)&&clB x d)=_
 unfold bne;rw[h.beq];rfl
theorem zK3 (u:Ren f)(h:ParIs ds s p):ParIs (ds.map (ren f)) s (f p):=by
 unfold ParIs at h ⊢;rw[zMC u];rcases h with⟨o,v,rfl⟩|⟨d,o,rfl⟩
 .exact .inl ⟨by rw[o];rfl,v,u.z⟩
 .exact .inr ⟨ren f d,by rw[o];rfl,rfl⟩
theorem TreeOk.ren (A:Ren f)(h:TreeOk ds)(I:∀ d∈ds,1<=f d.index/\f d.index<=1073741824):TreeOk (ds.map (ren f)):=by
 refine⟨?_,λd u=>?_,λk d F=>?_,λd u=>?_⟩
 .have e:(ds.map (Go.Proofs.YtjohgekljmhheaaGreatDoor.ren f)).map Dev.index=(ds.map Dev.index).map f:=by rw[bu,bu];rfl
  rw[e];exact dh f (λa b v e=>v (A.inj _ _ e)) h.nd
 .obtain⟨x,o,rfl⟩:=List.mem_map.1 u;exact I x o
 .rw[cd]at F;obtain⟨x,o,rfl⟩:=Option.map_eq_some_iff.1 F;rcases h.pa k x o with y|⟨j,e,J,N,y⟩
  .exact .inl (by show f x.parent=0;rw[y,A.z])
  .exact .inr ⟨j,Go.Proofs.YtjohgekljmhheaaGreatDoor.ren f e,J,by rw[cd,N];rfl,by show f e.index=f x.parent;rw[y]⟩
 .obtain⟨x,o,rfl⟩:=List.mem_map.1 u;exact h.nm x o
theorem TreeWf.ren (o:Ren f)(h:TreeWf ds)(A:∀ d∈ds,1<=f d.index/\f d.index<=1073741824):TreeWf (ds.map (ren f)):=by
 refine⟨h.ok.ren o A,λd u e F I=>?_,λd u=>?_⟩
 .obtain⟨x,v,rfl⟩:=List.mem_map.1 u;obtain⟨y,J,rfl⟩:=List.mem_map.1 F;have z:origin (ds.map (Go.Proofs.YtjohgekljmhheaaGreatDoor.ren f)) (f x.index)=origin (ds.map (Go.Proofs.YtjohgekljmhheaaGreatDoor.ren f)) (f y.index):=I;rw[zB9 o,zB9 o]at z;rw[h.uo x v y J z]
 .obtain⟨x,v,rfl⟩:=List.mem_map.1 u;show (origin (ds.map (Go.Proofs.YtjohgekljmhheaaGreatDoor.ren f)) (f x.index)).length<=7
  rw[zB9 o];exact h.dp x v
end
structure SimK (f:G->G)(L:R Dev)(ct:G->a0)(K:R Dev)(ck:G->a0)(ix:G):Prop where
 ren:Ren f
 eq:K=L.map (Go.Proofs.YtjohgekljmhheaaGreatDoor.ren f)
 ct:∀ d∈L,ck (f d.index)=ct d.index
 lo:∀ d∈L,1<=f d.index/\f d.index<=ix
 pos:0<=ix
 wf:TreeWf L
theorem SimK.id {o:G}(u:TreeWf L)(h:∀ d∈L,d.index<=o)(y:0<=o):SimK (λn=>n) L ct L ct o:=
 ⟨⟨λ_ _ e=>e,rfl⟩,(List.map_id L).symm,λ_ _=>rfl,λd v=>⟨(u.ok.ix d v).1,h d v⟩,y,u⟩
theorem SimK.add {K:R Dev}{U:G->a0}{u:G}(h:SimK f L ct K U u)(F:AddOk L v.q v.o v.c p)(hx:u<=1000000){k:C}(hk:k<=(L:C))(hu:usedF L (1048576+(k:G))=aq)(Z:al am):
  ∃ f' K',KStp K U u ⟨1,v.q,opG v.o (1048576+(k:G)) v.c Z,(),(),v.c⟩ K' (updC U (u+1) v.c) (u+1)/\
   SimK f' (insAt L (insK L (newG L p v.o (1048576+(k:G)) v.c B)) (strip (newG L p v.o (1048576+(k:G)) v.c B))) (updC ct (maxI L+1) v.c) K' (updC U (u+1) v.c) (u+1):=by
 obtain⟨A,J,h3,h4⟩:=F.pre k hk hu Z;obtain⟨D,N⟩:=ε (newG L p v.o (1048576+(k:G)) v.c Z)
 have eS:strip (newG L p v.o (1048576+(k:G)) v.c B)=strip D:=by rw[N];rfl
 have eI:insK L (newG L p v.o (1048576+(k:G)) v.c B)=insK L D:=by rw[N];rfl
 rw[eS,eI];rw[<-N]at A J h3 h4;have V:D.index=maxI L+1:=by rw[N];rfl
 have dp:D.parent=p:=by rw[N];rfl
 obtain⟨m,I⟩:=ε (maxI L+1)
 have a2:m≠0:=by have:=F.mx;omega
 have a3:=h.pos;obtain⟨g,hg⟩:∃ g:G->G,g=λn=>swp (f m) (u+1) (f n):=⟨_,rfl⟩
 have hR:Ren g:=by rw[hg];exact h.ren.swp a2 (by omega)
 have gm:g m=u+1:=by rw[hg];exact zPu f m (u+1)
 have O:∀ d∈L,g d.index=f d.index:=λd y=>by
  rw[hg];exact h.ren.swp_off (λe=>zv.1 A.new d y (by rw[V,<-I];exact e)) (by have:=(h.lo d y).2;omega)
 have gp:∀ d∈L,g d.parent=f d.parent:=λd y=>by
  obtain⟨j,hj⟩:=cr y;rcases h.wf.ok.pa j d hj with e|⟨_,e,_,he,hi⟩
  .rw[e,hR.z,h.ren.z]
  .rw[<-hi];exact O e (cy he)
 have hK:K=L.map (Go.Proofs.YtjohgekljmhheaaGreatDoor.ren g):=by
  rw[h.eq];refine List.map_congr_left λd y=>?_
  unfold Go.Proofs.YtjohgekljmhheaaGreatDoor.ren;rw[O d y,gp d y]
 have a4:g p=0\/(1<=g p/\g p<=u):=by
  rcases F.par with⟨_,_,e⟩|⟨d,y,e⟩
  .exact .inl (by rw[e,hR.z])
  .have I:=bz y;rw[e,O d I];exact .inr (h.lo d I)
 have X:addD (opG v.o (1048576+(k:G)) v.c Z) u (g p)=Go.Proofs.YtjohgekljmhheaaGreatDoor.ren g D:=by
  rw[N];unfold Go.Proofs.YtjohgekljmhheaaGreatDoor.ren newG addD opG;dsimp only;rw[<-I,gm]
 have hb:∀ d∈insAt L (insK L D) (strip D),1<=g d.index/\g d.index<=u+1:=λd y=>by
  rcases zV.1 y with e|e
  .rw[e];show 1<=g D.index/\g D.index<=u+1
   rw[V,<-I,gm];omega
  .rw[O d e];have:=h.lo d e;omega
 have Y:TreeWf (insAt L (insK L D) (strip D)):=h4.ofStrip (by
  unfold insAt;simp only[bs,bw,cg,cf];rfl)
 have eK:insAt K (insK K (Go.Proofs.YtjohgekljmhheaaGreatDoor.ren g D)) (strip (Go.Proofs.YtjohgekljmhheaaGreatDoor.ren g D))=(insAt L (insK L D) (strip D)).map (Go.Proofs.YtjohgekljmhheaaGreatDoor.ren g):=by
  rw[hK,zIv hR,<-zLX];rfl
 refine⟨g,insAt K (insK K (Go.Proofs.YtjohgekljmhheaaGreatDoor.ren g D)) (strip (Go.Proofs.YtjohgekljmhheaaGreatDoor.ren g D)),.inr (.inr ⟨rfl,rfl,g p,?_,?_,?_,?_,?_,?_,?_,rfl,rfl⟩),hR,eK,?_,hb,by omega,Y⟩;·rw[hK];exact zK3 hR F.par
 .exact dg (by show _/\_;omega)
 .dsimp only;rw[X];exact⟨J.name,J.orig,J.sub,J.drv,J.ali⟩
 .dsimp only;rw[X,hK];refine⟨⟨?_,A.snd.named,A.snd.same,A.snd.num,A.snd.attrs,A.snd.link⟩,?_,?_,by rw[bc];exact A.len,by rw[zFx hR];exact A.dep⟩
  .unfold rngB;show (decide (1<=g D.index)&&decide (g D.index<=1073741824)&&(decide (0<=g D.parent)&&decide (g D.parent<=1073741824))&&!(g D.parent==g D.index))=au
   rw[V,dp,<-I,gm];have:¬ (g p=u+1):=(by omega);simp[this];omega
  .show look (L.map (Go.Proofs.YtjohgekljmhheaaGreatDoor.ren g)) (g D.index)=B
   rw[zBe hR,A.new];rfl
  .show ((g D.parent==0)||(look (L.map (Go.Proofs.YtjohgekljmhheaaGreatDoor.ren g)) (g D.parent)).isSome)=au
   rw[zBe hR,hR.beq0,Option.isSome_map];exact A.par
 .dsimp only;rw[X,hK,zKl hR,zPb hR];exact h3
 .dsimp only;rw[X,eK];exact Y.ren hR (λd y=>by have:=hb d y;omega)
 .dsimp only;rw[X]
 .intro d y;rcases zV.1 y with e|e
  .rw[e];show updC U (u+1) v.c (g D.index)=updC ct (maxI L+1) v.c D.index
   rw[V,<-I,gm];unfold updC;rw[bg rfl,bg rfl]
  .have n1:g d.index≠u+1:=by rw[O d e];have:=h.lo d e;omega
   have n2:d.index≠maxI L+1:=λe'=>zv.1 A.new d e (by rw[V];exact e')
   unfold updC;rw[bi n1,bi n2,O d e];exact h.ct d e
theorem zGm {q:G}(h:ParIs L s p)(z:ParIs L s q):p=q:=by
 rcases h with⟨u,_,v⟩|⟨d,u,v⟩<;>rcases z with⟨o,_,y⟩|⟨e,o,y⟩
 .rw[v,y]
 .rw[u]at o;cases o
 .rw[u]at o;cases o
 .rw[u]at o;cases o;rw[v,y]
theorem zFl (pre:R (G×Dev)):∀ d∈(remF M ds pre).1,d∈ds.map strip:=by
 have h:∀ (pre:R (G×Dev)) (s:R Dev×R OpA),(∀ d∈s.1,d∈ds.map strip)->∀ d∈(pre.foldl (λs x=>zAO M s x.2) s).1,d∈ds.map strip:=by
  intro pre
  induction pre with
  | nil=>intro s h;exact h
  | cons x t u=>
   intro s h;apply u _;show ∀ d∈(zAO M s x.2).1,d∈ds.map strip
   unfold zAO;split
   .intro d o;exact h d (List.mem_filter.1 o).1
   .exact h
 exact h pre _ (λd o=>o)
def PInv (m:C)(L0:R Dev)(ct0:G->a0)(ix0:G)(P:C->R Dev->(G->a0)->R OpA->Prop)(j:C)(L:R Dev)(ct:G->a0)(ops:R OpA):Prop:=
 P j L ct ops/\(ops:C)<=2*m+j/\∃ f K ck ix,KRun m L0 ct0 ix0 ops K ck ix/\SimK f L ct K ck ix/\ix<=ix0+j
theorem PInv.step {Z:R Dev}{N:G->a0}{z:G}{P:C->R Dev->(G->a0)->R OpA->Prop}{V:R Dev}{I:G->a0}{O:R OpA}(h:PInv m Z N z P j L ct O)(hL:(L:C)<=m)(hj:j<250)(hx:0<=z/\z<=900000)(A:(∃ dt,L.find? (atP L (v.q++(⟨#[47]⟩:a0)++v.o))=E dt)\/AddOk L v.q v.o v.c p)(hs:zBy L ct O v V I y)(hP:P (j+1) V I y):PInv m Z N z P (j+1) V I y:=by
 obtain⟨_,a2,f,K,ck,ix,F,u,a3⟩:=h;rcases hs with⟨_,rfl,rfl,rfl⟩|⟨X,k,aa,q,hk,hu,hq,rfl,rfl,rfl⟩
 .exact⟨hP,by omega,f,K,ck,ix,F,u,by push_cast;omega⟩
 .rcases A with⟨dt,U⟩|A
  .rw[X]at U;cases U
  .obtain rfl:q=p:=zGm hq A.par;obtain⟨f',K',Y,J⟩:=u.add A (by omega) hk.1 hu aa;exact⟨hP,by rw[ce];simp;omega,f',K',_,ix+1,F.append (.one (by rw[u.eq,bc];exact hL) ⟨u.pos,by omega⟩ Y),J,by push_cast;omega⟩
theorem zH8 (m:C)(hm:m<=250)(F:C)(a:al am)(J:C)(ds:R Dev)(ct:G->a0)(M:R Vir)(V:al am)(X:C)(w:aj)(hl:Tr w F a J ds)(hn:(ds:C)<=m)(hE:Env w)(Y:TrT w a ds)(hC:CtO w ds ct)(hM:Virs w V X M)(Z:(M:C)<=250)(a2:DistP M)(a3:∀ v∈M,v.q.size<=100000/\v.o.size<=100000)(a4:F<=(w:C))
  (hR:RemOk M ds) (a5:∀ d∈ds,d.kind=2) (hW:TreeWf (remF M ds (revR ds)).1) (hS:SetOk M (remF M ds (revR ds)).1 ct) (A:G) (hx:0<=A/\A<=900000) (hi:∀ d∈ds,d.index<=A)
  (P:C->R Dev->(G->a0)->R OpA->Prop) (a6:P 0 (remF M ds (revR ds)).1 (setF M (remF M ds (revR ds)).1 ct (remF M ds (revR ds)).2 (remF M ds (revR ds)).1.length).1 (setF M (remF M ds (revR ds)).1 ct (remF M ds (revR ds)).2 (remF M ds (revR ds)).1.length).2)
  (O:∀ j v L ct u,M[j]?=E v->P j L ct u->L.length<=m/\∃ p,ParIs L v.q p/\((∃ dt,L.find? (atP L (v.q++(⟨#[47]⟩:a0)++v.o))=E dt)\/AddOk L v.q v.o v.c p))
  (a7:∀ j v L ct u U I z,M[j]?=E v->P j L ct u->zBy L ct u v U I z->P (j+1) U I z):
  bd ay 23 #[ar #[ab a ds J],ab V M X] w λe w'=>(∃ (L:R Dev) (I:G->a0) (u:R OpA) (av:al am) (cv:C),PInv m (ds.map strip) ct A P (M:C) L I u/\e=.returned (ab av u.length cv)/\w'.ownsRow (w:C) 72 14 (ab av u.length cv) u.length (opF u)/\OpsOk w' (w:C) u)/\Fr No w w':=by
 have a8:=zCh M ds (revR ds);have b0:=zIU M (remF M ds (revR ds)).1 ct (remF M ds (revR ds)).2 (remF M ds (revR ds)).1.length;rw[zAf]at a8;refine zJP F a J ds ct M V X w hl (by omega) hE Y hC hM Z a2 a3 a4 hR a5 hS (PInv m (ds.map strip) ct A P) ⟨a6,by omega,λn=>n,_,_,A,zJi hn ⟨hx.1,by omega⟩ hR hW hS,SimK.id hW (λd hd=>?_) hx.1,by simp⟩ (λj v L c u N h=>?_) (λj v L c u U c' z N h hs=>?_)
 .obtain⟨y,hy,rfl⟩:=List.mem_map.1 (zFl _ d hd);exact hi y hy
 .have a9:=(List.getElem?_eq_some_iff.1 N).1;obtain⟨h1,h2⟩:=O j v L c u N h.1;exact⟨by omega,by have:=h.2.1;omega,h2⟩
 .have a9:=(List.getElem?_eq_some_iff.1 N).1;obtain⟨h1,p,_,h2⟩:=O j v L c u N h.1;exact h.step h1 (by omega) hx h2 hs (a7 j v L c u U c' z N h.1 hs)
end Go.Proofs.YtjohgekljmhheaaGreatDoor
