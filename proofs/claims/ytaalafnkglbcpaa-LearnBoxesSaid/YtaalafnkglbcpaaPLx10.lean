/- learn.Same: see ..Same. -/
import Derived.Test.YtaalafnkglbcpaaSame
