/- The walk of the reference's Formed of commands. Conditions: what lies, lies below. (Printed by gen_rcformed.py.) -/
import Derived.Test.YtjofjpmhokjhnaaDoorMbM1
import Derived.Test.YtjofjpmhokjhnaaDoorMbM17
import Derived.Test.YtjofjpmhokjhnaaDoorMbM29
